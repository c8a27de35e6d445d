/-
  The masks of layer 14 as quotients and remainders; written by gen_lb.py. No condition.
-/
import Derived.Test.YtonbliaaicacgaaLA
import Derived.Test.YtonbliaaicacgaaVO
namespace Go.Proofs.Ytonbliaaicacgaa
open Go VX

theorem bOr_comm (k : IntKind) (a b : Int) : bOr k a b = bOr k b a := by unfold bOr; rw [BitVec.or_comm]

theorem and_u16_31 {a : Int} (h0 : 0 ≤ a) (h1 : a < 65536) : bAnd .u16 a 31 = a % 32 := by
  have := bAnd_field (k := .u16) rfl 0 5 (m := 31) rfl h0 h1 (by decide)
  simpa using this

theorem and_u16_992 {a : Int} (h0 : 0 ≤ a) (h1 : a < 65536) : bAnd .u16 a 992 = a / 32 % 32 * 32 := by
  have := bAnd_field (k := .u16) rfl 5 5 (m := 992) rfl h0 h1 (by decide)
  simpa using this

theorem and_u16_3 {a : Int} (h0 : 0 ≤ a) (h1 : a < 65536) : bAnd .u16 a 3 = a % 4 := by
  have := bAnd_field (k := .u16) rfl 0 2 (m := 3) rfl h0 h1 (by decide)
  simpa using this

theorem and_u16_2 {a : Int} (h0 : 0 ≤ a) (h1 : a < 65536) : bAnd .u16 a 2 = a / 2 % 2 * 2 := by
  have := bAnd_field (k := .u16) rfl 1 1 (m := 2) rfl h0 h1 (by decide)
  simpa using this

theorem and_u16_3072 {a : Int} (h0 : 0 ≤ a) (h1 : a < 65536) : bAnd .u16 a 3072 = a / 1024 % 4 * 1024 := by
  have := bAnd_field (k := .u16) rfl 10 2 (m := 3072) rfl h0 h1 (by decide)
  simpa using this

theorem and_u16_4095 {a : Int} (h0 : 0 ≤ a) (h1 : a < 65536) : bAnd .u16 a 4095 = a % 4096 := by
  have := bAnd_field (k := .u16) rfl 0 12 (m := 4095) rfl h0 h1 (by decide)
  simpa using this

theorem and_u16_1023 {a : Int} (h0 : 0 ≤ a) (h1 : a < 65536) : bAnd .u16 a 1023 = a % 1024 := by
  have := bAnd_field (k := .u16) rfl 0 10 (m := 1023) rfl h0 h1 (by decide)
  simpa using this

theorem and_u16_1024 {a : Int} (h0 : 0 ≤ a) (h1 : a < 65536) : bAnd .u16 a 1024 = a / 1024 % 2 * 1024 := by
  have := bAnd_field (k := .u16) rfl 10 1 (m := 1024) rfl h0 h1 (by decide)
  simpa using this

theorem and_u16_2047 {a : Int} (h0 : 0 ≤ a) (h1 : a < 65536) : bAnd .u16 a 2047 = a % 2048 := by
  have := bAnd_field (k := .u16) rfl 0 11 (m := 2047) rfl h0 h1 (by decide)
  simpa using this

theorem and_u16_28672 {a : Int} (h0 : 0 ≤ a) (h1 : a < 65536) : bAnd .u16 a 28672 = a / 4096 % 8 * 4096 := by
  have := bAnd_field (k := .u16) rfl 12 3 (m := 28672) rfl h0 h1 (by decide)
  simpa using this

theorem and_u16_32767 {a : Int} (h0 : 0 ≤ a) (h1 : a < 65536) : bAnd .u16 a 32767 = a % 32768 := by
  have := bAnd_field (k := .u16) rfl 0 15 (m := 32767) rfl h0 h1 (by decide)
  simpa using this

theorem and_u16_32512 {a : Int} (h0 : 0 ≤ a) (h1 : a < 65536) : bAnd .u16 a 32512 = a / 256 % 128 * 256 := by
  have := bAnd_field (k := .u16) rfl 8 7 (m := 32512) rfl h0 h1 (by decide)
  simpa using this

theorem and_u16_1 {a : Int} (h0 : 0 ≤ a) (h1 : a < 65536) : bAnd .u16 a 1 = a % 2 := by
  have := bAnd_field (k := .u16) rfl 0 1 (m := 1) rfl h0 h1 (by decide)
  simpa using this

theorem and_u16_4 {a : Int} (h0 : 0 ≤ a) (h1 : a < 65536) : bAnd .u16 a 4 = a / 4 % 2 * 4 := by
  have := bAnd_field (k := .u16) rfl 2 1 (m := 4) rfl h0 h1 (by decide)
  simpa using this

theorem and_u16_7 {a : Int} (h0 : 0 ≤ a) (h1 : a < 65536) : bAnd .u16 a 7 = a % 8 := by
  have := bAnd_field (k := .u16) rfl 0 3 (m := 7) rfl h0 h1 (by decide)
  simpa using this

theorem and_u16_15 {a : Int} (h0 : 0 ≤ a) (h1 : a < 65536) : bAnd .u16 a 15 = a % 16 := by
  have := bAnd_field (k := .u16) rfl 0 4 (m := 15) rfl h0 h1 (by decide)
  simpa using this

theorem and_u16_255 {a : Int} (h0 : 0 ≤ a) (h1 : a < 65536) : bAnd .u16 a 255 = a % 256 := by
  have := bAnd_field (k := .u16) rfl 0 8 (m := 255) rfl h0 h1 (by decide)
  simpa using this

theorem and_u16_16383 {a : Int} (h0 : 0 ≤ a) (h1 : a < 65536) : bAnd .u16 a 16383 = a % 16384 := by
  have := bAnd_field (k := .u16) rfl 0 14 (m := 16383) rfl h0 h1 (by decide)
  simpa using this

theorem and_u16_256 {a : Int} (h0 : 0 ≤ a) (h1 : a < 65536) : bAnd .u16 a 256 = a / 256 % 2 * 256 := by
  have := bAnd_field (k := .u16) rfl 8 1 (m := 256) rfl h0 h1 (by decide)
  simpa using this

theorem and_u16_2048 {a : Int} (h0 : 0 ≤ a) (h1 : a < 65536) : bAnd .u16 a 2048 = a / 2048 % 2 * 2048 := by
  have := bAnd_field (k := .u16) rfl 11 1 (m := 2048) rfl h0 h1 (by decide)
  simpa using this

theorem and_u16_4096 {a : Int} (h0 : 0 ≤ a) (h1 : a < 65536) : bAnd .u16 a 4096 = a / 4096 % 2 * 4096 := by
  have := bAnd_field (k := .u16) rfl 12 1 (m := 4096) rfl h0 h1 (by decide)
  simpa using this

theorem and_u16_63 {a : Int} (h0 : 0 ≤ a) (h1 : a < 65536) : bAnd .u16 a 63 = a % 64 := by
  have := bAnd_field (k := .u16) rfl 0 6 (m := 63) rfl h0 h1 (by decide)
  simpa using this

theorem and_u16_32736 {a : Int} (h0 : 0 ≤ a) (h1 : a < 65536) : bAnd .u16 a 32736 = a / 32 % 1024 * 32 := by
  have := bAnd_field (k := .u16) rfl 5 10 (m := 32736) rfl h0 h1 (by decide)
  simpa using this

theorem and_u16_240 {a : Int} (h0 : 0 ≤ a) (h1 : a < 65536) : bAnd .u16 a 240 = a / 16 % 16 * 16 := by
  have := bAnd_field (k := .u16) rfl 4 4 (m := 240) rfl h0 h1 (by decide)
  simpa using this

theorem and_u16_248 {a : Int} (h0 : 0 ≤ a) (h1 : a < 65536) : bAnd .u16 a 248 = a / 8 % 32 * 8 := by
  have := bAnd_field (k := .u16) rfl 3 5 (m := 248) rfl h0 h1 (by decide)
  simpa using this

theorem and_u16_3968 {a : Int} (h0 : 0 ≤ a) (h1 : a < 65536) : bAnd .u16 a 3968 = a / 128 % 32 * 128 := by
  have := bAnd_field (k := .u16) rfl 7 5 (m := 3968) rfl h0 h1 (by decide)
  simpa using this

theorem and_u8_7 {a : Int} (h0 : 0 ≤ a) (h1 : a < 256) : bAnd .u8 a 7 = a % 8 := by
  have := bAnd_field (k := .u8) rfl 0 3 (m := 7) rfl h0 h1 (by decide)
  simpa using this

theorem and_u8_1 {a : Int} (h0 : 0 ≤ a) (h1 : a < 256) : bAnd .u8 a 1 = a % 2 := by
  have := bAnd_field (k := .u8) rfl 0 1 (m := 1) rfl h0 h1 (by decide)
  simpa using this

theorem and_u8_3 {a : Int} (h0 : 0 ≤ a) (h1 : a < 256) : bAnd .u8 a 3 = a % 4 := by
  have := bAnd_field (k := .u8) rfl 0 2 (m := 3) rfl h0 h1 (by decide)
  simpa using this

theorem and_u8_15 {a : Int} (h0 : 0 ≤ a) (h1 : a < 256) : bAnd .u8 a 15 = a % 16 := by
  have := bAnd_field (k := .u8) rfl 0 4 (m := 15) rfl h0 h1 (by decide)
  simpa using this

theorem and_u8_16 {a : Int} (h0 : 0 ≤ a) (h1 : a < 256) : bAnd .u8 a 16 = a / 16 % 2 * 16 := by
  have := bAnd_field (k := .u8) rfl 4 1 (m := 16) rfl h0 h1 (by decide)
  simpa using this

theorem and_u8_31 {a : Int} (h0 : 0 ≤ a) (h1 : a < 256) : bAnd .u8 a 31 = a % 32 := by
  have := bAnd_field (k := .u8) rfl 0 5 (m := 31) rfl h0 h1 (by decide)
  simpa using this

theorem and_u8_63 {a : Int} (h0 : 0 ≤ a) (h1 : a < 256) : bAnd .u8 a 63 = a % 64 := by
  have := bAnd_field (k := .u8) rfl 0 6 (m := 63) rfl h0 h1 (by decide)
  simpa using this

theorem and_u8_248 {a : Int} (h0 : 0 ≤ a) (h1 : a < 256) : bAnd .u8 a 248 = a / 8 % 32 * 8 := by
  have := bAnd_field (k := .u8) rfl 3 5 (m := 248) rfl h0 h1 (by decide)
  simpa using this

theorem and_u8_224 {a : Int} (h0 : 0 ≤ a) (h1 : a < 256) : bAnd .u8 a 224 = a / 32 % 8 * 32 := by
  have := bAnd_field (k := .u8) rfl 5 3 (m := 224) rfl h0 h1 (by decide)
  simpa using this

theorem shr_u8_1 (a : Int) : bShr .u8 a 1 = a / 2 := by
  show a.fdiv 2 = _
  exact Int.fdiv_eq_ediv_of_nonneg _ (by decide)
theorem shl_u8_1 (a : Int) : bShl .u8 a 1 = IntKind.u8.wrap (a * 2) := rfl

theorem shr_u8_2 (a : Int) : bShr .u8 a 2 = a / 4 := by
  show a.fdiv 4 = _
  exact Int.fdiv_eq_ediv_of_nonneg _ (by decide)
theorem shl_u8_2 (a : Int) : bShl .u8 a 2 = IntKind.u8.wrap (a * 4) := rfl

theorem shr_u8_3 (a : Int) : bShr .u8 a 3 = a / 8 := by
  show a.fdiv 8 = _
  exact Int.fdiv_eq_ediv_of_nonneg _ (by decide)
theorem shl_u8_3 (a : Int) : bShl .u8 a 3 = IntKind.u8.wrap (a * 8) := rfl

theorem shr_u8_4 (a : Int) : bShr .u8 a 4 = a / 16 := by
  show a.fdiv 16 = _
  exact Int.fdiv_eq_ediv_of_nonneg _ (by decide)
theorem shl_u8_4 (a : Int) : bShl .u8 a 4 = IntKind.u8.wrap (a * 16) := rfl

theorem shr_u8_5 (a : Int) : bShr .u8 a 5 = a / 32 := by
  show a.fdiv 32 = _
  exact Int.fdiv_eq_ediv_of_nonneg _ (by decide)
theorem shl_u8_5 (a : Int) : bShl .u8 a 5 = IntKind.u8.wrap (a * 32) := rfl

theorem shr_u8_6 (a : Int) : bShr .u8 a 6 = a / 64 := by
  show a.fdiv 64 = _
  exact Int.fdiv_eq_ediv_of_nonneg _ (by decide)
theorem shl_u8_6 (a : Int) : bShl .u8 a 6 = IntKind.u8.wrap (a * 64) := rfl

theorem shr_u8_7 (a : Int) : bShr .u8 a 7 = a / 128 := by
  show a.fdiv 128 = _
  exact Int.fdiv_eq_ediv_of_nonneg _ (by decide)
theorem shl_u8_7 (a : Int) : bShl .u8 a 7 = IntKind.u8.wrap (a * 128) := rfl

theorem shr_u16_1 (a : Int) : bShr .u16 a 1 = a / 2 := by
  show a.fdiv 2 = _
  exact Int.fdiv_eq_ediv_of_nonneg _ (by decide)
theorem shl_u16_1 (a : Int) : bShl .u16 a 1 = IntKind.u16.wrap (a * 2) := rfl

theorem shr_u16_2 (a : Int) : bShr .u16 a 2 = a / 4 := by
  show a.fdiv 4 = _
  exact Int.fdiv_eq_ediv_of_nonneg _ (by decide)
theorem shl_u16_2 (a : Int) : bShl .u16 a 2 = IntKind.u16.wrap (a * 4) := rfl

theorem shr_u16_3 (a : Int) : bShr .u16 a 3 = a / 8 := by
  show a.fdiv 8 = _
  exact Int.fdiv_eq_ediv_of_nonneg _ (by decide)
theorem shl_u16_3 (a : Int) : bShl .u16 a 3 = IntKind.u16.wrap (a * 8) := rfl

theorem shr_u16_4 (a : Int) : bShr .u16 a 4 = a / 16 := by
  show a.fdiv 16 = _
  exact Int.fdiv_eq_ediv_of_nonneg _ (by decide)
theorem shl_u16_4 (a : Int) : bShl .u16 a 4 = IntKind.u16.wrap (a * 16) := rfl

theorem shr_u16_5 (a : Int) : bShr .u16 a 5 = a / 32 := by
  show a.fdiv 32 = _
  exact Int.fdiv_eq_ediv_of_nonneg _ (by decide)
theorem shl_u16_5 (a : Int) : bShl .u16 a 5 = IntKind.u16.wrap (a * 32) := rfl

theorem shr_u16_6 (a : Int) : bShr .u16 a 6 = a / 64 := by
  show a.fdiv 64 = _
  exact Int.fdiv_eq_ediv_of_nonneg _ (by decide)
theorem shl_u16_6 (a : Int) : bShl .u16 a 6 = IntKind.u16.wrap (a * 64) := rfl

theorem shr_u16_7 (a : Int) : bShr .u16 a 7 = a / 128 := by
  show a.fdiv 128 = _
  exact Int.fdiv_eq_ediv_of_nonneg _ (by decide)
theorem shl_u16_7 (a : Int) : bShl .u16 a 7 = IntKind.u16.wrap (a * 128) := rfl

theorem shr_u16_8 (a : Int) : bShr .u16 a 8 = a / 256 := by
  show a.fdiv 256 = _
  exact Int.fdiv_eq_ediv_of_nonneg _ (by decide)
theorem shl_u16_8 (a : Int) : bShl .u16 a 8 = IntKind.u16.wrap (a * 256) := rfl

theorem shr_u16_9 (a : Int) : bShr .u16 a 9 = a / 512 := by
  show a.fdiv 512 = _
  exact Int.fdiv_eq_ediv_of_nonneg _ (by decide)
theorem shl_u16_9 (a : Int) : bShl .u16 a 9 = IntKind.u16.wrap (a * 512) := rfl

theorem shr_u16_10 (a : Int) : bShr .u16 a 10 = a / 1024 := by
  show a.fdiv 1024 = _
  exact Int.fdiv_eq_ediv_of_nonneg _ (by decide)
theorem shl_u16_10 (a : Int) : bShl .u16 a 10 = IntKind.u16.wrap (a * 1024) := rfl

theorem shr_u16_11 (a : Int) : bShr .u16 a 11 = a / 2048 := by
  show a.fdiv 2048 = _
  exact Int.fdiv_eq_ediv_of_nonneg _ (by decide)
theorem shl_u16_11 (a : Int) : bShl .u16 a 11 = IntKind.u16.wrap (a * 2048) := rfl

theorem shr_u16_12 (a : Int) : bShr .u16 a 12 = a / 4096 := by
  show a.fdiv 4096 = _
  exact Int.fdiv_eq_ediv_of_nonneg _ (by decide)
theorem shl_u16_12 (a : Int) : bShl .u16 a 12 = IntKind.u16.wrap (a * 4096) := rfl

theorem shr_u16_13 (a : Int) : bShr .u16 a 13 = a / 8192 := by
  show a.fdiv 8192 = _
  exact Int.fdiv_eq_ediv_of_nonneg _ (by decide)
theorem shl_u16_13 (a : Int) : bShl .u16 a 13 = IntKind.u16.wrap (a * 8192) := rfl

theorem shr_u16_14 (a : Int) : bShr .u16 a 14 = a / 16384 := by
  show a.fdiv 16384 = _
  exact Int.fdiv_eq_ediv_of_nonneg _ (by decide)
theorem shl_u16_14 (a : Int) : bShl .u16 a 14 = IntKind.u16.wrap (a * 16384) := rfl

theorem shr_u16_15 (a : Int) : bShr .u16 a 15 = a / 32768 := by
  show a.fdiv 32768 = _
  exact Int.fdiv_eq_ediv_of_nonneg _ (by decide)
theorem shl_u16_15 (a : Int) : bShl .u16 a 15 = IntKind.u16.wrap (a * 32768) := rfl

theorem or_u8_lo1 {a b : Int} (h0 : 0 ≤ a) (h1 : a < 256) (hb0 : 0 ≤ b) (hb1 : b < 2) (hd : a % 2 = 0) : bOr .u8 a b = a + b := bOr_low (k := .u8) rfl 1 h0 h1 hb0 hb1 hd (by decide)

theorem or_u8_hi1 {a b : Int} (h0 : 0 ≤ a) (h1 : a < 2) (hb0 : 0 ≤ b) (hb1 : b < 256) (hd : b % 2 = 0) : bOr .u8 a b = a + b := by rw [bOr_comm, Int.add_comm]; exact or_u8_lo1 hb0 hb1 h0 h1 hd

theorem xor_u8_2 {a : Int} (h0 : 0 ≤ a) (h1 : a < 256) : bXor .u8 a 2 = a + 2 - 2 * (a / 2 % 2 * 2) := bXor_bit (k := .u8) rfl 1 rfl h0 h1 (by decide)

theorem or_u8_lo2 {a b : Int} (h0 : 0 ≤ a) (h1 : a < 256) (hb0 : 0 ≤ b) (hb1 : b < 4) (hd : a % 4 = 0) : bOr .u8 a b = a + b := bOr_low (k := .u8) rfl 2 h0 h1 hb0 hb1 hd (by decide)

theorem or_u8_hi2 {a b : Int} (h0 : 0 ≤ a) (h1 : a < 4) (hb0 : 0 ≤ b) (hb1 : b < 256) (hd : b % 4 = 0) : bOr .u8 a b = a + b := by rw [bOr_comm, Int.add_comm]; exact or_u8_lo2 hb0 hb1 h0 h1 hd

theorem xor_u8_4 {a : Int} (h0 : 0 ≤ a) (h1 : a < 256) : bXor .u8 a 4 = a + 4 - 2 * (a / 4 % 2 * 4) := bXor_bit (k := .u8) rfl 2 rfl h0 h1 (by decide)

theorem or_u8_lo3 {a b : Int} (h0 : 0 ≤ a) (h1 : a < 256) (hb0 : 0 ≤ b) (hb1 : b < 8) (hd : a % 8 = 0) : bOr .u8 a b = a + b := bOr_low (k := .u8) rfl 3 h0 h1 hb0 hb1 hd (by decide)

theorem or_u8_hi3 {a b : Int} (h0 : 0 ≤ a) (h1 : a < 8) (hb0 : 0 ≤ b) (hb1 : b < 256) (hd : b % 8 = 0) : bOr .u8 a b = a + b := by rw [bOr_comm, Int.add_comm]; exact or_u8_lo3 hb0 hb1 h0 h1 hd

theorem xor_u8_8 {a : Int} (h0 : 0 ≤ a) (h1 : a < 256) : bXor .u8 a 8 = a + 8 - 2 * (a / 8 % 2 * 8) := bXor_bit (k := .u8) rfl 3 rfl h0 h1 (by decide)

theorem or_u8_lo4 {a b : Int} (h0 : 0 ≤ a) (h1 : a < 256) (hb0 : 0 ≤ b) (hb1 : b < 16) (hd : a % 16 = 0) : bOr .u8 a b = a + b := bOr_low (k := .u8) rfl 4 h0 h1 hb0 hb1 hd (by decide)

theorem or_u8_hi4 {a b : Int} (h0 : 0 ≤ a) (h1 : a < 16) (hb0 : 0 ≤ b) (hb1 : b < 256) (hd : b % 16 = 0) : bOr .u8 a b = a + b := by rw [bOr_comm, Int.add_comm]; exact or_u8_lo4 hb0 hb1 h0 h1 hd

theorem xor_u8_16 {a : Int} (h0 : 0 ≤ a) (h1 : a < 256) : bXor .u8 a 16 = a + 16 - 2 * (a / 16 % 2 * 16) := bXor_bit (k := .u8) rfl 4 rfl h0 h1 (by decide)

theorem or_u8_lo5 {a b : Int} (h0 : 0 ≤ a) (h1 : a < 256) (hb0 : 0 ≤ b) (hb1 : b < 32) (hd : a % 32 = 0) : bOr .u8 a b = a + b := bOr_low (k := .u8) rfl 5 h0 h1 hb0 hb1 hd (by decide)

theorem or_u8_hi5 {a b : Int} (h0 : 0 ≤ a) (h1 : a < 32) (hb0 : 0 ≤ b) (hb1 : b < 256) (hd : b % 32 = 0) : bOr .u8 a b = a + b := by rw [bOr_comm, Int.add_comm]; exact or_u8_lo5 hb0 hb1 h0 h1 hd

theorem xor_u8_32 {a : Int} (h0 : 0 ≤ a) (h1 : a < 256) : bXor .u8 a 32 = a + 32 - 2 * (a / 32 % 2 * 32) := bXor_bit (k := .u8) rfl 5 rfl h0 h1 (by decide)

theorem or_u8_lo6 {a b : Int} (h0 : 0 ≤ a) (h1 : a < 256) (hb0 : 0 ≤ b) (hb1 : b < 64) (hd : a % 64 = 0) : bOr .u8 a b = a + b := bOr_low (k := .u8) rfl 6 h0 h1 hb0 hb1 hd (by decide)

theorem or_u8_hi6 {a b : Int} (h0 : 0 ≤ a) (h1 : a < 64) (hb0 : 0 ≤ b) (hb1 : b < 256) (hd : b % 64 = 0) : bOr .u8 a b = a + b := by rw [bOr_comm, Int.add_comm]; exact or_u8_lo6 hb0 hb1 h0 h1 hd

theorem xor_u8_64 {a : Int} (h0 : 0 ≤ a) (h1 : a < 256) : bXor .u8 a 64 = a + 64 - 2 * (a / 64 % 2 * 64) := bXor_bit (k := .u8) rfl 6 rfl h0 h1 (by decide)

theorem or_u8_lo7 {a b : Int} (h0 : 0 ≤ a) (h1 : a < 256) (hb0 : 0 ≤ b) (hb1 : b < 128) (hd : a % 128 = 0) : bOr .u8 a b = a + b := bOr_low (k := .u8) rfl 7 h0 h1 hb0 hb1 hd (by decide)

theorem or_u8_hi7 {a b : Int} (h0 : 0 ≤ a) (h1 : a < 128) (hb0 : 0 ≤ b) (hb1 : b < 256) (hd : b % 128 = 0) : bOr .u8 a b = a + b := by rw [bOr_comm, Int.add_comm]; exact or_u8_lo7 hb0 hb1 h0 h1 hd

theorem xor_u8_128 {a : Int} (h0 : 0 ≤ a) (h1 : a < 256) : bXor .u8 a 128 = a + 128 - 2 * (a / 128 % 2 * 128) := bXor_bit (k := .u8) rfl 7 rfl h0 h1 (by decide)

theorem or_u16_lo1 {a b : Int} (h0 : 0 ≤ a) (h1 : a < 65536) (hb0 : 0 ≤ b) (hb1 : b < 2) (hd : a % 2 = 0) : bOr .u16 a b = a + b := bOr_low (k := .u16) rfl 1 h0 h1 hb0 hb1 hd (by decide)

theorem or_u16_hi1 {a b : Int} (h0 : 0 ≤ a) (h1 : a < 2) (hb0 : 0 ≤ b) (hb1 : b < 65536) (hd : b % 2 = 0) : bOr .u16 a b = a + b := by rw [bOr_comm, Int.add_comm]; exact or_u16_lo1 hb0 hb1 h0 h1 hd

theorem xor_u16_2 {a : Int} (h0 : 0 ≤ a) (h1 : a < 65536) : bXor .u16 a 2 = a + 2 - 2 * (a / 2 % 2 * 2) := bXor_bit (k := .u16) rfl 1 rfl h0 h1 (by decide)

theorem or_u16_lo2 {a b : Int} (h0 : 0 ≤ a) (h1 : a < 65536) (hb0 : 0 ≤ b) (hb1 : b < 4) (hd : a % 4 = 0) : bOr .u16 a b = a + b := bOr_low (k := .u16) rfl 2 h0 h1 hb0 hb1 hd (by decide)

theorem or_u16_hi2 {a b : Int} (h0 : 0 ≤ a) (h1 : a < 4) (hb0 : 0 ≤ b) (hb1 : b < 65536) (hd : b % 4 = 0) : bOr .u16 a b = a + b := by rw [bOr_comm, Int.add_comm]; exact or_u16_lo2 hb0 hb1 h0 h1 hd

theorem xor_u16_4 {a : Int} (h0 : 0 ≤ a) (h1 : a < 65536) : bXor .u16 a 4 = a + 4 - 2 * (a / 4 % 2 * 4) := bXor_bit (k := .u16) rfl 2 rfl h0 h1 (by decide)

theorem or_u16_lo3 {a b : Int} (h0 : 0 ≤ a) (h1 : a < 65536) (hb0 : 0 ≤ b) (hb1 : b < 8) (hd : a % 8 = 0) : bOr .u16 a b = a + b := bOr_low (k := .u16) rfl 3 h0 h1 hb0 hb1 hd (by decide)

theorem or_u16_hi3 {a b : Int} (h0 : 0 ≤ a) (h1 : a < 8) (hb0 : 0 ≤ b) (hb1 : b < 65536) (hd : b % 8 = 0) : bOr .u16 a b = a + b := by rw [bOr_comm, Int.add_comm]; exact or_u16_lo3 hb0 hb1 h0 h1 hd

theorem xor_u16_8 {a : Int} (h0 : 0 ≤ a) (h1 : a < 65536) : bXor .u16 a 8 = a + 8 - 2 * (a / 8 % 2 * 8) := bXor_bit (k := .u16) rfl 3 rfl h0 h1 (by decide)

theorem or_u16_lo4 {a b : Int} (h0 : 0 ≤ a) (h1 : a < 65536) (hb0 : 0 ≤ b) (hb1 : b < 16) (hd : a % 16 = 0) : bOr .u16 a b = a + b := bOr_low (k := .u16) rfl 4 h0 h1 hb0 hb1 hd (by decide)

theorem or_u16_hi4 {a b : Int} (h0 : 0 ≤ a) (h1 : a < 16) (hb0 : 0 ≤ b) (hb1 : b < 65536) (hd : b % 16 = 0) : bOr .u16 a b = a + b := by rw [bOr_comm, Int.add_comm]; exact or_u16_lo4 hb0 hb1 h0 h1 hd

theorem xor_u16_16 {a : Int} (h0 : 0 ≤ a) (h1 : a < 65536) : bXor .u16 a 16 = a + 16 - 2 * (a / 16 % 2 * 16) := bXor_bit (k := .u16) rfl 4 rfl h0 h1 (by decide)

theorem or_u16_lo5 {a b : Int} (h0 : 0 ≤ a) (h1 : a < 65536) (hb0 : 0 ≤ b) (hb1 : b < 32) (hd : a % 32 = 0) : bOr .u16 a b = a + b := bOr_low (k := .u16) rfl 5 h0 h1 hb0 hb1 hd (by decide)

theorem or_u16_hi5 {a b : Int} (h0 : 0 ≤ a) (h1 : a < 32) (hb0 : 0 ≤ b) (hb1 : b < 65536) (hd : b % 32 = 0) : bOr .u16 a b = a + b := by rw [bOr_comm, Int.add_comm]; exact or_u16_lo5 hb0 hb1 h0 h1 hd

theorem xor_u16_32 {a : Int} (h0 : 0 ≤ a) (h1 : a < 65536) : bXor .u16 a 32 = a + 32 - 2 * (a / 32 % 2 * 32) := bXor_bit (k := .u16) rfl 5 rfl h0 h1 (by decide)

theorem or_u16_lo6 {a b : Int} (h0 : 0 ≤ a) (h1 : a < 65536) (hb0 : 0 ≤ b) (hb1 : b < 64) (hd : a % 64 = 0) : bOr .u16 a b = a + b := bOr_low (k := .u16) rfl 6 h0 h1 hb0 hb1 hd (by decide)

theorem or_u16_hi6 {a b : Int} (h0 : 0 ≤ a) (h1 : a < 64) (hb0 : 0 ≤ b) (hb1 : b < 65536) (hd : b % 64 = 0) : bOr .u16 a b = a + b := by rw [bOr_comm, Int.add_comm]; exact or_u16_lo6 hb0 hb1 h0 h1 hd

theorem xor_u16_64 {a : Int} (h0 : 0 ≤ a) (h1 : a < 65536) : bXor .u16 a 64 = a + 64 - 2 * (a / 64 % 2 * 64) := bXor_bit (k := .u16) rfl 6 rfl h0 h1 (by decide)

theorem or_u16_lo7 {a b : Int} (h0 : 0 ≤ a) (h1 : a < 65536) (hb0 : 0 ≤ b) (hb1 : b < 128) (hd : a % 128 = 0) : bOr .u16 a b = a + b := bOr_low (k := .u16) rfl 7 h0 h1 hb0 hb1 hd (by decide)

theorem or_u16_hi7 {a b : Int} (h0 : 0 ≤ a) (h1 : a < 128) (hb0 : 0 ≤ b) (hb1 : b < 65536) (hd : b % 128 = 0) : bOr .u16 a b = a + b := by rw [bOr_comm, Int.add_comm]; exact or_u16_lo7 hb0 hb1 h0 h1 hd

theorem xor_u16_128 {a : Int} (h0 : 0 ≤ a) (h1 : a < 65536) : bXor .u16 a 128 = a + 128 - 2 * (a / 128 % 2 * 128) := bXor_bit (k := .u16) rfl 7 rfl h0 h1 (by decide)

theorem or_u16_lo8 {a b : Int} (h0 : 0 ≤ a) (h1 : a < 65536) (hb0 : 0 ≤ b) (hb1 : b < 256) (hd : a % 256 = 0) : bOr .u16 a b = a + b := bOr_low (k := .u16) rfl 8 h0 h1 hb0 hb1 hd (by decide)

theorem or_u16_hi8 {a b : Int} (h0 : 0 ≤ a) (h1 : a < 256) (hb0 : 0 ≤ b) (hb1 : b < 65536) (hd : b % 256 = 0) : bOr .u16 a b = a + b := by rw [bOr_comm, Int.add_comm]; exact or_u16_lo8 hb0 hb1 h0 h1 hd

theorem xor_u16_256 {a : Int} (h0 : 0 ≤ a) (h1 : a < 65536) : bXor .u16 a 256 = a + 256 - 2 * (a / 256 % 2 * 256) := bXor_bit (k := .u16) rfl 8 rfl h0 h1 (by decide)

theorem or_u16_lo9 {a b : Int} (h0 : 0 ≤ a) (h1 : a < 65536) (hb0 : 0 ≤ b) (hb1 : b < 512) (hd : a % 512 = 0) : bOr .u16 a b = a + b := bOr_low (k := .u16) rfl 9 h0 h1 hb0 hb1 hd (by decide)

theorem or_u16_hi9 {a b : Int} (h0 : 0 ≤ a) (h1 : a < 512) (hb0 : 0 ≤ b) (hb1 : b < 65536) (hd : b % 512 = 0) : bOr .u16 a b = a + b := by rw [bOr_comm, Int.add_comm]; exact or_u16_lo9 hb0 hb1 h0 h1 hd

theorem xor_u16_512 {a : Int} (h0 : 0 ≤ a) (h1 : a < 65536) : bXor .u16 a 512 = a + 512 - 2 * (a / 512 % 2 * 512) := bXor_bit (k := .u16) rfl 9 rfl h0 h1 (by decide)

theorem or_u16_lo10 {a b : Int} (h0 : 0 ≤ a) (h1 : a < 65536) (hb0 : 0 ≤ b) (hb1 : b < 1024) (hd : a % 1024 = 0) : bOr .u16 a b = a + b := bOr_low (k := .u16) rfl 10 h0 h1 hb0 hb1 hd (by decide)

theorem or_u16_hi10 {a b : Int} (h0 : 0 ≤ a) (h1 : a < 1024) (hb0 : 0 ≤ b) (hb1 : b < 65536) (hd : b % 1024 = 0) : bOr .u16 a b = a + b := by rw [bOr_comm, Int.add_comm]; exact or_u16_lo10 hb0 hb1 h0 h1 hd

theorem xor_u16_1024 {a : Int} (h0 : 0 ≤ a) (h1 : a < 65536) : bXor .u16 a 1024 = a + 1024 - 2 * (a / 1024 % 2 * 1024) := bXor_bit (k := .u16) rfl 10 rfl h0 h1 (by decide)

theorem or_u16_lo11 {a b : Int} (h0 : 0 ≤ a) (h1 : a < 65536) (hb0 : 0 ≤ b) (hb1 : b < 2048) (hd : a % 2048 = 0) : bOr .u16 a b = a + b := bOr_low (k := .u16) rfl 11 h0 h1 hb0 hb1 hd (by decide)

theorem or_u16_hi11 {a b : Int} (h0 : 0 ≤ a) (h1 : a < 2048) (hb0 : 0 ≤ b) (hb1 : b < 65536) (hd : b % 2048 = 0) : bOr .u16 a b = a + b := by rw [bOr_comm, Int.add_comm]; exact or_u16_lo11 hb0 hb1 h0 h1 hd

theorem xor_u16_2048 {a : Int} (h0 : 0 ≤ a) (h1 : a < 65536) : bXor .u16 a 2048 = a + 2048 - 2 * (a / 2048 % 2 * 2048) := bXor_bit (k := .u16) rfl 11 rfl h0 h1 (by decide)

theorem or_u16_lo12 {a b : Int} (h0 : 0 ≤ a) (h1 : a < 65536) (hb0 : 0 ≤ b) (hb1 : b < 4096) (hd : a % 4096 = 0) : bOr .u16 a b = a + b := bOr_low (k := .u16) rfl 12 h0 h1 hb0 hb1 hd (by decide)

theorem or_u16_hi12 {a b : Int} (h0 : 0 ≤ a) (h1 : a < 4096) (hb0 : 0 ≤ b) (hb1 : b < 65536) (hd : b % 4096 = 0) : bOr .u16 a b = a + b := by rw [bOr_comm, Int.add_comm]; exact or_u16_lo12 hb0 hb1 h0 h1 hd

theorem xor_u16_4096 {a : Int} (h0 : 0 ≤ a) (h1 : a < 65536) : bXor .u16 a 4096 = a + 4096 - 2 * (a / 4096 % 2 * 4096) := bXor_bit (k := .u16) rfl 12 rfl h0 h1 (by decide)

theorem or_u16_lo13 {a b : Int} (h0 : 0 ≤ a) (h1 : a < 65536) (hb0 : 0 ≤ b) (hb1 : b < 8192) (hd : a % 8192 = 0) : bOr .u16 a b = a + b := bOr_low (k := .u16) rfl 13 h0 h1 hb0 hb1 hd (by decide)

theorem or_u16_hi13 {a b : Int} (h0 : 0 ≤ a) (h1 : a < 8192) (hb0 : 0 ≤ b) (hb1 : b < 65536) (hd : b % 8192 = 0) : bOr .u16 a b = a + b := by rw [bOr_comm, Int.add_comm]; exact or_u16_lo13 hb0 hb1 h0 h1 hd

theorem xor_u16_8192 {a : Int} (h0 : 0 ≤ a) (h1 : a < 65536) : bXor .u16 a 8192 = a + 8192 - 2 * (a / 8192 % 2 * 8192) := bXor_bit (k := .u16) rfl 13 rfl h0 h1 (by decide)

theorem or_u16_lo14 {a b : Int} (h0 : 0 ≤ a) (h1 : a < 65536) (hb0 : 0 ≤ b) (hb1 : b < 16384) (hd : a % 16384 = 0) : bOr .u16 a b = a + b := bOr_low (k := .u16) rfl 14 h0 h1 hb0 hb1 hd (by decide)

theorem or_u16_hi14 {a b : Int} (h0 : 0 ≤ a) (h1 : a < 16384) (hb0 : 0 ≤ b) (hb1 : b < 65536) (hd : b % 16384 = 0) : bOr .u16 a b = a + b := by rw [bOr_comm, Int.add_comm]; exact or_u16_lo14 hb0 hb1 h0 h1 hd

theorem xor_u16_16384 {a : Int} (h0 : 0 ≤ a) (h1 : a < 65536) : bXor .u16 a 16384 = a + 16384 - 2 * (a / 16384 % 2 * 16384) := bXor_bit (k := .u16) rfl 14 rfl h0 h1 (by decide)

theorem or_u16_lo15 {a b : Int} (h0 : 0 ≤ a) (h1 : a < 65536) (hb0 : 0 ≤ b) (hb1 : b < 32768) (hd : a % 32768 = 0) : bOr .u16 a b = a + b := bOr_low (k := .u16) rfl 15 h0 h1 hb0 hb1 hd (by decide)

theorem or_u16_hi15 {a b : Int} (h0 : 0 ≤ a) (h1 : a < 32768) (hb0 : 0 ≤ b) (hb1 : b < 65536) (hd : b % 32768 = 0) : bOr .u16 a b = a + b := by rw [bOr_comm, Int.add_comm]; exact or_u16_lo15 hb0 hb1 h0 h1 hd

theorem xor_u16_32768 {a : Int} (h0 : 0 ≤ a) (h1 : a < 65536) : bXor .u16 a 32768 = a + 32768 - 2 * (a / 32768 % 2 * 32768) := bXor_bit (k := .u16) rfl 15 rfl h0 h1 (by decide)

end Go.Proofs.Ytonbliaaicacgaa
