/-
  Texts laid together: KL, KM, KN, KO, KU, VW, VZ, KT. No condition.
-/
import Derived.ChangeSame
import Derived.DataReads
import Derived.Deep.Slices
import Derived.Test.YtgnhhnmpeklciaaMKf
namespace Go.Proofs.Ytgnhhnmpeklciaa
open Go VX IntWalk
open Go.IntKind (i64 u8 u16)
set_option maxRecDepth 100000
set_option linter.unusedSimpArgs false
set_option linter.unusedVariables false
theorem bOr_comm (k : IntKind) (a b : Int) : bOr k a b = bOr k b a := by unfold bOr; rw [BitVec.or_comm]
theorem and_u16_31 {a : Int} (h0 : 0 ≤ a) (h1 : a < 65536) : bAnd .u16 a 31 = a % 32 := by
  have := bAnd_field (k := .u16) rfl 0 5 (m := 31) rfl h0 h1 (by decide)
  simpa using this
theorem and_u16_992 {a : Int} (h0 : 0 ≤ a) (h1 : a < 65536) : bAnd .u16 a 992 = a / 32 % 32 * 32 := by
  have := bAnd_field (k := .u16) rfl 5 5 (m := 992) rfl h0 h1 (by decide)
  simpa using this
theorem and_u16_3 {a : Int} (h0 : 0 ≤ a) (h1 : a < 65536) : bAnd .u16 a 3 = a % 4 := by
  have := bAnd_field (k := .u16) rfl 0 2 (m := 3) rfl h0 h1 (by decide)
  simpa using this
theorem and_u16_2 {a : Int} (h0 : 0 ≤ a) (h1 : a < 65536) : bAnd .u16 a 2 = a / 2 % 2 * 2 := by
  have := bAnd_field (k := .u16) rfl 1 1 (m := 2) rfl h0 h1 (by decide)
  simpa using this
theorem and_u16_3072 {a : Int} (h0 : 0 ≤ a) (h1 : a < 65536) : bAnd .u16 a 3072 = a / 1024 % 4 * 1024 := by
  have := bAnd_field (k := .u16) rfl 10 2 (m := 3072) rfl h0 h1 (by decide)
  simpa using this
theorem and_u16_4095 {a : Int} (h0 : 0 ≤ a) (h1 : a < 65536) : bAnd .u16 a 4095 = a % 4096 := by
  have := bAnd_field (k := .u16) rfl 0 12 (m := 4095) rfl h0 h1 (by decide)
  simpa using this
theorem and_u16_1023 {a : Int} (h0 : 0 ≤ a) (h1 : a < 65536) : bAnd .u16 a 1023 = a % 1024 := by
  have := bAnd_field (k := .u16) rfl 0 10 (m := 1023) rfl h0 h1 (by decide)
  simpa using this
theorem and_u16_1024 {a : Int} (h0 : 0 ≤ a) (h1 : a < 65536) : bAnd .u16 a 1024 = a / 1024 % 2 * 1024 := by
  have := bAnd_field (k := .u16) rfl 10 1 (m := 1024) rfl h0 h1 (by decide)
  simpa using this
theorem and_u16_2047 {a : Int} (h0 : 0 ≤ a) (h1 : a < 65536) : bAnd .u16 a 2047 = a % 2048 := by
  have := bAnd_field (k := .u16) rfl 0 11 (m := 2047) rfl h0 h1 (by decide)
  simpa using this
theorem and_u16_28672 {a : Int} (h0 : 0 ≤ a) (h1 : a < 65536) : bAnd .u16 a 28672 = a / 4096 % 8 * 4096 := by
  have := bAnd_field (k := .u16) rfl 12 3 (m := 28672) rfl h0 h1 (by decide)
  simpa using this
theorem and_u16_32767 {a : Int} (h0 : 0 ≤ a) (h1 : a < 65536) : bAnd .u16 a 32767 = a % 32768 := by
  have := bAnd_field (k := .u16) rfl 0 15 (m := 32767) rfl h0 h1 (by decide)
  simpa using this
theorem and_u16_32512 {a : Int} (h0 : 0 ≤ a) (h1 : a < 65536) : bAnd .u16 a 32512 = a / 256 % 128 * 256 := by
  have := bAnd_field (k := .u16) rfl 8 7 (m := 32512) rfl h0 h1 (by decide)
  simpa using this
theorem and_u16_1 {a : Int} (h0 : 0 ≤ a) (h1 : a < 65536) : bAnd .u16 a 1 = a % 2 := by
  have := bAnd_field (k := .u16) rfl 0 1 (m := 1) rfl h0 h1 (by decide)
  simpa using this
theorem and_u16_4 {a : Int} (h0 : 0 ≤ a) (h1 : a < 65536) : bAnd .u16 a 4 = a / 4 % 2 * 4 := by
  have := bAnd_field (k := .u16) rfl 2 1 (m := 4) rfl h0 h1 (by decide)
  simpa using this
theorem and_u16_7 {a : Int} (h0 : 0 ≤ a) (h1 : a < 65536) : bAnd .u16 a 7 = a % 8 := by
  have := bAnd_field (k := .u16) rfl 0 3 (m := 7) rfl h0 h1 (by decide)
  simpa using this
theorem and_u16_15 {a : Int} (h0 : 0 ≤ a) (h1 : a < 65536) : bAnd .u16 a 15 = a % 16 := by
  have := bAnd_field (k := .u16) rfl 0 4 (m := 15) rfl h0 h1 (by decide)
  simpa using this
theorem and_u16_255 {a : Int} (h0 : 0 ≤ a) (h1 : a < 65536) : bAnd .u16 a 255 = a % 256 := by
  have := bAnd_field (k := .u16) rfl 0 8 (m := 255) rfl h0 h1 (by decide)
  simpa using this
theorem and_u16_16383 {a : Int} (h0 : 0 ≤ a) (h1 : a < 65536) : bAnd .u16 a 16383 = a % 16384 := by
  have := bAnd_field (k := .u16) rfl 0 14 (m := 16383) rfl h0 h1 (by decide)
  simpa using this
theorem and_u16_256 {a : Int} (h0 : 0 ≤ a) (h1 : a < 65536) : bAnd .u16 a 256 = a / 256 % 2 * 256 := by
  have := bAnd_field (k := .u16) rfl 8 1 (m := 256) rfl h0 h1 (by decide)
  simpa using this
theorem and_u16_2048 {a : Int} (h0 : 0 ≤ a) (h1 : a < 65536) : bAnd .u16 a 2048 = a / 2048 % 2 * 2048 := by
  have := bAnd_field (k := .u16) rfl 11 1 (m := 2048) rfl h0 h1 (by decide)
  simpa using this
theorem and_u16_4096 {a : Int} (h0 : 0 ≤ a) (h1 : a < 65536) : bAnd .u16 a 4096 = a / 4096 % 2 * 4096 := by
  have := bAnd_field (k := .u16) rfl 12 1 (m := 4096) rfl h0 h1 (by decide)
  simpa using this
theorem and_u16_63 {a : Int} (h0 : 0 ≤ a) (h1 : a < 65536) : bAnd .u16 a 63 = a % 64 := by
  have := bAnd_field (k := .u16) rfl 0 6 (m := 63) rfl h0 h1 (by decide)
  simpa using this
theorem and_u16_32736 {a : Int} (h0 : 0 ≤ a) (h1 : a < 65536) : bAnd .u16 a 32736 = a / 32 % 1024 * 32 := by
  have := bAnd_field (k := .u16) rfl 5 10 (m := 32736) rfl h0 h1 (by decide)
  simpa using this
theorem and_u16_240 {a : Int} (h0 : 0 ≤ a) (h1 : a < 65536) : bAnd .u16 a 240 = a / 16 % 16 * 16 := by
  have := bAnd_field (k := .u16) rfl 4 4 (m := 240) rfl h0 h1 (by decide)
  simpa using this
theorem and_u16_248 {a : Int} (h0 : 0 ≤ a) (h1 : a < 65536) : bAnd .u16 a 248 = a / 8 % 32 * 8 := by
  have := bAnd_field (k := .u16) rfl 3 5 (m := 248) rfl h0 h1 (by decide)
  simpa using this
theorem and_u16_3968 {a : Int} (h0 : 0 ≤ a) (h1 : a < 65536) : bAnd .u16 a 3968 = a / 128 % 32 * 128 := by
  have := bAnd_field (k := .u16) rfl 7 5 (m := 3968) rfl h0 h1 (by decide)
  simpa using this
theorem and_u8_7 {a : Int} (h0 : 0 ≤ a) (h1 : a < 256) : bAnd .u8 a 7 = a % 8 := by
  have := bAnd_field (k := .u8) rfl 0 3 (m := 7) rfl h0 h1 (by decide)
  simpa using this
theorem and_u8_1 {a : Int} (h0 : 0 ≤ a) (h1 : a < 256) : bAnd .u8 a 1 = a % 2 := by
  have := bAnd_field (k := .u8) rfl 0 1 (m := 1) rfl h0 h1 (by decide)
  simpa using this
theorem and_u8_3 {a : Int} (h0 : 0 ≤ a) (h1 : a < 256) : bAnd .u8 a 3 = a % 4 := by
  have := bAnd_field (k := .u8) rfl 0 2 (m := 3) rfl h0 h1 (by decide)
  simpa using this
theorem and_u8_15 {a : Int} (h0 : 0 ≤ a) (h1 : a < 256) : bAnd .u8 a 15 = a % 16 := by
  have := bAnd_field (k := .u8) rfl 0 4 (m := 15) rfl h0 h1 (by decide)
  simpa using this
theorem and_u8_16 {a : Int} (h0 : 0 ≤ a) (h1 : a < 256) : bAnd .u8 a 16 = a / 16 % 2 * 16 := by
  have := bAnd_field (k := .u8) rfl 4 1 (m := 16) rfl h0 h1 (by decide)
  simpa using this
theorem and_u8_31 {a : Int} (h0 : 0 ≤ a) (h1 : a < 256) : bAnd .u8 a 31 = a % 32 := by
  have := bAnd_field (k := .u8) rfl 0 5 (m := 31) rfl h0 h1 (by decide)
  simpa using this
theorem and_u8_63 {a : Int} (h0 : 0 ≤ a) (h1 : a < 256) : bAnd .u8 a 63 = a % 64 := by
  have := bAnd_field (k := .u8) rfl 0 6 (m := 63) rfl h0 h1 (by decide)
  simpa using this
theorem and_u8_248 {a : Int} (h0 : 0 ≤ a) (h1 : a < 256) : bAnd .u8 a 248 = a / 8 % 32 * 8 := by
  have := bAnd_field (k := .u8) rfl 3 5 (m := 248) rfl h0 h1 (by decide)
  simpa using this
theorem and_u8_224 {a : Int} (h0 : 0 ≤ a) (h1 : a < 256) : bAnd .u8 a 224 = a / 32 % 8 * 32 := by
  have := bAnd_field (k := .u8) rfl 5 3 (m := 224) rfl h0 h1 (by decide)
  simpa using this
theorem shr_u8_1 (a : Int) : bShr .u8 a 1 = a / 2 := by
  show a.fdiv 2 = _
  exact Int.fdiv_eq_ediv_of_nonneg _ (by decide)
theorem shl_u8_1 (a : Int) : bShl .u8 a 1 = u8.wrap (a * 2) := rfl
theorem shr_u8_2 (a : Int) : bShr .u8 a 2 = a / 4 := by
  show a.fdiv 4 = _
  exact Int.fdiv_eq_ediv_of_nonneg _ (by decide)
theorem shl_u8_2 (a : Int) : bShl .u8 a 2 = u8.wrap (a * 4) := rfl
theorem shr_u8_3 (a : Int) : bShr .u8 a 3 = a / 8 := by
  show a.fdiv 8 = _
  exact Int.fdiv_eq_ediv_of_nonneg _ (by decide)
theorem shl_u8_3 (a : Int) : bShl .u8 a 3 = u8.wrap (a * 8) := rfl
theorem shr_u8_4 (a : Int) : bShr .u8 a 4 = a / 16 := by
  show a.fdiv 16 = _
  exact Int.fdiv_eq_ediv_of_nonneg _ (by decide)
theorem shl_u8_4 (a : Int) : bShl .u8 a 4 = u8.wrap (a * 16) := rfl
theorem shr_u8_5 (a : Int) : bShr .u8 a 5 = a / 32 := by
  show a.fdiv 32 = _
  exact Int.fdiv_eq_ediv_of_nonneg _ (by decide)
theorem shl_u8_5 (a : Int) : bShl .u8 a 5 = u8.wrap (a * 32) := rfl
theorem shr_u8_6 (a : Int) : bShr .u8 a 6 = a / 64 := by
  show a.fdiv 64 = _
  exact Int.fdiv_eq_ediv_of_nonneg _ (by decide)
theorem shl_u8_6 (a : Int) : bShl .u8 a 6 = u8.wrap (a * 64) := rfl
theorem shr_u8_7 (a : Int) : bShr .u8 a 7 = a / 128 := by
  show a.fdiv 128 = _
  exact Int.fdiv_eq_ediv_of_nonneg _ (by decide)
theorem shl_u8_7 (a : Int) : bShl .u8 a 7 = u8.wrap (a * 128) := rfl
theorem shr_u16_1 (a : Int) : bShr .u16 a 1 = a / 2 := by
  show a.fdiv 2 = _
  exact Int.fdiv_eq_ediv_of_nonneg _ (by decide)
theorem shl_u16_1 (a : Int) : bShl .u16 a 1 = u16.wrap (a * 2) := rfl
theorem shr_u16_2 (a : Int) : bShr .u16 a 2 = a / 4 := by
  show a.fdiv 4 = _
  exact Int.fdiv_eq_ediv_of_nonneg _ (by decide)
theorem shl_u16_2 (a : Int) : bShl .u16 a 2 = u16.wrap (a * 4) := rfl
theorem shr_u16_3 (a : Int) : bShr .u16 a 3 = a / 8 := by
  show a.fdiv 8 = _
  exact Int.fdiv_eq_ediv_of_nonneg _ (by decide)
theorem shl_u16_3 (a : Int) : bShl .u16 a 3 = u16.wrap (a * 8) := rfl
theorem shr_u16_4 (a : Int) : bShr .u16 a 4 = a / 16 := by
  show a.fdiv 16 = _
  exact Int.fdiv_eq_ediv_of_nonneg _ (by decide)
theorem shl_u16_4 (a : Int) : bShl .u16 a 4 = u16.wrap (a * 16) := rfl
theorem shr_u16_5 (a : Int) : bShr .u16 a 5 = a / 32 := by
  show a.fdiv 32 = _
  exact Int.fdiv_eq_ediv_of_nonneg _ (by decide)
theorem shl_u16_5 (a : Int) : bShl .u16 a 5 = u16.wrap (a * 32) := rfl
theorem shr_u16_6 (a : Int) : bShr .u16 a 6 = a / 64 := by
  show a.fdiv 64 = _
  exact Int.fdiv_eq_ediv_of_nonneg _ (by decide)
theorem shl_u16_6 (a : Int) : bShl .u16 a 6 = u16.wrap (a * 64) := rfl
theorem shr_u16_7 (a : Int) : bShr .u16 a 7 = a / 128 := by
  show a.fdiv 128 = _
  exact Int.fdiv_eq_ediv_of_nonneg _ (by decide)
theorem shl_u16_7 (a : Int) : bShl .u16 a 7 = u16.wrap (a * 128) := rfl
theorem shr_u16_8 (a : Int) : bShr .u16 a 8 = a / 256 := by
  show a.fdiv 256 = _
  exact Int.fdiv_eq_ediv_of_nonneg _ (by decide)
theorem shl_u16_8 (a : Int) : bShl .u16 a 8 = u16.wrap (a * 256) := rfl
theorem shr_u16_9 (a : Int) : bShr .u16 a 9 = a / 512 := by
  show a.fdiv 512 = _
  exact Int.fdiv_eq_ediv_of_nonneg _ (by decide)
theorem shl_u16_9 (a : Int) : bShl .u16 a 9 = u16.wrap (a * 512) := rfl
theorem shr_u16_10 (a : Int) : bShr .u16 a 10 = a / 1024 := by
  show a.fdiv 1024 = _
  exact Int.fdiv_eq_ediv_of_nonneg _ (by decide)
theorem shl_u16_10 (a : Int) : bShl .u16 a 10 = u16.wrap (a * 1024) := rfl
theorem shr_u16_11 (a : Int) : bShr .u16 a 11 = a / 2048 := by
  show a.fdiv 2048 = _
  exact Int.fdiv_eq_ediv_of_nonneg _ (by decide)
theorem shl_u16_11 (a : Int) : bShl .u16 a 11 = u16.wrap (a * 2048) := rfl
theorem shr_u16_12 (a : Int) : bShr .u16 a 12 = a / 4096 := by
  show a.fdiv 4096 = _
  exact Int.fdiv_eq_ediv_of_nonneg _ (by decide)
theorem shl_u16_12 (a : Int) : bShl .u16 a 12 = u16.wrap (a * 4096) := rfl
theorem shr_u16_13 (a : Int) : bShr .u16 a 13 = a / 8192 := by
  show a.fdiv 8192 = _
  exact Int.fdiv_eq_ediv_of_nonneg _ (by decide)
theorem shl_u16_13 (a : Int) : bShl .u16 a 13 = u16.wrap (a * 8192) := rfl
theorem shr_u16_14 (a : Int) : bShr .u16 a 14 = a / 16384 := by
  show a.fdiv 16384 = _
  exact Int.fdiv_eq_ediv_of_nonneg _ (by decide)
theorem shl_u16_14 (a : Int) : bShl .u16 a 14 = u16.wrap (a * 16384) := rfl
theorem shr_u16_15 (a : Int) : bShr .u16 a 15 = a / 32768 := by
  show a.fdiv 32768 = _
  exact Int.fdiv_eq_ediv_of_nonneg _ (by decide)
theorem shl_u16_15 (a : Int) : bShl .u16 a 15 = u16.wrap (a * 32768) := rfl
theorem or_u8_lo1 {a b : Int} (h0 : 0 ≤ a) (h1 : a < 256) (hb0 : 0 ≤ b) (hb1 : b < 2) (hd : a % 2 = 0) : bOr .u8 a b = a + b := bOr_low (k := .u8) rfl 1 h0 h1 hb0 hb1 hd (by decide)
theorem or_u8_hi1 {a b : Int} (h0 : 0 ≤ a) (h1 : a < 2) (hb0 : 0 ≤ b) (hb1 : b < 256) (hd : b % 2 = 0) : bOr .u8 a b = a + b := by rw [bOr_comm, Int.add_comm]; exact or_u8_lo1 hb0 hb1 h0 h1 hd
theorem xor_u8_2 {a : Int} (h0 : 0 ≤ a) (h1 : a < 256) : bXor .u8 a 2 = a + 2 - 2 * (a / 2 % 2 * 2) := bXor_bit (k := .u8) rfl 1 rfl h0 h1 (by decide)
theorem or_u8_lo2 {a b : Int} (h0 : 0 ≤ a) (h1 : a < 256) (hb0 : 0 ≤ b) (hb1 : b < 4) (hd : a % 4 = 0) : bOr .u8 a b = a + b := bOr_low (k := .u8) rfl 2 h0 h1 hb0 hb1 hd (by decide)
theorem or_u8_hi2 {a b : Int} (h0 : 0 ≤ a) (h1 : a < 4) (hb0 : 0 ≤ b) (hb1 : b < 256) (hd : b % 4 = 0) : bOr .u8 a b = a + b := by rw [bOr_comm, Int.add_comm]; exact or_u8_lo2 hb0 hb1 h0 h1 hd
theorem xor_u8_4 {a : Int} (h0 : 0 ≤ a) (h1 : a < 256) : bXor .u8 a 4 = a + 4 - 2 * (a / 4 % 2 * 4) := bXor_bit (k := .u8) rfl 2 rfl h0 h1 (by decide)
theorem or_u8_lo3 {a b : Int} (h0 : 0 ≤ a) (h1 : a < 256) (hb0 : 0 ≤ b) (hb1 : b < 8) (hd : a % 8 = 0) : bOr .u8 a b = a + b := bOr_low (k := .u8) rfl 3 h0 h1 hb0 hb1 hd (by decide)
theorem or_u8_hi3 {a b : Int} (h0 : 0 ≤ a) (h1 : a < 8) (hb0 : 0 ≤ b) (hb1 : b < 256) (hd : b % 8 = 0) : bOr .u8 a b = a + b := by rw [bOr_comm, Int.add_comm]; exact or_u8_lo3 hb0 hb1 h0 h1 hd
theorem xor_u8_8 {a : Int} (h0 : 0 ≤ a) (h1 : a < 256) : bXor .u8 a 8 = a + 8 - 2 * (a / 8 % 2 * 8) := bXor_bit (k := .u8) rfl 3 rfl h0 h1 (by decide)
theorem or_u8_lo4 {a b : Int} (h0 : 0 ≤ a) (h1 : a < 256) (hb0 : 0 ≤ b) (hb1 : b < 16) (hd : a % 16 = 0) : bOr .u8 a b = a + b := bOr_low (k := .u8) rfl 4 h0 h1 hb0 hb1 hd (by decide)
theorem or_u8_hi4 {a b : Int} (h0 : 0 ≤ a) (h1 : a < 16) (hb0 : 0 ≤ b) (hb1 : b < 256) (hd : b % 16 = 0) : bOr .u8 a b = a + b := by rw [bOr_comm, Int.add_comm]; exact or_u8_lo4 hb0 hb1 h0 h1 hd
theorem xor_u8_16 {a : Int} (h0 : 0 ≤ a) (h1 : a < 256) : bXor .u8 a 16 = a + 16 - 2 * (a / 16 % 2 * 16) := bXor_bit (k := .u8) rfl 4 rfl h0 h1 (by decide)
theorem or_u8_lo5 {a b : Int} (h0 : 0 ≤ a) (h1 : a < 256) (hb0 : 0 ≤ b) (hb1 : b < 32) (hd : a % 32 = 0) : bOr .u8 a b = a + b := bOr_low (k := .u8) rfl 5 h0 h1 hb0 hb1 hd (by decide)
theorem or_u8_hi5 {a b : Int} (h0 : 0 ≤ a) (h1 : a < 32) (hb0 : 0 ≤ b) (hb1 : b < 256) (hd : b % 32 = 0) : bOr .u8 a b = a + b := by rw [bOr_comm, Int.add_comm]; exact or_u8_lo5 hb0 hb1 h0 h1 hd
theorem xor_u8_32 {a : Int} (h0 : 0 ≤ a) (h1 : a < 256) : bXor .u8 a 32 = a + 32 - 2 * (a / 32 % 2 * 32) := bXor_bit (k := .u8) rfl 5 rfl h0 h1 (by decide)
theorem or_u8_lo6 {a b : Int} (h0 : 0 ≤ a) (h1 : a < 256) (hb0 : 0 ≤ b) (hb1 : b < 64) (hd : a % 64 = 0) : bOr .u8 a b = a + b := bOr_low (k := .u8) rfl 6 h0 h1 hb0 hb1 hd (by decide)
theorem or_u8_hi6 {a b : Int} (h0 : 0 ≤ a) (h1 : a < 64) (hb0 : 0 ≤ b) (hb1 : b < 256) (hd : b % 64 = 0) : bOr .u8 a b = a + b := by rw [bOr_comm, Int.add_comm]; exact or_u8_lo6 hb0 hb1 h0 h1 hd
theorem xor_u8_64 {a : Int} (h0 : 0 ≤ a) (h1 : a < 256) : bXor .u8 a 64 = a + 64 - 2 * (a / 64 % 2 * 64) := bXor_bit (k := .u8) rfl 6 rfl h0 h1 (by decide)
theorem or_u8_lo7 {a b : Int} (h0 : 0 ≤ a) (h1 : a < 256) (hb0 : 0 ≤ b) (hb1 : b < 128) (hd : a % 128 = 0) : bOr .u8 a b = a + b := bOr_low (k := .u8) rfl 7 h0 h1 hb0 hb1 hd (by decide)
theorem or_u8_hi7 {a b : Int} (h0 : 0 ≤ a) (h1 : a < 128) (hb0 : 0 ≤ b) (hb1 : b < 256) (hd : b % 128 = 0) : bOr .u8 a b = a + b := by rw [bOr_comm, Int.add_comm]; exact or_u8_lo7 hb0 hb1 h0 h1 hd
theorem xor_u8_128 {a : Int} (h0 : 0 ≤ a) (h1 : a < 256) : bXor .u8 a 128 = a + 128 - 2 * (a / 128 % 2 * 128) := bXor_bit (k := .u8) rfl 7 rfl h0 h1 (by decide)
theorem or_u16_lo1 {a b : Int} (h0 : 0 ≤ a) (h1 : a < 65536) (hb0 : 0 ≤ b) (hb1 : b < 2) (hd : a % 2 = 0) : bOr .u16 a b = a + b := bOr_low (k := .u16) rfl 1 h0 h1 hb0 hb1 hd (by decide)
theorem or_u16_hi1 {a b : Int} (h0 : 0 ≤ a) (h1 : a < 2) (hb0 : 0 ≤ b) (hb1 : b < 65536) (hd : b % 2 = 0) : bOr .u16 a b = a + b := by rw [bOr_comm, Int.add_comm]; exact or_u16_lo1 hb0 hb1 h0 h1 hd
theorem xor_u16_2 {a : Int} (h0 : 0 ≤ a) (h1 : a < 65536) : bXor .u16 a 2 = a + 2 - 2 * (a / 2 % 2 * 2) := bXor_bit (k := .u16) rfl 1 rfl h0 h1 (by decide)
theorem or_u16_lo2 {a b : Int} (h0 : 0 ≤ a) (h1 : a < 65536) (hb0 : 0 ≤ b) (hb1 : b < 4) (hd : a % 4 = 0) : bOr .u16 a b = a + b := bOr_low (k := .u16) rfl 2 h0 h1 hb0 hb1 hd (by decide)
theorem or_u16_hi2 {a b : Int} (h0 : 0 ≤ a) (h1 : a < 4) (hb0 : 0 ≤ b) (hb1 : b < 65536) (hd : b % 4 = 0) : bOr .u16 a b = a + b := by rw [bOr_comm, Int.add_comm]; exact or_u16_lo2 hb0 hb1 h0 h1 hd
theorem xor_u16_4 {a : Int} (h0 : 0 ≤ a) (h1 : a < 65536) : bXor .u16 a 4 = a + 4 - 2 * (a / 4 % 2 * 4) := bXor_bit (k := .u16) rfl 2 rfl h0 h1 (by decide)
theorem or_u16_lo3 {a b : Int} (h0 : 0 ≤ a) (h1 : a < 65536) (hb0 : 0 ≤ b) (hb1 : b < 8) (hd : a % 8 = 0) : bOr .u16 a b = a + b := bOr_low (k := .u16) rfl 3 h0 h1 hb0 hb1 hd (by decide)
theorem or_u16_hi3 {a b : Int} (h0 : 0 ≤ a) (h1 : a < 8) (hb0 : 0 ≤ b) (hb1 : b < 65536) (hd : b % 8 = 0) : bOr .u16 a b = a + b := by rw [bOr_comm, Int.add_comm]; exact or_u16_lo3 hb0 hb1 h0 h1 hd
theorem xor_u16_8 {a : Int} (h0 : 0 ≤ a) (h1 : a < 65536) : bXor .u16 a 8 = a + 8 - 2 * (a / 8 % 2 * 8) := bXor_bit (k := .u16) rfl 3 rfl h0 h1 (by decide)
theorem or_u16_lo4 {a b : Int} (h0 : 0 ≤ a) (h1 : a < 65536) (hb0 : 0 ≤ b) (hb1 : b < 16) (hd : a % 16 = 0) : bOr .u16 a b = a + b := bOr_low (k := .u16) rfl 4 h0 h1 hb0 hb1 hd (by decide)
theorem or_u16_hi4 {a b : Int} (h0 : 0 ≤ a) (h1 : a < 16) (hb0 : 0 ≤ b) (hb1 : b < 65536) (hd : b % 16 = 0) : bOr .u16 a b = a + b := by rw [bOr_comm, Int.add_comm]; exact or_u16_lo4 hb0 hb1 h0 h1 hd
theorem xor_u16_16 {a : Int} (h0 : 0 ≤ a) (h1 : a < 65536) : bXor .u16 a 16 = a + 16 - 2 * (a / 16 % 2 * 16) := bXor_bit (k := .u16) rfl 4 rfl h0 h1 (by decide)
theorem or_u16_lo5 {a b : Int} (h0 : 0 ≤ a) (h1 : a < 65536) (hb0 : 0 ≤ b) (hb1 : b < 32) (hd : a % 32 = 0) : bOr .u16 a b = a + b := bOr_low (k := .u16) rfl 5 h0 h1 hb0 hb1 hd (by decide)
theorem or_u16_hi5 {a b : Int} (h0 : 0 ≤ a) (h1 : a < 32) (hb0 : 0 ≤ b) (hb1 : b < 65536) (hd : b % 32 = 0) : bOr .u16 a b = a + b := by rw [bOr_comm, Int.add_comm]; exact or_u16_lo5 hb0 hb1 h0 h1 hd
theorem xor_u16_32 {a : Int} (h0 : 0 ≤ a) (h1 : a < 65536) : bXor .u16 a 32 = a + 32 - 2 * (a / 32 % 2 * 32) := bXor_bit (k := .u16) rfl 5 rfl h0 h1 (by decide)
theorem or_u16_lo6 {a b : Int} (h0 : 0 ≤ a) (h1 : a < 65536) (hb0 : 0 ≤ b) (hb1 : b < 64) (hd : a % 64 = 0) : bOr .u16 a b = a + b := bOr_low (k := .u16) rfl 6 h0 h1 hb0 hb1 hd (by decide)
theorem or_u16_hi6 {a b : Int} (h0 : 0 ≤ a) (h1 : a < 64) (hb0 : 0 ≤ b) (hb1 : b < 65536) (hd : b % 64 = 0) : bOr .u16 a b = a + b := by rw [bOr_comm, Int.add_comm]; exact or_u16_lo6 hb0 hb1 h0 h1 hd
theorem xor_u16_64 {a : Int} (h0 : 0 ≤ a) (h1 : a < 65536) : bXor .u16 a 64 = a + 64 - 2 * (a / 64 % 2 * 64) := bXor_bit (k := .u16) rfl 6 rfl h0 h1 (by decide)
theorem or_u16_lo7 {a b : Int} (h0 : 0 ≤ a) (h1 : a < 65536) (hb0 : 0 ≤ b) (hb1 : b < 128) (hd : a % 128 = 0) : bOr .u16 a b = a + b := bOr_low (k := .u16) rfl 7 h0 h1 hb0 hb1 hd (by decide)
theorem or_u16_hi7 {a b : Int} (h0 : 0 ≤ a) (h1 : a < 128) (hb0 : 0 ≤ b) (hb1 : b < 65536) (hd : b % 128 = 0) : bOr .u16 a b = a + b := by rw [bOr_comm, Int.add_comm]; exact or_u16_lo7 hb0 hb1 h0 h1 hd
theorem xor_u16_128 {a : Int} (h0 : 0 ≤ a) (h1 : a < 65536) : bXor .u16 a 128 = a + 128 - 2 * (a / 128 % 2 * 128) := bXor_bit (k := .u16) rfl 7 rfl h0 h1 (by decide)
theorem or_u16_lo8 {a b : Int} (h0 : 0 ≤ a) (h1 : a < 65536) (hb0 : 0 ≤ b) (hb1 : b < 256) (hd : a % 256 = 0) : bOr .u16 a b = a + b := bOr_low (k := .u16) rfl 8 h0 h1 hb0 hb1 hd (by decide)
theorem or_u16_hi8 {a b : Int} (h0 : 0 ≤ a) (h1 : a < 256) (hb0 : 0 ≤ b) (hb1 : b < 65536) (hd : b % 256 = 0) : bOr .u16 a b = a + b := by rw [bOr_comm, Int.add_comm]; exact or_u16_lo8 hb0 hb1 h0 h1 hd
theorem xor_u16_256 {a : Int} (h0 : 0 ≤ a) (h1 : a < 65536) : bXor .u16 a 256 = a + 256 - 2 * (a / 256 % 2 * 256) := bXor_bit (k := .u16) rfl 8 rfl h0 h1 (by decide)
theorem or_u16_lo9 {a b : Int} (h0 : 0 ≤ a) (h1 : a < 65536) (hb0 : 0 ≤ b) (hb1 : b < 512) (hd : a % 512 = 0) : bOr .u16 a b = a + b := bOr_low (k := .u16) rfl 9 h0 h1 hb0 hb1 hd (by decide)
theorem or_u16_hi9 {a b : Int} (h0 : 0 ≤ a) (h1 : a < 512) (hb0 : 0 ≤ b) (hb1 : b < 65536) (hd : b % 512 = 0) : bOr .u16 a b = a + b := by rw [bOr_comm, Int.add_comm]; exact or_u16_lo9 hb0 hb1 h0 h1 hd
theorem xor_u16_512 {a : Int} (h0 : 0 ≤ a) (h1 : a < 65536) : bXor .u16 a 512 = a + 512 - 2 * (a / 512 % 2 * 512) := bXor_bit (k := .u16) rfl 9 rfl h0 h1 (by decide)
theorem or_u16_lo10 {a b : Int} (h0 : 0 ≤ a) (h1 : a < 65536) (hb0 : 0 ≤ b) (hb1 : b < 1024) (hd : a % 1024 = 0) : bOr .u16 a b = a + b := bOr_low (k := .u16) rfl 10 h0 h1 hb0 hb1 hd (by decide)
theorem or_u16_hi10 {a b : Int} (h0 : 0 ≤ a) (h1 : a < 1024) (hb0 : 0 ≤ b) (hb1 : b < 65536) (hd : b % 1024 = 0) : bOr .u16 a b = a + b := by rw [bOr_comm, Int.add_comm]; exact or_u16_lo10 hb0 hb1 h0 h1 hd
theorem xor_u16_1024 {a : Int} (h0 : 0 ≤ a) (h1 : a < 65536) : bXor .u16 a 1024 = a + 1024 - 2 * (a / 1024 % 2 * 1024) := bXor_bit (k := .u16) rfl 10 rfl h0 h1 (by decide)
theorem or_u16_lo11 {a b : Int} (h0 : 0 ≤ a) (h1 : a < 65536) (hb0 : 0 ≤ b) (hb1 : b < 2048) (hd : a % 2048 = 0) : bOr .u16 a b = a + b := bOr_low (k := .u16) rfl 11 h0 h1 hb0 hb1 hd (by decide)
theorem or_u16_hi11 {a b : Int} (h0 : 0 ≤ a) (h1 : a < 2048) (hb0 : 0 ≤ b) (hb1 : b < 65536) (hd : b % 2048 = 0) : bOr .u16 a b = a + b := by rw [bOr_comm, Int.add_comm]; exact or_u16_lo11 hb0 hb1 h0 h1 hd
theorem xor_u16_2048 {a : Int} (h0 : 0 ≤ a) (h1 : a < 65536) : bXor .u16 a 2048 = a + 2048 - 2 * (a / 2048 % 2 * 2048) := bXor_bit (k := .u16) rfl 11 rfl h0 h1 (by decide)
theorem or_u16_lo12 {a b : Int} (h0 : 0 ≤ a) (h1 : a < 65536) (hb0 : 0 ≤ b) (hb1 : b < 4096) (hd : a % 4096 = 0) : bOr .u16 a b = a + b := bOr_low (k := .u16) rfl 12 h0 h1 hb0 hb1 hd (by decide)
theorem or_u16_hi12 {a b : Int} (h0 : 0 ≤ a) (h1 : a < 4096) (hb0 : 0 ≤ b) (hb1 : b < 65536) (hd : b % 4096 = 0) : bOr .u16 a b = a + b := by rw [bOr_comm, Int.add_comm]; exact or_u16_lo12 hb0 hb1 h0 h1 hd
theorem xor_u16_4096 {a : Int} (h0 : 0 ≤ a) (h1 : a < 65536) : bXor .u16 a 4096 = a + 4096 - 2 * (a / 4096 % 2 * 4096) := bXor_bit (k := .u16) rfl 12 rfl h0 h1 (by decide)
theorem or_u16_lo13 {a b : Int} (h0 : 0 ≤ a) (h1 : a < 65536) (hb0 : 0 ≤ b) (hb1 : b < 8192) (hd : a % 8192 = 0) : bOr .u16 a b = a + b := bOr_low (k := .u16) rfl 13 h0 h1 hb0 hb1 hd (by decide)
theorem or_u16_hi13 {a b : Int} (h0 : 0 ≤ a) (h1 : a < 8192) (hb0 : 0 ≤ b) (hb1 : b < 65536) (hd : b % 8192 = 0) : bOr .u16 a b = a + b := by rw [bOr_comm, Int.add_comm]; exact or_u16_lo13 hb0 hb1 h0 h1 hd
theorem xor_u16_8192 {a : Int} (h0 : 0 ≤ a) (h1 : a < 65536) : bXor .u16 a 8192 = a + 8192 - 2 * (a / 8192 % 2 * 8192) := bXor_bit (k := .u16) rfl 13 rfl h0 h1 (by decide)
theorem or_u16_lo14 {a b : Int} (h0 : 0 ≤ a) (h1 : a < 65536) (hb0 : 0 ≤ b) (hb1 : b < 16384) (hd : a % 16384 = 0) : bOr .u16 a b = a + b := bOr_low (k := .u16) rfl 14 h0 h1 hb0 hb1 hd (by decide)
theorem or_u16_hi14 {a b : Int} (h0 : 0 ≤ a) (h1 : a < 16384) (hb0 : 0 ≤ b) (hb1 : b < 65536) (hd : b % 16384 = 0) : bOr .u16 a b = a + b := by rw [bOr_comm, Int.add_comm]; exact or_u16_lo14 hb0 hb1 h0 h1 hd
theorem xor_u16_16384 {a : Int} (h0 : 0 ≤ a) (h1 : a < 65536) : bXor .u16 a 16384 = a + 16384 - 2 * (a / 16384 % 2 * 16384) := bXor_bit (k := .u16) rfl 14 rfl h0 h1 (by decide)
theorem or_u16_lo15 {a b : Int} (h0 : 0 ≤ a) (h1 : a < 65536) (hb0 : 0 ≤ b) (hb1 : b < 32768) (hd : a % 32768 = 0) : bOr .u16 a b = a + b := bOr_low (k := .u16) rfl 15 h0 h1 hb0 hb1 hd (by decide)
theorem or_u16_hi15 {a b : Int} (h0 : 0 ≤ a) (h1 : a < 32768) (hb0 : 0 ≤ b) (hb1 : b < 65536) (hd : b % 32768 = 0) : bOr .u16 a b = a + b := by rw [bOr_comm, Int.add_comm]; exact or_u16_lo15 hb0 hb1 h0 h1 hd
theorem xor_u16_32768 {a : Int} (h0 : 0 ≤ a) (h1 : a < 65536) : bXor .u16 a 32768 = a + 32768 - 2 * (a / 32768 % 2 * 32768) := bXor_bit (k := .u16) rfl 15 rfl h0 h1 (by decide)
theorem rOf_eq (n : Int) (h0 : 0 ≤ n) (h1 : n < 32768) : rOf n = ⟨n % 32, n / 32 % 32, n / 1024 % 2, n / 2048 % 2, n / 4096 % 8⟩ := by
  unfold rOf
  simp (disch := omega) only [Int.tmod_eq_emod_of_nonneg, Int.tdiv_eq_ediv_of_nonneg, i64_in]
theorem sName_eq (s : Scroll) (h0 : 0 ≤ s.V) (h1 : s.V < 65536) : sName s = 8192 + s.V % 4096 := by
  unfold sName
  simp (disch := omega) only [and_u16_4095, Int.ediv_one, Int.mul_one, or_u16_lo12]
theorem rName_eq (p : Place) (h1 : 0 ≤ p.Column ∧ p.Column < 32) (h2 : 0 ≤ p.Line ∧ p.Line < 32) (h3 : 0 ≤ p.Across ∧ p.Across < 2) (h4 : 0 ≤ p.Down ∧ p.Down < 2) : rName p = 8192 + p.Column + 32 * p.Line + 1024 * p.Across + 2048 * p.Down := by
  unfold rName
  simp (disch := omega) only [i64_in]
theorem rShade_eq (p : Place) (h1 : 0 ≤ p.Column ∧ p.Column < 32) (h2 : 0 ≤ p.Line ∧ p.Line < 32) (h3 : 0 ≤ p.Across ∧ p.Across < 2) (h4 : 0 ≤ p.Down ∧ p.Down < 2) :
    rShade p = (9152 + 1024 * (p.Across + 2 * p.Down) + 8 * (p.Line / 4) + p.Column / 4, p.Column % 4 / 2 * 2 + p.Line % 4 / 2 * 4) := by
  unfold rShade
  simp (disch := omega) only [Int.tmod_eq_emod_of_nonneg, Int.tdiv_eq_ediv_of_nonneg, i64_in]
theorem or_9152 (q : Int) (h0 : 0 ≤ q) (h1 : q < 4) : bOr .u16 9152 (q * 1024) = 9152 + q * 1024 := by
  obtain rfl | rfl | rfl | rfl : q = 0 ∨ q = 1 ∨ q = 2 ∨ q = 3 := by omega
  all_goals decide
theorem or_bits (x y : Int) (hx : x = 0 ∨ x = 1) (hy : y = 0 ∨ y = 1) : bOr .u16 (x * 2) (y * 4) = x * 2 + y * 4 := by
  rcases hx with rfl | rfl <;> rcases hy with rfl | rfl <;> decide
theorem sShade_eq (s : Scroll) (h0 : 0 ≤ s.V) (h1 : s.V < 65536) : sShade s = (9152 + s.V / 1024 % 4 * 1024 + s.V / 128 % 8 * 8 + s.V / 4 % 8, s.V / 2 % 2 * 2 + s.V / 64 % 2 * 4) := by
  unfold sShade
  simp (disch := omega) only [and_u16_3072, and_u16_992, and_u16_31, and_u16_2, shr_u16_5, shr_u16_2, shl_u16_3, shl_u16_1, u16_in]
  rw [or_9152 _ (by omega) (by omega)]
  simp (disch := omega) only [or_u16_lo6, or_u16_lo3]
  have e : s.V / 32 % 32 * 32 / 32 / 2 % 2 * 2 * 2 = s.V / 64 % 2 * 4 := by omega
  rw [e, or_bits _ _ (by omega) (by omega)]
  simp (disch := omega) only [u8_in]
  simp only [Prod.mk.injEq]
  constructor <;> omega
theorem mirror_eq (a : Int) (u : Bool) (h0 : 0 ≤ a) (h1 : a < 65536) : mirror a u = bif u then a % 2048 else a % 1024 + a / 2048 % 2 * 1024 := by
  unfold mirror
  cases u
  · simp (disch := omega) only [Bool.not_false, if_true, shr_u16_1, and_u16_1023, and_u16_1024, Int.ediv_one, Int.mul_one, or_u16_hi10, cond_false]
    omega
  · simp (disch := omega) only [Bool.not_true, Bool.false_eq_true, if_false, and_u16_2047, Int.ediv_one, Int.mul_one, cond_true]
theorem colour_mod (a : Int) (h0 : 0 ≤ a) (h1 : a < 65536) : colour a = colour (a % 32) := by
  unfold colour
  simp (disch := omega) only [and_u16_31, Int.ediv_one, Int.mul_one, Int.emod_emod_of_dvd]
theorem rColour_mod (a : Int) (h0 : 0 ≤ a) (h1 : a < 65536) : rColour a = rColour (a % 32) := by
  unfold rColour
  simp (disch := omega) only [Int.tmod_eq_emod_of_nonneg]
  rw [Int.emod_emod_of_dvd a (Int.dvd_refl 32)]
def coloursB (c : Nat) : Bool :=
  (i64.wrap (colour c) == rColour c) && ((colour (u16.wrap (colour c)) == colour c) && (((c : Int) % 4 == 0) == (colour ((c : Int) + 16 - 2 * ((c : Int) / 16 % 2 * 16)) == colour c)))
theorem colours_all : allN coloursB 5 0 = true := by kernel_rfl
theorem colours_plain (a : Int) (h0 : 0 ≤ a) (h1 : a < 65536) : ((i64.wrap (colour a)) : Int) = rColour (i64.wrap a) ∧ colour (u16.wrap (colour a)) = colour a ∧
    (((bAnd .u16 a 3 : Int) == 0) == (colour (bXor .u16 a 16) == colour a)) = true := by
  simp (disch := omega) only [i64_in, xor_u16_16, and_u16_3]
  have h := allN_int colours_all (a % 32) (by omega) (by omega)
  have e : ((a % 32).toNat : Int) = a % 32 := Int.toNat_of_nonneg (by omega)
  simp only [coloursB, Bool.and_eq_true, beq_iff_eq, e] at h
  obtain ⟨h2, h3, h4⟩ := h
  rw [colour_mod a h0 h1, rColour_mod a h0 h1, colour_mod (a + 16 - 2 * (a / 16 % 2 * 16)) (by omega) (by omega)]
  refine ⟨h2, h3, ?_⟩
  have e1 : (a + 16 - 2 * (a / 16 % 2 * 16)) % 32 = a % 32 + 16 - 2 * (a % 32 / 16 % 2 * 16) := by omega
  have e2 : a / 1 % 4 * 1 = a % 32 % 4 := by omega
  have e3 : a % 4 = a % 32 % 4 := by omega
  rw [e1]
  first | rw [e2] | rw [e3]
  rw [h4]
  simp
structure Good (s : Scroll) : Prop where
  v0 : 0 ≤ s.V
  v1 : s.V < 32768
  t0 : 0 ≤ s.T
  t1 : s.T < 32768
  x0 : 0 ≤ s.X
  x1 : s.X < 8
structure Fits (s : Scroll) : Prop where
  v0 : 0 ≤ s.V
  v1 : s.V < 65536
  t0 : 0 ≤ s.T
  t1 : s.T < 65536
  x0 : 0 ≤ s.X
  x1 : s.X < 256
theorem right_eq (s : Scroll) (h : Fits s) : right s = ⟨s.V % 32768, s.T % 32768, s.X % 8, s.W⟩ := by
  obtain ⟨_, _, _, _, _, _⟩ := h
  unfold right
  simp (disch := omega) only [and_u16_32767, and_u8_7, Int.ediv_one, Int.mul_one]
theorem right_good (s : Scroll) (h : Good s) : right s = s := by
  obtain ⟨_, _, _, _, _, _⟩ := h
  rw [right_eq s ⟨by omega, by omega, by omega, by omega, by omega, by omega⟩]
  obtain ⟨V, T, X, W⟩ := s
  simp only [Scroll.mk.injEq, and_true]
  simp only at *
  omega
theorem put_eq (a m b : Int) (ha : 0 ≤ a ∧ a < 65536) (hb : 0 ≤ b ∧ b < 65536) (hm : 0 ≤ m ∧ m < 65536) : put a m b = a - bAnd .u16 a m + bAnd .u16 b m :=
  bOr_put (k := .u16) rfl ha.1 ha.2 hb.1 hb.2 hm.1 hm.2
theorem look_eq (s : Scroll) (h : Fits s) : sLook s = ⟨s.V % 32768, s.T % 32768, s.X % 8, false⟩ := by
  unfold sLook; rw [right_eq s h]
theorem address1_eq (s : Scroll) (h : Good s) (b : Int) (hb : 0 ≤ b ∧ b < 256) (hw : s.W = false) : sAddress s b = ⟨s.V, s.T % 256 + b % 64 * 256, s.X, true⟩ := by
  unfold sAddress
  rw [right_good s h, if_neg (by rw [hw]; decide), hw]
  obtain ⟨_, _, _, _, _, _⟩ := h
  simp (disch := omega) only [and_u8_63, Int.ediv_one, Int.mul_one, u16_in, shl_u16_8]
  rw [put_eq _ _ _ (by omega) (by omega) (by decide)]
  simp (disch := omega) only [and_u16_32512]
  simp only [Scroll.mk.injEq, true_and, Bool.not_false, and_true]
  omega
theorem address2_eq (s : Scroll) (h : Good s) (b : Int) (hb : 0 ≤ b ∧ b < 256) (hw : s.W = true) : sAddress s b = ⟨s.T / 256 * 256 + b, s.T / 256 * 256 + b, s.X, false⟩ := by
  unfold sAddress
  rw [right_good s h, if_pos hw, hw]
  obtain ⟨_, _, _, _, _, _⟩ := h
  simp (disch := omega) only [u16_in]
  rw [put_eq _ _ _ (by omega) (by omega) (by decide)]
  simp (disch := omega) only [and_u16_255, Int.ediv_one, Int.mul_one]
  simp only [Scroll.mk.injEq, true_and, Bool.not_true, and_true]
  omega
theorem step_V (s : Scroll) (h : Good s) (far : Bool) : (sStep s far).V = (s.V + bif far then 32 else 1) % 32768 ∧ Good (sStep s far) := by
  obtain ⟨_, _, _, _, _, _⟩ := h
  unfold sStep
  cases far
  · rw [if_neg (by decide)]
    simp (disch := omega) only [u16_in]
    rw [right_eq _ ⟨by simp only; omega, by simp only; omega, by simp only; omega, by simp only; omega, by simp only; omega, by simp only; omega⟩]
    exact ⟨by simp only [cond_false], ⟨by simp only; omega, by simp only; omega, by simp only; omega, by simp only; omega, by simp only; omega, by simp only; omega⟩⟩
  · rw [if_pos rfl]
    simp (disch := omega) only [u16_in]
    rw [right_eq _ ⟨by simp only; omega, by simp only; omega, by simp only; omega, by simp only; omega, by simp only; omega, by simp only; omega⟩]
    exact ⟨by simp only [cond_true]; omega, ⟨by simp only; omega, by simp only; omega, by simp only; omega, by simp only; omega, by simp only; omega, by simp only; omega⟩⟩
theorem and_two {a m : Int} (x y : Nat) (h0 : 0 ≤ a) (h1 : a < 65536) (hm : m = ((x ||| y : Nat) : Int)) (hx : x < 65536) (hy : y < 65536) (hd : x &&& y = 0) : bAnd .u16 a m = bAnd .u16 a x + bAnd .u16 a y := by
  obtain ⟨n, rfl⟩ := Int.eq_ofNat_of_zero_le h0
  subst hm
  have hn : n < 2 ^ IntKind.u16.bits := by show n < 65536; omega
  rw [and_nat (k := .u16) rfl hn (Nat.or_lt_two_pow (n := 16) hx hy), and_nat (k := .u16) rfl hn hx, and_nat (k := .u16) rfl hn hy, Nat.and_or_distrib_left, or_add]
  · exact Int.natCast_add _ _
  · have : (n &&& x) &&& (n &&& y) = n &&& (x &&& y) := by
      apply Nat.eq_of_testBit_eq
      intro i
      simp only [Nat.testBit_and]
      cases n.testBit i <;> simp
    rw [this, hd, Nat.and_zero]
theorem and_u16_30720 {a : Int} (h0 : 0 ≤ a) (h1 : a < 65536) : bAnd .u16 a 30720 = a / 2048 % 16 * 2048 := by
  have := bAnd_field (k := .u16) rfl 11 4 (m := 30720) rfl h0 h1 (by decide)
  simpa using this
theorem and_u16_31712 {a : Int} (h0 : 0 ≤ a) (h1 : a < 65536) : bAnd .u16 a 31712 = a / 2048 % 16 * 2048 + a / 32 % 32 * 32 := by
  rw [and_two 30720 992 h0 h1 (by decide) (by decide) (by decide) (by decide)]
  show bAnd .u16 a 30720 + bAnd .u16 a 992 = _
  rw [and_u16_30720 h0 h1, and_u16_992 h0 h1]
theorem and_u16_1055 {a : Int} (h0 : 0 ≤ a) (h1 : a < 65536) : bAnd .u16 a 1055 = a / 1024 % 2 * 1024 + a % 32 := by
  rw [and_two 1024 31 h0 h1 (by decide) (by decide) (by decide) (by decide)]
  show bAnd .u16 a 1024 + bAnd .u16 a 31 = _
  rw [and_u16_1024 h0 h1, and_u16_31 h0 h1]
theorem fits_of (V T X : Int) (W : Bool) (h1 : 0 ≤ V ∧ V < 65536) (h2 : 0 ≤ T ∧ T < 65536) (h3 : 0 ≤ X ∧ X < 256) : Fits ⟨V, T, X, W⟩ := ⟨h1.1, h1.2, h2.1, h2.2, h3.1, h3.2⟩
theorem good_of (V T X : Int) (W : Bool) (h1 : 0 ≤ V ∧ V < 32768) (h2 : 0 ≤ T ∧ T < 32768) (h3 : 0 ≤ X ∧ X < 8) : Good ⟨V, T, X, W⟩ := ⟨h1.1, h1.2, h2.1, h2.2, h3.1, h3.2⟩
theorem control_eq (s : Scroll) (h : Good s) (b : Int) (hb : 0 ≤ b ∧ b < 256) : sControl s b = ⟨s.V, s.T - s.T / 1024 % 4 * 1024 + b % 4 * 1024, s.X, s.W⟩ := by
  unfold sControl
  rw [right_good s h]
  obtain ⟨_, _, _, _, _, _⟩ := h
  simp (disch := omega) only [u16_in, shl_u16_10]
  have e : u16.wrap (b * 1024) = b % 64 * 1024 := by rw [IntKind.wrap_u16]; omega
  rw [e, put_eq _ _ _ (by omega) (by omega) (by decide)]
  simp (disch := omega) only [and_u16_3072]
  simp only [Scroll.mk.injEq, true_and, and_true]
  omega
theorem offset1_eq (s : Scroll) (h : Good s) (b : Int) (hb : 0 ≤ b ∧ b < 256) (hw : s.W = false) : sOffset s b = ⟨s.V, s.T / 32 * 32 + b / 8, b % 8, true⟩ := by
  unfold sOffset
  rw [right_good s h, if_neg (by rw [hw]; decide), hw]
  obtain ⟨_, _, _, _, _, _⟩ := h
  simp (disch := omega) only [u16_in, shr_u16_3, and_u8_7, Int.ediv_one, Int.mul_one]
  rw [put_eq _ _ _ (by omega) (by omega) (by decide)]
  simp (disch := omega) only [and_u16_31, Int.ediv_one, Int.mul_one]
  simp only [Scroll.mk.injEq, true_and, Bool.not_false, and_true]
  omega
theorem offset2_eq (s : Scroll) (h : Good s) (b : Int) (hb : 0 ≤ b ∧ b < 256) (hw : s.W = true) : sOffset s b = ⟨s.V, s.T % 32 + b / 8 * 32 + s.T / 1024 % 4 * 1024 + b % 8 * 4096, s.X, false⟩ := by
  unfold sOffset
  rw [right_good s h, if_pos hw, hw]
  obtain ⟨_, _, _, _, _, _⟩ := h
  simp (disch := omega) only [u16_in, shr_u16_3, shl_u16_5, shl_u16_12]
  have e : u16.wrap (b * 4096) = b % 16 * 4096 := by rw [IntKind.wrap_u16]; omega
  rw [e, put_eq s.T _ _ (by omega) (by omega) (by decide)]
  simp (disch := omega) only [and_u16_992]
  rw [put_eq _ _ _ (by omega) (by omega) (by decide)]
  simp (disch := omega) only [and_u16_28672]
  simp only [Scroll.mk.injEq, true_and, Bool.not_true, and_true]
  omega
def at_ (c l a d r : Int) : Int := c + 32 * l + 1024 * a + 2048 * d + 4096 * r
structure Parts (c l a d r : Int) : Prop where
  c0 : 0 ≤ c
  c1 : c < 32
  l0 : 0 ≤ l
  l1 : l < 32
  a0 : 0 ≤ a
  a1 : a < 2
  d0 : 0 ≤ d
  d1 : d < 2
  r0 : 0 ≤ r
  r1 : r < 8
theorem at_b {c l a d r : Int} (h : Parts c l a d r) : 0 ≤ at_ c l a d r ∧ at_ c l a d r < 32768 := by
  obtain ⟨_, _, _, _, _, _, _, _, _, _⟩ := h
  unfold at_; omega
theorem at_c {c l a d r : Int} (h : Parts c l a d r) : at_ c l a d r % 32 = c := by
  obtain ⟨_, _, _, _, _, _, _, _, _, _⟩ := h
  unfold at_; omega
theorem at_l {c l a d r : Int} (h : Parts c l a d r) : at_ c l a d r / 32 % 32 = l := by
  obtain ⟨_, _, _, _, _, _, _, _, _, _⟩ := h
  unfold at_; omega
theorem at_a {c l a d r : Int} (h : Parts c l a d r) : at_ c l a d r / 1024 % 2 = a := by
  obtain ⟨_, _, _, _, _, _, _, _, _, _⟩ := h
  unfold at_; omega
theorem at_d {c l a d r : Int} (h : Parts c l a d r) : at_ c l a d r / 2048 % 2 = d := by
  obtain ⟨_, _, _, _, _, _, _, _, _, _⟩ := h
  unfold at_; omega
theorem at_r {c l a d r : Int} (h : Parts c l a d r) : at_ c l a d r / 4096 = r := by
  obtain ⟨_, _, _, _, _, _, _, _, _, _⟩ := h
  unfold at_; omega
theorem at_dr {c l a d r : Int} (h : Parts c l a d r) : at_ c l a d r / 2048 % 16 = d + 2 * r := by
  obtain ⟨_, _, _, _, _, _, _, _, _, _⟩ := h
  unfold at_; omega
theorem of_parts (V : Int) (h0 : 0 ≤ V) (h1 : V < 32768) : ∃ c l a d r, Parts c l a d r ∧ V = at_ c l a d r :=
  ⟨V % 32, V / 32 % 32, V / 1024 % 2, V / 2048 % 2, V / 4096, ⟨by omega, by omega, by omega, by omega, by omega, by omega, by omega, by omega, by omega, by omega⟩, by unfold at_; omega⟩
theorem good_at {c l a d r T X : Int} {W : Bool} (h : Parts c l a d r) (hT : 0 ≤ T ∧ T < 32768) (hX : 0 ≤ X ∧ X < 8) : Good ⟨at_ c l a d r, T, X, W⟩ := good_of _ _ _ _ (at_b h) hT hX
theorem line_at {c l a d r c' l' a' d' r' X : Int} {W : Bool} (h : Parts c l a d r) (h' : Parts c' l' a' d' r') (hX : 0 ≤ X ∧ X < 8) : sLine ⟨at_ c l a d r, at_ c' l' a' d' r', X, W⟩ = ⟨at_ c' l a' d r, at_ c' l' a' d' r', X, W⟩ := by
  have hb := at_b h
  have hb' := at_b h'
  unfold sLine
  rw [right_good _ (good_at h hb' hX), put_eq _ _ _ (by simp only; omega) (by simp only; omega) (by decide)]
  simp (disch := omega) only [and_u16_1055, Int.ediv_one, Int.mul_one]
  rw [at_a h, at_c h, at_a h', at_c h']
  simp only [Scroll.mk.injEq, true_and, and_true]
  unfold at_; omega
theorem top_at {c l a d r c' l' a' d' r' X : Int} {W : Bool} (h : Parts c l a d r) (h' : Parts c' l' a' d' r') (hX : 0 ≤ X ∧ X < 8) : sTop ⟨at_ c l a d r, at_ c' l' a' d' r', X, W⟩ = ⟨at_ c l' a d' r', at_ c' l' a' d' r', X, W⟩ := by
  have hb := at_b h
  have hb' := at_b h'
  unfold sTop
  rw [right_good _ (good_at h hb' hX), put_eq _ _ _ (by simp only; omega) (by simp only; omega) (by decide)]
  simp (disch := omega) only [and_u16_31712]
  rw [at_l h, at_dr h, at_l h', at_dr h']
  simp only [Scroll.mk.injEq, true_and, and_true]
  unfold at_; omega
theorem right_at {c l a d r T X : Int} {W : Bool} (h : Parts c l a d r) (hT : 0 ≤ T ∧ T < 32768) (hX : 0 ≤ X ∧ X < 8) : ∃ c' a', Parts c' l a' d r ∧ sRight ⟨at_ c l a d r, T, X, W⟩ = ⟨at_ c' l a' d r, T, X, W⟩ ∧ c' + 32 * a' = (c + 32 * a + 1) % 64 := by
  have hb := at_b h
  unfold sRight
  rw [right_good _ (good_at h hT hX)]
  rw [bAndNot_eq (k := .u16) rfl (by simp only; omega) (Int.lt_of_lt_of_le (b := 32768) (by simp only; omega) (by decide)) (by decide) (by decide)]
  simp (disch := omega) only [and_u16_31, Int.ediv_one, Int.mul_one, beq_iff_eq]
  rw [at_c h]
  obtain ⟨_, _, _, _, _, _, _, _, _, _⟩ := h
  have h2 : (at_ c l a d r - c) / 1024 % 2 = a := by unfold at_; omega
  have h3 : 0 ≤ at_ c l a d r - c ∧ at_ c l a d r - c < 65536 := by unfold at_ at *; omega
  rw [xor_u16_1024 h3.1 h3.2, h2]
  by_cases hc : c = 31
  · rw [if_pos hc]
    refine ⟨0, 1 - a, ⟨by omega, by omega, by omega, by omega, by omega, by omega, by omega, by omega, by omega, by omega⟩, ?_, by omega⟩
    simp only [Scroll.mk.injEq, true_and, and_true]
    unfold at_; omega
  · rw [if_neg hc]
    refine ⟨c + 1, a, ⟨by omega, by omega, by omega, by omega, by omega, by omega, by omega, by omega, by omega, by omega⟩, ?_, by omega⟩
    simp (disch := omega) only [u16_in]
    simp only [Scroll.mk.injEq, true_and, and_true]
    unfold at_; omega
theorem down_at {c l a d r T X : Int} {W : Bool} (h : Parts c l a d r) (hl : l < 30) (hT : 0 ≤ T ∧ T < 32768) (hX : 0 ≤ X ∧ X < 8) : ∃ l' d' r', Parts c l' a d' r' ∧ l' < 30 ∧ sDown ⟨at_ c l a d r, T, X, W⟩ = ⟨at_ c l' a d' r', T, X, W⟩ ∧ 240 * d' + 8 * l' + r' = (240 * d + 8 * l + r + 1) % 480 := by
  have hb := at_b h
  unfold sDown
  rw [right_good _ (good_at h hT hX)]
  rw [bAndNot_eq (a := at_ c l a d r) (m := 28672) (k := .u16) rfl (by omega) (Int.lt_of_lt_of_le (b := 32768) (by omega) (by decide)) (by decide) (by decide)]
  simp (disch := omega) only [and_u16_28672]
  have hr8 : at_ c l a d r / 4096 % 8 = r := by
    rw [at_r h]; obtain ⟨_, _, _, _, _, _, _, _, _, _⟩ := h; omega
  rw [hr8]
  obtain ⟨_, _, _, _, _, _, _, _, _, _⟩ := h
  have e : at_ c l a d r - r * 4096 = c + 32 * l + 1024 * a + 2048 * d := by unfold at_; omega
  rw [e]
  have el : (c + 32 * l + 1024 * a + 2048 * d) / 32 % 32 = l := by omega
  rw [bAndNot_eq (k := .u16) rfl (by omega) (Int.lt_of_lt_of_le (b := 32768) (by omega) (by decide)) (by decide) (by decide)]
  simp (disch := omega) only [and_u16_992, beq_iff_eq, bne_iff_ne, ne_eq]
  rw [el]
  have ed : (c + 32 * l + 1024 * a + 2048 * d - l * 32) / 2048 % 2 = d := by omega
  rw [xor_u16_2048 (by omega) (by omega), ed]
  by_cases h7 : r = 7
  · rw [if_neg (by omega)]
    by_cases h29 : l = 29
    · rw [if_pos (by omega)]
      refine ⟨0, 1 - d, 0, ⟨by omega, by omega, by omega, by omega, by omega, by omega, by omega, by omega, by omega, by omega⟩, by omega, ?_, by omega⟩
      simp only [Scroll.mk.injEq, true_and, and_true]
      unfold at_; omega
    · rw [if_neg (by omega), if_neg (by omega)]
      refine ⟨l + 1, d, 0, ⟨by omega, by omega, by omega, by omega, by omega, by omega, by omega, by omega, by omega, by omega⟩, by omega, ?_, by omega⟩
      simp (disch := omega) only [u16_in]
      simp only [Scroll.mk.injEq, true_and, and_true]
      unfold at_; omega
  · rw [if_pos (by omega)]
    refine ⟨l, d, r + 1, ⟨by omega, by omega, by omega, by omega, by omega, by omega, by omega, by omega, by omega, by omega⟩, by omega, ?_, by omega⟩
    simp (disch := omega) only [u16_in]
    simp only [Scroll.mk.injEq, true_and, and_true]
    unfold at_; omega
end Go.Proofs.Ytgnhhnmpeklciaa
namespace Go.Proofs.Ytgnhhnmpeklciaa
open Go VX IntWalk
open Go.IntKind (i64 u8 u16)
set_option maxRecDepth 100000
set_option linter.unusedSimpArgs false
set_option linter.unusedVariables false
set_option linter.unusedSectionVars false
def pl (v : Int) : Place := ⟨v % 32, v / 32 % 32, v / 1024 % 2, v / 2048 % 2, v / 4096 % 8⟩
theorem rOf_pl (n : Int) (h0 : 0 ≤ n) (h1 : n < 32768) : rOf n = pl n := rOf_eq n h0 h1
theorem rBits_pl (v : Int) (h0 : 0 ≤ v) (h1 : v < 32768) : rBits (pl v) = v := by
  unfold rBits pl
  simp only
  rw [w64 (x := 32 * _) (by omega) (by omega), w64 (x := v % 32 + _) (by omega) (by omega), w64 (x := 1024 * _) (by omega) (by omega), w64 (x := _ + 1024 * _) (by omega) (by omega), w64 (x := 2048 * _) (by omega) (by omega), w64 (x := _ + 2048 * _) (by omega) (by omega), w64 (x := 4096 * _) (by omega) (by omega), w64 (by omega) (by omega)]
  omega
structure Sc (s : Scroll) (q : RScroll) : Prop where
  good : Good s
  V : q.V = pl s.V
  T : q.T = pl s.T
  X : q.X = s.X
  W : q.W = s.W
theorem Sc.eq {s : Scroll} {q : RScroll} (h : Sc s q) : q = ⟨pl s.V, pl s.T, s.X, s.W⟩ := by
  obtain ⟨V, T, X, W⟩ := q
  have h1 := h.V; have h2 := h.T; have h3 := h.X; have h4 := h.W
  simp only at h1 h2 h3 h4
  rw [h1, h2, h3, h4]
theorem sc_of {V T X : Int} {W : Bool} (h1 : 0 ≤ V ∧ V < 32768) (h2 : 0 ≤ T ∧ T < 32768) (h3 : 0 ≤ X ∧ X < 8) : Sc ⟨V, T, X, W⟩ ⟨pl V, pl T, X, W⟩ := ⟨good_of _ _ _ _ h1 h2 h3, rfl, rfl, rfl, rfl⟩
theorem Place.ext' {a b : Place} (h1 : a.Column = b.Column) (h2 : a.Line = b.Line) (h3 : a.Across = b.Across) (h4 : a.Down = b.Down) (h5 : a.Row = b.Row) : a = b := by
  cases a; cases b; simp only at h1 h2 h3 h4 h5; rw [h1, h2, h3, h4, h5]
section
variable {s : Scroll} {q : RScroll} (h : Sc s q) {b : Int} (w : rng 256 b)
include h
theorem sc_bounds : (0 ≤ s.V ∧ s.V < 32768) ∧ (0 ≤ s.T ∧ s.T < 32768) ∧ (0 ≤ s.X ∧ s.X < 8) := ⟨⟨h.good.v0, h.good.v1⟩, ⟨h.good.t0, h.good.t1⟩, ⟨h.good.x0, h.good.x1⟩⟩
theorem sc_look : Sc (sLook s) ({ q with W := false } : RScroll) := by
  obtain ⟨h1, h2, h3⟩ := sc_bounds h
  rw [look_eq s ⟨by omega, by omega, by omega, by omega, by omega, by omega⟩, h.eq]
  rw [show s.V % 32768 = s.V by omega, show s.T % 32768 = s.T by omega, show s.X % 8 = s.X by omega]
  exact sc_of h1 h2 h3
theorem sc_step (far : Bool) : Sc (sStep s far) (rStep q far) := by
  obtain ⟨h1, h2, h3⟩ := sc_bounds h
  obtain ⟨e, g⟩ := step_V s h.good far
  have e2 : sStep s far = ⟨(s.V + bif far then 32 else 1) % 32768, s.T, s.X, s.W⟩ := by
    have hT : (sStep s far).T = s.T ∧ (sStep s far).X = s.X ∧ (sStep s far).W = s.W := by
      unfold sStep
      cases far
      · rw [if_neg (by decide), u16_in _ (by omega), right_eq _ ⟨by simp only; omega, by simp only; omega, by simp only; omega, by simp only; omega, by simp only; omega, by simp only; omega⟩]
        exact ⟨by simp only; omega, by simp only; omega, rfl⟩
      · rw [if_pos rfl, u16_in (s.V + 1) (by omega), u16_in _ (by omega), right_eq _ ⟨by simp only; omega, by simp only; omega, by simp only; omega, by simp only; omega, by simp only; omega, by simp only; omega⟩]
        exact ⟨by simp only; omega, by simp only; omega, rfl⟩
    obtain ⟨t1, t2, t3⟩ := hT
    generalize sStep s far = z at *
    obtain ⟨zV, zT, zX, zW⟩ := z
    simp only at *
    rw [e, t1, t2, t3]
  rw [e2, h.eq]
  unfold rStep
  simp only [rBits_pl s.V h1.1 h1.2]
  cases far
  · rw [if_neg (by decide), w64 (by omega) (by omega), tm_e 32768 (by omega), rOf_pl _ (by omega) (by omega)]
    exact sc_of (by simp only [cond_false]; omega) h2 h3
  · rw [if_pos rfl, w64 (by omega) (by omega), tm_e 32768 (by omega), rOf_pl _ (by omega) (by omega)]
    exact sc_of (by simp only [cond_true]; omega) h2 h3
include w
theorem sc_control : Sc (sControl s b) (rControl q b) := by
  obtain ⟨h1, h2, h3⟩ := sc_bounds h
  obtain ⟨w0, w1⟩ := w
  have w1 : b < 256 := w1
  rw [control_eq s h.good b ⟨w0, w1⟩, h.eq]
  unfold rControl
  rw [tm_e 2 w0, td_e 2 w0, w64 (by omega) (by omega), tm_e 2 (by omega)]
  refine ⟨good_of _ _ _ _ h1 (by omega) h3, rfl, Place.ext' ?_ ?_ ?_ ?_ ?_, rfl, rfl⟩ <;> simp only [pl] <;> omega
theorem sc_offset : Sc (sOffset s b) (rOffset q b) := by
  obtain ⟨h1, h2, h3⟩ := sc_bounds h
  obtain ⟨w0, w1⟩ := w
  have w1 : b < 256 := w1
  rw [h.eq]
  unfold rOffset
  rw [td_e 8 w0, tm_e 8 w0, w64 (by omega) (by omega)]
  cases hW : s.W
  · rw [if_neg (by show ¬ false = true; decide), offset1_eq s h.good b ⟨w0, w1⟩ hW]
    refine ⟨good_of _ _ _ _ h1 (by omega) (by omega), rfl, Place.ext' ?_ ?_ ?_ ?_ ?_, rfl, rfl⟩ <;> simp only [pl] <;> omega
  · rw [if_pos rfl, offset2_eq s h.good b ⟨w0, w1⟩ hW]
    have hp : Parts (s.T % 32) (b / 8) (s.T / 1024 % 2) (s.T / 2048 % 2) (b % 8) := by constructor <;> omega
    have e : s.T % 32 + b / 8 * 32 + s.T / 1024 % 4 * 1024 + b % 8 * 4096 = at_ (s.T % 32) (b / 8) (s.T / 1024 % 2) (s.T / 2048 % 2) (b % 8) := by unfold at_; omega
    rw [e]
    refine ⟨good_of _ _ _ _ h1 (at_b hp) h3, rfl, Place.ext' ?_ ?_ ?_ ?_ ?_, rfl, rfl⟩ <;> simp only [pl]
    · rw [at_c hp]
    · rw [at_l hp]
    · rw [at_a hp]
    · rw [at_d hp]
    · rw [at_r hp]; omega
theorem sc_address : Sc (sAddress s b) (rAddress q b) := by
  obtain ⟨h1, h2, h3⟩ := sc_bounds h
  obtain ⟨w0, w1⟩ := w
  have w1 : b < 256 := w1
  rw [h.eq]
  unfold rAddress
  simp only [rBits_pl s.T h2.1 h2.2]
  cases hW : s.W
  · rw [if_neg (by show ¬ false = true; decide), address1_eq s h.good b ⟨w0, w1⟩ hW, tm_e 256 h2.1, tm_e 64 w0, w64 (x := b % 64 * 256) (by omega) (by omega), w64 (by omega) (by omega), rOf_pl _ (by omega) (by omega)]
    exact sc_of h1 (by omega) h3
  · rw [if_pos rfl, address2_eq s h.good b ⟨w0, w1⟩ hW, td_e 256 h2.1, w64 (x := s.T / 256) (by omega) (by omega), w64 (x := s.T / 256 * 256) (by omega) (by omega), w64 (by omega) (by omega), rOf_pl _ (by omega) (by omega)]
    exact sc_of (by omega) (by omega) h3
end
theorem wrap_u16_pos (x : Int) : 0 ≤ u16.wrap x := by rw [IntKind.wrap_u16]; omega
theorem mirror_same {a : Int} (u : Bool) (h0 : 0 ≤ a) (h1 : a < 65536) : rMirror a u = mirror a u := by
  rw [rMirror_eq u h0 h1, mirror_eq a u h0 h1]
  cases u
  · show a % 1024 + 1024 * (a / 2048 % 2) = a % 1024 + a / 2048 % 2 * 1024; omega
  · rfl
theorem colour_same {a : Int} (h0 : 0 ≤ a) (h1 : a < 65536) : rColour a = colour a := by
  have h := (colours_plain a h0 h1).1
  have hc := colour_lt a
  rw [w64 (by omega) (by omega), w64 (by omega) (by omega)] at h
  exact h.symm
end Go.Proofs.Ytgnhhnmpeklciaa
namespace Go.Proofs.Ytgnhhnmpeklciaa
open Go VX IntWalk
open Go.IntKind (i64 u8 u16)
set_option maxRecDepth 100000
set_option linter.unusedSimpArgs false
set_option linter.unusedVariables false
set_option linter.unusedSectionVars false
structure Same (p : Pic) (r : RPic) (M N : Nat → Int) : Prop where
  ok : Pic.ok p
  low : ∀ j, j < 32 → p.colours j < 64
  tiles : ∀ j, j < 8192 → M j = p.tiles j
  names : ∀ j, j < 2048 → M (8192 + j) = p.names j
  colours : ∀ j, j < 32 → M (16128 + j) = p.colours j
  men : ∀ j, j < 256 → N j = p.men j
  man : r.At = p.man
  sc : Sc p.scroll r.S
  control : r.Control = p.control
  mask : r.Mask = p.mask
  flags : p.flags = (if r.Blank then 128 else 0) + (if r.Hit then 64 else 0) + (if r.Many then 32 else 0)
  waits : r.Waits = p.waits
  bus : r.Bus = p.bus
  upright : r.Upright = p.upright
theorem rw256 {x : Int} (w : rng 256 x) : i64.wrap x = x := w64 (by have := w.1; omega) (by have := w.2; have : x < 256 := this; omega)
theorem u8w {x : Int} (w : rng 256 x) : u8.wrap x = x := by rw [IntKind.wrap_u8]; have h1 := w.1; have h2 : x < 256 := w.2; omega
theorem mask_at {a : Int} (h0 : 0 ≤ a) (h1 : a < 65536) : bAnd .u16 a 16383 = a % 16384 := by
  have := and_u16_16383 h0 h1; omega
section
variable {p : Pic} {r : RPic} {M N : Nat → Int} (h : Same p r M N)
include h
theorem mem_same (a : Int) (h0 : 0 ≤ a) (h1 : a < 65536) (L : List Sprite) (S : Nat → Int) (C : List Man) : M (Int.toNat (rWhere r M N S C a)) = pPeek p L a := by
  rw [rWhere_eq _ _ _ _ _ _ h0]
  unfold pPeek
  rw [mask_at h0 h1]
  by_cases c1 : a % 16384 < 8192
  · rw [if_pos c1, if_pos (decide_eq_true c1)]
    exact h.tiles _ (by omega)
  · rw [if_neg c1, if_neg (show ¬ (decide (a % 16384 < 8192)) = true by simpa using c1)]
    by_cases c2 : a % 16384 < 16128
    · have hm := mirror_lt (a % 16384) p.upright
      rw [if_pos c2, if_pos (decide_eq_true c2), mirror_same _ (by omega) (by omega), h.upright]
      rw [show Int.toNat (8192 + mirror (a % 16384) p.upright) = 8192 + Int.toNat (mirror (a % 16384) p.upright) by omega]
      exact h.names _ (by omega)
    · have hm := colour_lt (a % 16384)
      rw [if_neg c2, if_neg (show ¬ (decide (a % 16384 < 16128)) = true by simpa using c2), colour_same (by omega) (by omega)]
      rw [show Int.toNat (16128 + colour (a % 16384)) = 16128 + Int.toNat (colour (a % 16384)) by omega]
      exact h.colours _ (by omega)
theorem peek_rng (a : Int) (L : List Sprite) : rng 256 (pPeek p L a) := by
  unfold pPeek
  split
  · exact h.ok.tiles _
  · split
    · exact h.ok.names _
    · exact h.ok.colours _
theorem peek_same (a : Int) (h0 : 0 ≤ a) (h1 : a < 65536) (L : List Sprite) (S : Nat → Int) (C : List Man) : rPeek r M N S C a = pPeek p L a := by
  unfold rPeek
  rw [mem_same h a h0 h1 L S C, rw256 (peek_rng h a L)]
theorem poke_same (a b : Int) (h0 : 0 ≤ a) (h1 : a < 65536) (wb : rng 256 b) (L : List Sprite) (S : Nat → Int) (C : List Man) : Same (pPoke p L a b) r (rPoke r M N S C a b) N := by
  have hok := pPoke_w p L a b h.ok ⟨h0, h1⟩ wb
  have b0 := wb.1
  have b1 : b < 256 := wb.2
  have e63 : bAnd .u8 b 63 = b % 64 := by have := and_u8_63 b0 b1; omega
  have eP : rPoke r M N S C a b = upd M (Int.toNat (rWhere r M N S C a)) (if a % 16384 ≥ 16128 then b % 64 else b) := by
    unfold rPoke
    rw [tm_e 16384 h0, tm_e 64 b0]
    by_cases c : a % 16384 ≥ 16128
    · rw [if_pos (decide_eq_true c), if_pos c, u8w ⟨by omega, by show b % 64 < 256; omega⟩]
    · rw [if_neg (by simpa using c), if_neg c, u8w wb]
  have hm := mirror_lt (a % 16384) p.upright
  have hc := colour_lt (a % 16384)
  have up : ∀ (f : Nat → Int) (i j : Nat) (x : Int), upd f i x j = if j = i then x else f j := by
    intro f i j x; unfold upd
    by_cases e : j = i
    · subst e; simp
    · rw [if_neg e]
      cases hq : Nat.beq j i
      · rfl
      · exact absurd (Nat.eq_of_beq_eq_true hq) e
  rw [eP]
  rw [rWhere_eq _ _ _ _ _ _ h0, mirror_same _ (by omega) (by omega), colour_same (by omega) (by omega), h.upright]
  unfold pPoke at hok ⊢
  rw [mask_at h0 h1, e63] at hok ⊢
  by_cases c1 : a % 16384 < 8192
  · rw [if_neg (show ¬ (decide (a % 16384 ≥ 16128)) = true by simp; omega), if_pos (decide_eq_true c1)] at hok ⊢
    rw [if_pos c1, if_neg (by omega)]
    exact ⟨hok, h.low, fun j hj => by rw [up]; show _ = upd _ _ _ j; rw [up, h.tiles j hj], fun j hj => by rw [up, if_neg (by omega)]; exact h.names j hj, fun j hj => by rw [up, if_neg (by omega)]; exact h.colours j hj, h.men, h.man, h.sc, h.control, h.mask, h.flags, h.waits, h.bus, h.upright⟩
  · by_cases c2 : a % 16384 < 16128
    · rw [if_neg (show ¬ (decide (a % 16384 ≥ 16128)) = true by simp; omega), if_neg (show ¬ (decide (a % 16384 < 8192)) = true by simpa using c1), if_pos (decide_eq_true c2)] at hok ⊢
      rw [if_neg c1, if_pos c2, if_neg (by omega), show Int.toNat (8192 + mirror (a % 16384) p.upright) = 8192 + Int.toNat (mirror (a % 16384) p.upright) by omega]
      exact ⟨hok, h.low, fun j hj => by rw [up, if_neg (by omega)]; exact h.tiles j hj, fun j hj => by rw [up]; show _ = upd _ _ _ j; rw [up, h.names j hj]; simp only [Nat.add_left_cancel_iff], fun j hj => by rw [up, if_neg (by omega)]; exact h.colours j hj, h.men, h.man, h.sc, h.control, h.mask, h.flags, h.waits, h.bus, h.upright⟩
    · rw [if_pos (show (decide (a % 16384 ≥ 16128)) = true by simp; omega), if_neg (show ¬ (decide (a % 16384 < 8192)) = true by simpa using c1), if_neg (show ¬ (decide (a % 16384 < 16128)) = true by simpa using c2)] at hok ⊢
      rw [if_neg c1, if_neg c2, if_pos (by omega), show Int.toNat (16128 + colour (a % 16384)) = 16128 + Int.toNat (colour (a % 16384)) by omega]
      exact ⟨hok, fun j hj => by show upd _ _ _ j < 64; rw [up]; split; omega; exact h.low j hj, fun j hj => by rw [up, if_neg (by omega)]; exact h.tiles j hj, fun j hj => by rw [up, if_neg (by omega)]; exact h.names j hj, fun j hj => by rw [up]; show _ = upd _ _ _ j; rw [up, h.colours j hj]; simp only [Nat.add_left_cancel_iff], h.men, h.man, h.sc, h.control, h.mask, h.flags, h.waits, h.bus, h.upright⟩
theorem bits_same : rBits r.S.V = p.scroll.V := by rw [h.sc.V]; exact rBits_pl _ h.sc.good.v0 h.sc.good.v1
theorem far_same : rBit r.Control 4 = ((bAnd .u8 p.control 4 : Int) != 0) := by
  have w0 := h.ok.control.1
  have w1 : p.control < 256 := h.ok.control.2
  have e : bAnd .u8 p.control 4 = p.control / 4 % 2 * 4 := by
    have := bAnd_field (k := .u8) rfl 2 1 (a := p.control) (m := 4) rfl w0 w1 (by decide); simpa using this
  unfold rBit
  rw [h.control, e, td_e 4 w0, w64 (by omega) (by omega), tm_e 2 (by omega)]
  rcases (show p.control / 4 % 2 = 0 ∨ p.control / 4 % 2 = 1 by omega) with c | c <;> rw [c] <;> rfl
theorem with_bus {b : Int} (wb : rng 256 b) : Same ({ p with bus := b } : Pic) ({ r with Bus := b } : RPic) M N :=
  ⟨⟨h.ok.tiles, h.ok.names, h.ok.colours, h.ok.men, h.ok.man, h.ok.scroll, h.ok.control, h.ok.mask, h.ok.flags, h.ok.waits, wb, h.ok.screen⟩, h.low, h.tiles, h.names, h.colours, h.men, h.man, h.sc, h.control, h.mask, h.flags, h.waits, rfl, h.upright⟩
theorem with_scroll {s : Scroll} {q : RScroll} (hs : Sc s q) : Same ({ p with scroll := s } : Pic) ({ r with S := q } : RPic) M N :=
  ⟨⟨h.ok.tiles, h.ok.names, h.ok.colours, h.ok.men, h.ok.man, ⟨⟨hs.good.v0, by show s.V < 65536; have := hs.good.v1; omega⟩, ⟨hs.good.t0, by show s.T < 65536; have := hs.good.t1; omega⟩, ⟨hs.good.x0, by show s.X < 256; have := hs.good.x1; omega⟩⟩, h.ok.control, h.ok.mask, h.ok.flags, h.ok.waits, h.ok.bus, h.ok.screen⟩, h.low, h.tiles, h.names, h.colours, h.men, h.man, hs, h.control, h.mask, h.flags, h.waits, h.bus, h.upright⟩
theorem put_same (reg b : Int) (wr : rng 256 reg) (wb : rng 256 b) (L : List Sprite) (S : Nat → Int) (C : List Man) : Same (pPut p L reg b) (rPut r M N S C reg b).1 (rPut r M N S C reg b).2.1 (rPut r M N S C reg b).2.2 := by
  have hb := with_bus h wb
  have w0 := wr.1
  unfold pPut rPut
  by_cases c0 : ((Int.tmod reg 8 : Int) == 0) = true
  · rw [if_pos c0, if_pos c0]
    have q := with_scroll hb (sc_control h.sc wb)
    exact ⟨⟨q.ok.tiles, q.ok.names, q.ok.colours, q.ok.men, q.ok.man, q.ok.scroll, wb, q.ok.mask, q.ok.flags, q.ok.waits, q.ok.bus, q.ok.screen⟩, q.low, q.tiles, q.names, q.colours, q.men, q.man, q.sc, rfl, q.mask, q.flags, q.waits, q.bus, q.upright⟩
  rw [if_neg c0, if_neg c0]
  by_cases c1 : ((Int.tmod reg 8 : Int) == 1) = true
  · rw [if_pos c1, if_pos c1]
    exact ⟨⟨hb.ok.tiles, hb.ok.names, hb.ok.colours, hb.ok.men, hb.ok.man, hb.ok.scroll, hb.ok.control, wb, hb.ok.flags, hb.ok.waits, hb.ok.bus, hb.ok.screen⟩, hb.low, hb.tiles, hb.names, hb.colours, hb.men, hb.man, hb.sc, hb.control, rfl, hb.flags, hb.waits, hb.bus, hb.upright⟩
  rw [if_neg c1, if_neg c1]
  by_cases c3 : ((Int.tmod reg 8 : Int) == 3) = true
  · rw [if_pos c3, if_pos c3]
    exact ⟨⟨hb.ok.tiles, hb.ok.names, hb.ok.colours, hb.ok.men, wb, hb.ok.scroll, hb.ok.control, hb.ok.mask, hb.ok.flags, hb.ok.waits, hb.ok.bus, hb.ok.screen⟩, hb.low, hb.tiles, hb.names, hb.colours, hb.men, rfl, hb.sc, hb.control, hb.mask, hb.flags, hb.waits, hb.bus, hb.upright⟩
  rw [if_neg c3, if_neg c3]
  by_cases c4 : ((Int.tmod reg 8 : Int) == 4) = true
  · rw [if_pos c4, if_pos c4]
    have m0 := h.ok.man.1
    have m1 : p.man < 256 := h.ok.man.2
    refine ⟨⟨hb.ok.tiles, hb.ok.names, hb.ok.colours, fun j => ?_, rng_wrap_u8 _, hb.ok.scroll, hb.ok.control, hb.ok.mask, hb.ok.flags, hb.ok.waits, hb.ok.bus, hb.ok.screen⟩, hb.low, hb.tiles, hb.names, hb.colours, fun j hj => ?_, ?_, hb.sc, hb.control, hb.mask, hb.flags, hb.waits, hb.bus, hb.upright⟩
    · show rng 256 (upd _ _ _ j); unfold upd; cases Nat.beq j _
      · exact h.ok.men j
      · exact wb
    · show upd N (Int.toNat r.At) (u8.wrap b) j = upd p.men (Int.toNat p.man) b j
      unfold upd; rw [h.man, u8w wb, h.men j hj]
    · show Int.tmod (i64.wrap (r.At + 1)) 256 = u8.wrap (p.man + 1)
      rw [h.man, w64 (by omega) (by omega), tm_e 256 (by omega), IntKind.wrap_u8]
  rw [if_neg c4, if_neg c4]
  by_cases c5 : ((Int.tmod reg 8 : Int) == 5) = true
  · rw [if_pos c5, if_pos c5]; exact with_scroll hb (sc_offset h.sc wb)
  rw [if_neg c5, if_neg c5]
  by_cases c6 : ((Int.tmod reg 8 : Int) == 6) = true
  · rw [if_pos c6, if_pos c6]; exact with_scroll hb (sc_address h.sc wb)
  rw [if_neg c6, if_neg c6]
  by_cases c7 : ((Int.tmod reg 8 : Int) == 7) = true
  · rw [if_pos c7, if_pos c7]
    have v0 := h.sc.good.v0
    have v1 := h.sc.good.v1
    have q := poke_same hb p.scroll.V b v0 (by omega) wb L S C
    rw [bits_same h]
    have e1 : (pPoke ({ p with bus := b } : Pic) L p.scroll.V b).scroll = p.scroll ∧ (pPoke ({ p with bus := b } : Pic) L p.scroll.V b).control = p.control := by
      unfold pPoke; repeat' split
      all_goals exact ⟨rfl, rfl⟩
    have hs := sc_step h.sc ((bAnd .u8 p.control 4 : Int) != 0)
    have e2 : rBit r.Control 4 = ((bAnd .u8 p.control 4 : Int) != 0) := far_same h
    have q2 := with_scroll q (s := sStep (pPoke ({ p with bus := b } : Pic) L p.scroll.V b).scroll (((bAnd .u8 ((pPoke ({ p with bus := b } : Pic) L p.scroll.V b).control) 4) : Int) != 0)) (q := rStep r.S (rBit r.Control 4)) (by rw [e1.1, e1.2, e2]; exact hs)
    exact q2
  · rw [if_neg c7, if_neg c7]; exact hb
end
end Go.Proofs.Ytgnhhnmpeklciaa
namespace Go.Proofs.Ytgnhhnmpeklciaa
open Go VX IntWalk
set_option maxRecDepth 100000
set_option linter.unusedSimpArgs false
set_option linter.unusedVariables false
set_option linter.unusedSectionVars false
def m227B (n : Nat) : Bool := bAnd .u8 (n : Int) 227 == (((n / 32 * 32 + n % 4 : Nat)) : Int)
theorem m227_all : allN m227B 8 0 = true := by kernel_rfl
theorem m227 {m : Int} (w : rng 256 m) : bAnd .u8 m 227 = m / 32 * 32 + m % 4 := by
  have h := allN_int m227_all m w.1 (by have := w.2; simpa using this)
  unfold m227B at h
  rw [Int.toNat_of_nonneg w.1] at h
  have := eq_of_beq h
  rw [this]; have := w.1; omega
theorem or_flags {f b : Int} (hf : f % 32 = 0) (h0 : 0 ≤ f) (h1 : f < 256) (w : rng 256 b) : bOr .u8 f (bAnd .u8 b 31) = f + b % 32 := by
  have b0 := w.1
  have b1 : b < 256 := w.2
  rw [and_u8_31 b0 b1]
  exact or_u8_lo5 h0 h1 (by omega) (by omega) hf
theorem or_pal {c b : Int} (h0 : 0 ≤ c) (h1 : c < 64) (w : rng 256 b) : bOr .u8 c (bAndNot .u8 b 63) = b / 64 * 64 + c := by
  have b0 := w.1
  have b1 : b < 256 := w.2
  rw [bAndNot_eq (k := .u8) rfl b0 b1 (by decide) (by decide), and_u8_63 b0 b1]
  rw [or_u8_hi6 h0 h1 (by omega) (by omega) (by omega)]; omega
section
variable {p : Pic} {r : RPic} {M N : Nat → Int} (h : Same p r M N)
include h
theorem pal_lt (a : Int) (h0 : 0 ≤ a) (h1 : a < 65536) (hc : a % 16384 ≥ 16128) (L : List Sprite) : pPeek p L a < 64 := by
  unfold pPeek
  rw [mask_at h0 h1, if_neg (by simp; omega), if_neg (by simp; omega)]
  have := colour_lt (a % 16384)
  exact h.low _ (by omega)
theorem with_waits {b : Int} (wb : rng 256 b) : Same ({ p with waits := b } : Pic) ({ r with Waits := b } : RPic) M N :=
  ⟨⟨h.ok.tiles, h.ok.names, h.ok.colours, h.ok.men, h.ok.man, h.ok.scroll, h.ok.control, h.ok.mask, h.ok.flags, wb, h.ok.bus, h.ok.screen⟩, h.low, h.tiles, h.names, h.colours, h.men, h.man, h.sc, h.control, h.mask, h.flags, rfl, h.bus, h.upright⟩
theorem get_same2 (L : List Sprite) (S : Nat → Int) (C : List Man) (reg : Int) (c2 : ((Int.tmod reg 8 : Int) == 2) = true) : (rGet r M N S C reg).2 = (pGet p L reg).2 ∧ Same (pGet p L reg).1 (rGet r M N S C reg).1 M N := by
  have wb := h.ok.bus
  have b0 := wb.1
  have b1 : p.bus < 256 := wb.2
  have hf := h.flags
  have base : ∀ (f v : Int), rng 256 v → rng 256 f → f = (if false = true then 128 else 0) + (if r.Hit = true then 64 else 0) + (if r.Many = true then 32 else 0) →
      Same ({ p with scroll := (sLook p.scroll), flags := f, bus := v } : Pic) ({ r with S := ({ r.S with W := false } : RScroll), Blank := false, Bus := v } : RPic) M N := by
    intro f v wv wf hf'
    have q := with_bus (with_scroll h (sc_look h.sc)) wv
    exact ⟨⟨q.ok.tiles, q.ok.names, q.ok.colours, q.ok.men, q.ok.man, q.ok.scroll, q.ok.control, q.ok.mask, wf, q.ok.waits, q.ok.bus, q.ok.screen⟩, q.low, q.tiles, q.names, q.colours, q.men, q.man, q.sc, q.control, q.mask, hf', q.waits, q.bus, q.upright⟩
  have key : ∀ (B H K : Bool) (F : Int), r.Blank = B → r.Hit = H → r.Many = K → F = (if B then 128 else 0) + (if H then 64 else 0) + (if K then 32 else 0) → p.flags = F ∧ bOr .u8 F (bAnd .u8 p.bus 31) = F + p.bus % 32 ∧ bAndNot .u8 F 128 = (if false = true then 128 else 0) + (if H then 64 else 0) + (if K then 32 else 0) ∧ rng 256 (F + p.bus % 32) := by
    intro B H K F hB hH hK hF
    have e : p.flags = F := by rw [hf, hB, hH, hK, hF]
    refine ⟨e, or_flags ?_ ?_ ?_ wb, ?_, ?_⟩
    · subst hF; cases B <;> cases H <;> cases K <;> decide
    · subst hF; cases B <;> cases H <;> cases K <;> decide
    · subst hF; cases B <;> cases H <;> cases K <;> decide
    · subst hF; cases B <;> cases H <;> cases K <;> decide +kernel
    · subst hF
      refine ⟨?_, ?_⟩
      · cases B <;> cases H <;> cases K <;> simp <;> omega
      · show _ < (256 : Int)
        cases B <;> cases H <;> cases K <;> simp <;> omega
  have rb : Int.tmod r.Bus 32 = p.bus % 32 := by rw [h.bus, tm_e 32 b0]
  unfold pGet rGet
  rw [if_pos c2, if_pos c2]
  cases hB : r.Blank <;> cases hH : r.Hit <;> cases hK : r.Many
  all_goals
    obtain ⟨k1, k2, k3, k4⟩ := key _ _ _ _ hB hH hK rfl
    rw [hH, hK] at base
    simp only [Bool.false_eq_true, if_false, if_true] at k1 k2 k3 k4 base ⊢
    rw [rb, k1, k2, k3]
  · rw [show (0 : Int) + 0 + 0 + p.bus % 32 = p.bus % 32 by omega] at k4 ⊢
    exact ⟨rfl, base _ _ k4 (by decide) rfl⟩
  · rw [w64 (x := p.bus % 32 + 32) (by omega) (by omega), show (0 : Int) + 0 + 32 + p.bus % 32 = p.bus % 32 + 32 by omega] at *
    exact ⟨rfl, base _ _ k4 (by decide) rfl⟩
  · rw [w64 (x := p.bus % 32 + 64) (by omega) (by omega), show (0 : Int) + 64 + 0 + p.bus % 32 = p.bus % 32 + 64 by omega] at *
    exact ⟨rfl, base _ _ k4 (by decide) rfl⟩
  · rw [w64 (x := p.bus % 32 + 64) (by omega) (by omega), w64 (x := p.bus % 32 + 64 + 32) (by omega) (by omega), show (0 : Int) + 64 + 32 + p.bus % 32 = p.bus % 32 + 64 + 32 by omega] at *
    exact ⟨rfl, base _ _ k4 (by decide) rfl⟩
  · rw [w64 (x := p.bus % 32 + 128) (by omega) (by omega), show (128 : Int) + 0 + 0 + p.bus % 32 = p.bus % 32 + 128 by omega] at *
    exact ⟨rfl, base _ _ k4 (by decide) rfl⟩
  · rw [w64 (x := p.bus % 32 + 128) (by omega) (by omega), w64 (x := p.bus % 32 + 128 + 32) (by omega) (by omega), show (128 : Int) + 0 + 32 + p.bus % 32 = p.bus % 32 + 128 + 32 by omega] at *
    exact ⟨rfl, base _ _ k4 (by decide) rfl⟩
  · rw [w64 (x := p.bus % 32 + 128) (by omega) (by omega), w64 (x := p.bus % 32 + 128 + 64) (by omega) (by omega), show (128 : Int) + 64 + 0 + p.bus % 32 = p.bus % 32 + 128 + 64 by omega] at *
    exact ⟨rfl, base _ _ k4 (by decide) rfl⟩
  · rw [w64 (x := p.bus % 32 + 128) (by omega) (by omega), w64 (x := p.bus % 32 + 128 + 64) (by omega) (by omega), w64 (x := p.bus % 32 + 128 + 64 + 32) (by omega) (by omega), show (128 : Int) + 64 + 32 + p.bus % 32 = p.bus % 32 + 128 + 64 + 32 by omega] at *
    exact ⟨rfl, base _ _ k4 (by decide) rfl⟩
theorem get_same (reg : Int) (L : List Sprite) (S : Nat → Int) (C : List Man) : (rGet r M N S C reg).2 = (pGet p L reg).2 ∧ Same (pGet p L reg).1 (rGet r M N S C reg).1 M N := by
  by_cases c2 : ((Int.tmod reg 8 : Int) == 2) = true
  · exact get_same2 h L S C reg c2
  by_cases c4 : ((Int.tmod reg 8 : Int) == 4) = true
  · unfold pGet rGet
    rw [if_neg c2, if_neg c2, if_pos c4, if_pos c4]
    have m0 := h.ok.man.1
    have m1 : p.man < 256 := h.ok.man.2
    have wm := h.ok.men (Int.toNat p.man)
    have w0 := wm.1
    have w1 : p.men (Int.toNat p.man) < 256 := wm.2
    have e : N (Int.toNat r.At) = p.men (Int.toNat p.man) := by rw [h.man]; exact h.men _ (by omega)
    rw [e, rw256 wm, show Int.tmod r.At 4 = Int.tmod p.man 4 by rw [h.man]]
    by_cases c : ((Int.tmod p.man 4 : Int) == 2) = true
    · rw [if_pos c, if_pos c, m227 wm, td_e 32 w0, tm_e 4 w0, w64 (x := _ / 32) (by omega) (by omega), w64 (x := _ / 32 * 32) (by omega) (by omega), w64 (by omega) (by omega)]
      exact ⟨rfl, with_bus h ⟨by omega, by show _ < (256 : Int); omega⟩⟩
    · rw [if_neg c, if_neg c]
      exact ⟨rfl, with_bus h wm⟩
  by_cases c7 : ((Int.tmod reg 8 : Int) == 7) = true
  · have v0 := h.sc.good.v0
    have v1 := h.sc.good.v1
    have hs := sc_step h.sc ((bAnd .u8 p.control 4 : Int) != 0)
    have b0 := h.ok.bus.1
    have b1 : p.bus < 256 := h.ok.bus.2
    unfold pGet rGet
    rw [if_neg c2, if_neg c2, if_neg c4, if_neg c4, if_pos c7, if_pos c7]
    rw [bits_same h, far_same h, tm_e 16384 v0]
    have pk : rPeek r M N S C (p.scroll.V % 16384) = pPeek p L p.scroll.V := by
      rw [peek_same h _ (by omega) (by omega) L]
      unfold pPeek
      rw [mask_at (a := p.scroll.V % 16384) (by omega) (by omega), mask_at v0 (by omega), show p.scroll.V % 16384 % 16384 = p.scroll.V % 16384 by omega]
    unfold pRead
    rw [mask_at v0 (by omega)]
    by_cases c : p.scroll.V % 16384 < 16128
    · rw [if_pos (decide_eq_true c), if_neg (show ¬ (decide (p.scroll.V % 16384 ≥ 16128)) = true by simp; omega), pk, h.waits]
      have q := with_bus (with_waits (with_scroll h hs) (peek_rng h p.scroll.V L)) h.ok.waits
      exact ⟨rfl, q⟩
    · rw [if_neg (show ¬ (decide (p.scroll.V % 16384 < 16128)) = true by simpa using c), if_pos (show (decide (p.scroll.V % 16384 ≥ 16128)) = true by simp; omega), pk]
      have hp := pal_lt h p.scroll.V v0 (by omega) (by omega) L
      have hp0 := (peek_rng h p.scroll.V L).1
      rw [or_pal hp0 hp h.ok.bus, h.bus, td_e 64 b0, w64 (x := p.bus / 64) (by omega) (by omega), w64 (x := p.bus / 64 * 64) (by omega) (by omega), w64 (x := p.bus / 64 * 64 + _) (by omega) (by omega), w64 (x := _ - 4096) (by omega) (by omega)]
      have pk2 : rPeek r M N S C (p.scroll.V % 16384 - 4096) = p.names (Int.toNat (mirror p.scroll.V p.upright)) := by
        rw [peek_same h _ (by omega) (by omega) L]
        unfold pPeek
        rw [mask_at (a := p.scroll.V % 16384 - 4096) (by omega) (by omega), if_neg (by simp; omega), if_pos (by simp; omega)]
        congr 2
        rw [mirror_eq _ _ (by omega) (by omega), mirror_eq _ _ v0 (by omega)]
        cases p.upright
        · simp only [cond_false]; omega
        · simp only [cond_true]; omega
      rw [pk2]
      have q := with_bus (with_waits (with_scroll h hs) (h.ok.names (Int.toNat (mirror p.scroll.V p.upright)))) (b := p.bus / 64 * 64 + pPeek p L p.scroll.V) ⟨by omega, by show _ < (256 : Int); omega⟩
      exact ⟨rfl, q⟩
  · unfold pGet rGet
    rw [if_neg c2, if_neg c2, if_neg c4, if_neg c4, if_neg c7, if_neg c7]
    exact ⟨h.bus, h⟩
end
end Go.Proofs.Ytgnhhnmpeklciaa
namespace Go.Proofs.Ytgnhhnmpeklciaa
open Go VX IntWalk
open Go.IntKind (i64 u8 u16)
set_option linter.unusedVariables false
set_option linter.unusedSimpArgs false
set_option linter.unusedSectionVars false
set_option maxRecDepth 100000
theorem start_same : Same picZero rZero (fun _ => 0) (fun _ => 0) :=
  ⟨zero_ok, fun _ _ => by show (0 : Int) < 64; decide, fun _ _ => rfl, fun _ _ => rfl, fun _ _ => rfl, fun _ _ => rfl, rfl,
    ⟨good_of 0 0 0 false ⟨by decide, by decide⟩ ⟨by decide, by decide⟩ ⟨by decide, by decide⟩, rfl, rfl, rfl, rfl⟩, rfl, rfl, rfl, rfl, rfl, rfl⟩
section
variable {p : Pic} {r : RPic} {M N : Nat → Int} (h : Same p r M N)
include h
theorem same_A : 0 ≤ r.At ∧ r.At < ((256 : Nat) : Int) := by rw [h.man]; exact h.ok.man
theorem same_B : 0 ≤ rBits r.S.V := by rw [bits_same h]; exact h.sc.good.v0
theorem both_same (S : Nat → Int) (reg b : Int) (wr : rng 256 reg) (wb : rng 256 b) (L : List Sprite) (C : List Man) : Same (both p r M N S reg b L C).1 (both p r M N S reg b L C).2.1 (both p r M N S reg b L C).2.2.1 (both p r M N S reg b L C).2.2.2 := by
  have q := put_same h reg b wr wb L S C
  have e : both p r M N S reg b L C = (pPut p L reg b, (rPut r M N S C reg b).1, (rPut r M N S C reg b).2.1, (rPut r M N S C reg b).2.2) := by
    unfold both; rw [rw256 wr, rw256 wb]
  rw [e]; exact q
end
section
variable {a : Int} {K d : Nat} {bytes : Nat → Int} {far : Bool} (wB : ∀ j, rng 256 (bytes j))
include wB
theorem cut_rng (x : Nat) : rng 256 (List.getD (cutF K d bytes 20) x 0) := by
  unfold cutF
  rw [List.getD_eq_getElem?_getD, List.getElem?_map]
  cases (List.range (min K (20 : Int).toNat))[x]? with
  | none => exact rng0
  | some j => exact wB j
theorem reads_put {rel : Int × Pic × (Nat → Int) × (Nat → Int) × RPic → (Int × Pic × (Nat → Int) × (Nat → Int) × RPic) ⊕ (Int × Pic × (Nat → Int) × (Nat → Int) × RPic) → Prop} {T : Nat} (hT : T ≤ 100)
    (st : ∀ (i : Nat) (p : Pic) (M N : Nat → Int) (r : RPic), i < T → Pic.ok p → (0 ≤ r.At ∧ r.At < ((256 : Nat) : Int)) → 0 ≤ rBits r.S.V →
      rel ((i : Int), p, M, N, r) (.inl (((i + 1 : Nat) : Int), (both p r M N (fun _ => 0) 7 (List.getD (cutF K d bytes 20) i 0) [] []).1, (both p r M N (fun _ => 0) 7 (List.getD (cutF K d bytes 20) i 0) [] []).2.2.1, (both p r M N (fun _ => 0) 7 (List.getD (cutF K d bytes 20) i 0) [] []).2.2.2, (both p r M N (fun _ => 0) 7 (List.getD (cutF K d bytes 20) i 0) [] []).2.1)))
    (la : ∀ (p : Pic) (M N : Nat → Int) (r : RPic), rel ((T : Int), p, M, N, r) (.inr ((T : Int), p, M, N, r))) : ∀ (n i : Nat) (p : Pic) (M N : Nat → Int) (r : RPic), i + n = T → Same p r M N →
    ∃ p' M' N' r', LoopR rel ((i : Int), p, M, N, r) ((T : Int), p', M', N', r') ∧ Same p' r' M' N'
  | 0, i, p, M, N, r, hi, h => by
    have : i = T := by omega
    subst this
    exact ⟨p, M, N, r, .last (la p M N r), h⟩
  | n + 1, i, p, M, N, r, hi, h => by
    obtain ⟨p', M', N', r', t, q⟩ := reads_put hT st la n (i + 1) _ _ _ _ (by omega) (both_same h (fun _ => 0) 7 _ (by decide) (cut_rng wB (K := K) (d := d) i) [] [])
    exact ⟨p', M', N', r', .more (st i p M N r (by omega) h.ok (same_A h) (same_B h)) t, q⟩
end
theorem reads_get {rel : Int × Bool × Pic × (Nat → Int) × (Nat → Int) × RPic → (Int × Bool × Pic × (Nat → Int) × (Nat → Int) × RPic) ⊕ ((Int × Bool × Pic × (Nat → Int) × (Nat → Int) × RPic) ⊕ (Int × Bool × Pic × (Nat → Int) × (Nat → Int) × RPic)) → Prop} {T : Nat} {bb : Bool} {M N : Nat → Int} (hT : T ≤ 200)
    (st : ∀ (i : Nat) (p : Pic) (r : RPic), i < T → Pic.ok p → (0 ≤ r.At ∧ r.At < ((256 : Nat) : Int)) → 0 ≤ rBits r.S.V → (((i64.wrap ((pGet p [] 7).2)) : Int) != (rGet r M N (fun _ => 0) [] 7).2) = false →
      rel ((i : Int), bb, p, M, N, r) (.inl (((i + 1 : Nat) : Int), bb, (pGet p [] 7).1, M, N, (rGet r M N (fun _ => 0) [] 7).1)))
    (la : ∀ (p : Pic) (r : RPic), rel ((T : Int), bb, p, M, N, r) (.inr (.inl ((T : Int), bb, p, M, N, r)))) : ∀ (n i : Nat) (p : Pic) (r : RPic), i + n = T → Same p r M N →
    ∃ p' r', LoopR rel ((i : Int), bb, p, M, N, r) (.inl ((T : Int), bb, p', M, N, r')) ∧ Same p' r' M N
  | 0, i, p, r, hi, h => by
    have : i = T := by omega
    subst this
    exact ⟨p, r, .last (la p r), h⟩
  | n + 1, i, p, r, hi, h => by
    obtain ⟨g1, g2⟩ := get_same h 7 [] (fun _ => 0) []
    have wv : rng 256 (pGet p [] 7).2 := pGet_w2 p [] 7 h.ok (by decide)
    obtain ⟨p', r', t, q⟩ := reads_get hT st la n (i + 1) _ _ (by omega) g2
    exact ⟨p', r', .more (st i p r (by omega) h.ok (same_A h) (same_B h) (by rw [rw256 wv, g1]; simp)) t, q⟩
theorem reads_peek {rel : Int × Bool → (Int × Bool) ⊕ ((Int × Bool) ⊕ (Int × Bool)) → Prop} {p : Pic} {r : RPic} {M N : Nat → Int} {bb : Bool} (h : Same p r M N)
    (s1 : ∀ i : Nat, i < 16384 → (((Int.tmod (i : Int) 7) : Int) == 0) = true → (((i64.wrap (pPeek p [] (u16.wrap (i : Int)))) : Int) != (rPeek r M N (fun _ => 0) [] (i : Int))) = false → rel ((i : Int), bb) (.inl (((i + 1 : Nat) : Int), bb)))
    (s2 : ∀ i : Nat, i < 16384 → (((Int.tmod (i : Int) 7) : Int) == 0) = false → rel ((i : Int), bb) (.inl (((i + 1 : Nat) : Int), bb)))
    (la : rel (16384, bb) (.inr (.inl (16384, bb)))) : ∀ (n i : Nat), i + n = 16384 → LoopR rel ((i : Int), bb) (.inl (16384, bb))
  | 0, i, hi => by
    have : i = 16384 := by omega
    subst this
    exact .last la
  | n + 1, i, hi => by
    refine .more ?_ (reads_peek h s1 s2 la n (i + 1) (by omega))
    cases c : (((Int.tmod (i : Int) 7) : Int) == 0)
    · exact s2 i (by omega) c
    · refine s1 i (by omega) c ?_
      rw [show u16.wrap (i : Int) = (i : Int) by rw [IntKind.wrap_u16]; omega, peek_same h (i : Int) (by omega) (by omega) [], rw256 (peek_rng h _ [])]; simp
theorem reads_true (a : Int) (K d : Nat) (bytes : Nat → Int) (far : Bool) (wa : rng 65536 a) (wB : ∀ j, rng 256 (bytes j)) (hK : (K : Int) ≤ 9223372036854775807) :
    FnSpec Try.prog 3 1001 [.int .u16 a, .slice (some ⟨1000, 0, (some d)⟩) K 0, .bool far] [(1000, ⟨[.gap d, .ints .u8 K bytes], 5, true⟩)] (.bool true) [] := by
  have hT := cut_len K d bytes 20 (by decide)
  have hT100 : List.length (cutF K d bytes 20) ≤ 100 := by omega
  have w1 : ∀ i : Nat, i < 20000 → i64.wrap ((i : Int) + 1) = ((i + 1 : Nat) : Int) := fun i hi => by rw [w64 (by omega) (by omega)]; omega
  have wT : i64.wrap (((List.length (cutF K d bytes 20) : Nat) : Int) + 2) = ((List.length (cutF K d bytes 20) + 2 : Nat) : Int) := by rw [w64 (by omega) (by omega)]; omega
  have wh : rng 256 (u8.wrap (bShr .u16 a 8)) := rng_wrap_u8 _
  have wl : rng 256 (u8.wrap a) := rng_wrap_u8 _
  rcases bt far with hfar | hfar
  · -- far = true
    have c1 : far = true := hfar
    have q0 := both_same start_same (fun _ => 0) 0 4 (by decide) (by decide) [] []
    have q1 := both_same q0 (fun _ => 0) 6 _ (by decide) wh [] []
    have q2 := both_same q1 (fun _ => 0) 6 _ (by decide) wl [] []
    obtain ⟨p1, M1, N1, r1, l1, s1⟩ := reads_put (d := d) wB (rel := lawReads_L1y a K d bytes far) hT100
      (fun i p M N r hi h1 h2 h3 => by
        have st := lawReads_L1y.p1 (a := a) (N_bytes := K) (d_bytes := d) (bytes := bytes) (far := far) (xd := ((i : Int), p, M, N, r)) (decide_eq_true (by show (i : Int) < _; omega)) (by show 0 ≤ (i : Int); omega) h1 h2 h3
        simp only [w1 i (by omega), Int.toNat_natCast] at st
        exact st)
      (fun p M N r => .p2 (decide_eq_false (by show ¬ (((List.length (cutF K d bytes 20) : Nat) : Int) < _); omega))) (List.length (cutF K d bytes 20)) 0 _ _ _ _ (by omega) q2
    have q3 := both_same s1 (fun _ => 0) 6 _ (by decide) wh [] []
    have q4 := both_same q3 (fun _ => 0) 6 _ (by decide) wl [] []
    obtain ⟨p2, r2, l2, s2⟩ := reads_get (rel := lawReads_L2y a K d bytes far (((List.length (cutF K d bytes 20) : Nat) : Int), p1, M1, N1, r1)) (T := List.length (cutF K d bytes 20) + 2) (bb := false) (by omega)
      (fun i p r hi h1 h2 h3 h4 => by
        have st := lawReads_L2y.p2 (a := a) (N_bytes := K) (d_bytes := d) (bytes := bytes) (far := far) (r1 := (((List.length (cutF K d bytes 20) : Nat) : Int), p1, M1, N1, r1)) (xd := ((i : Int), false, p, (both (both p1 r1 M1 N1 (fun _ => 0) 6 (u8.wrap (bShr .u16 a 8)) [] []).1 (both p1 r1 M1 N1 (fun _ => 0) 6 (u8.wrap (bShr .u16 a 8)) [] []).2.1 (both p1 r1 M1 N1 (fun _ => 0) 6 (u8.wrap (bShr .u16 a 8)) [] []).2.2.1 (both p1 r1 M1 N1 (fun _ => 0) 6 (u8.wrap (bShr .u16 a 8)) [] []).2.2.2 (fun _ => 0) 6 (u8.wrap a) [] []).2.2.1, (both (both p1 r1 M1 N1 (fun _ => 0) 6 (u8.wrap (bShr .u16 a 8)) [] []).1 (both p1 r1 M1 N1 (fun _ => 0) 6 (u8.wrap (bShr .u16 a 8)) [] []).2.1 (both p1 r1 M1 N1 (fun _ => 0) 6 (u8.wrap (bShr .u16 a 8)) [] []).2.2.1 (both p1 r1 M1 N1 (fun _ => 0) 6 (u8.wrap (bShr .u16 a 8)) [] []).2.2.2 (fun _ => 0) 6 (u8.wrap a) [] []).2.2.2, r)) (by rw [wT]; exact decide_eq_true (by show (i : Int) < _; omega)) h1 h2 h3 h4
        simp only [w1 i (by omega)] at st
        exact st)
      (fun p r => .p3 (by rw [wT]; exact decide_eq_false (by show ¬ (((List.length (cutF K d bytes 20) + 2 : Nat) : Int) < _); omega))) (List.length (cutF K d bytes 20) + 2) 0 _ _ (by omega) q4
    have l3 := reads_peek (rel := lawReads_L3yy a K d bytes far (((List.length (cutF K d bytes 20) : Nat) : Int), p1, M1, N1, r1) (((List.length (cutF K d bytes 20) + 2 : Nat) : Int), false, p2, (both (both p1 r1 M1 N1 (fun _ => 0) 6 (u8.wrap (bShr .u16 a 8)) [] []).1 (both p1 r1 M1 N1 (fun _ => 0) 6 (u8.wrap (bShr .u16 a 8)) [] []).2.1 (both p1 r1 M1 N1 (fun _ => 0) 6 (u8.wrap (bShr .u16 a 8)) [] []).2.2.1 (both p1 r1 M1 N1 (fun _ => 0) 6 (u8.wrap (bShr .u16 a 8)) [] []).2.2.2 (fun _ => 0) 6 (u8.wrap a) [] []).2.2.1, (both (both p1 r1 M1 N1 (fun _ => 0) 6 (u8.wrap (bShr .u16 a 8)) [] []).1 (both p1 r1 M1 N1 (fun _ => 0) 6 (u8.wrap (bShr .u16 a 8)) [] []).2.1 (both p1 r1 M1 N1 (fun _ => 0) 6 (u8.wrap (bShr .u16 a 8)) [] []).2.2.1 (both p1 r1 M1 N1 (fun _ => 0) 6 (u8.wrap (bShr .u16 a 8)) [] []).2.2.2 (fun _ => 0) 6 (u8.wrap a) [] []).2.2.2, r2)) (bb := false) s2
      (fun i hi h1 h2 => by
        have st := lawReads_L3yy.p2 (a := a) (N_bytes := K) (d_bytes := d) (bytes := bytes) (far := far) (r1 := (((List.length (cutF K d bytes 20) : Nat) : Int), p1, M1, N1, r1)) (r2 := (((List.length (cutF K d bytes 20) + 2 : Nat) : Int), false, p2, (both (both p1 r1 M1 N1 (fun _ => 0) 6 (u8.wrap (bShr .u16 a 8)) [] []).1 (both p1 r1 M1 N1 (fun _ => 0) 6 (u8.wrap (bShr .u16 a 8)) [] []).2.1 (both p1 r1 M1 N1 (fun _ => 0) 6 (u8.wrap (bShr .u16 a 8)) [] []).2.2.1 (both p1 r1 M1 N1 (fun _ => 0) 6 (u8.wrap (bShr .u16 a 8)) [] []).2.2.2 (fun _ => 0) 6 (u8.wrap a) [] []).2.2.1, (both (both p1 r1 M1 N1 (fun _ => 0) 6 (u8.wrap (bShr .u16 a 8)) [] []).1 (both p1 r1 M1 N1 (fun _ => 0) 6 (u8.wrap (bShr .u16 a 8)) [] []).2.1 (both p1 r1 M1 N1 (fun _ => 0) 6 (u8.wrap (bShr .u16 a 8)) [] []).2.2.1 (both p1 r1 M1 N1 (fun _ => 0) 6 (u8.wrap (bShr .u16 a 8)) [] []).2.2.2 (fun _ => 0) 6 (u8.wrap a) [] []).2.2.2, r2)) (xd := ((i : Int), false)) (decide_eq_true (by show (i : Int) < 16384; omega)) h1 (by show 0 ≤ (i : Int); omega) h2
        simp only [w1 i (by omega)] at st
        exact st)
      (fun i hi h1 => by
        have st := lawReads_L3yy.p3 (a := a) (N_bytes := K) (d_bytes := d) (bytes := bytes) (far := far) (r1 := (((List.length (cutF K d bytes 20) : Nat) : Int), p1, M1, N1, r1)) (r2 := (((List.length (cutF K d bytes 20) + 2 : Nat) : Int), false, p2, (both (both p1 r1 M1 N1 (fun _ => 0) 6 (u8.wrap (bShr .u16 a 8)) [] []).1 (both p1 r1 M1 N1 (fun _ => 0) 6 (u8.wrap (bShr .u16 a 8)) [] []).2.1 (both p1 r1 M1 N1 (fun _ => 0) 6 (u8.wrap (bShr .u16 a 8)) [] []).2.2.1 (both p1 r1 M1 N1 (fun _ => 0) 6 (u8.wrap (bShr .u16 a 8)) [] []).2.2.2 (fun _ => 0) 6 (u8.wrap a) [] []).2.2.1, (both (both p1 r1 M1 N1 (fun _ => 0) 6 (u8.wrap (bShr .u16 a 8)) [] []).1 (both p1 r1 M1 N1 (fun _ => 0) 6 (u8.wrap (bShr .u16 a 8)) [] []).2.1 (both p1 r1 M1 N1 (fun _ => 0) 6 (u8.wrap (bShr .u16 a 8)) [] []).2.2.1 (both p1 r1 M1 N1 (fun _ => 0) 6 (u8.wrap (bShr .u16 a 8)) [] []).2.2.2 (fun _ => 0) 6 (u8.wrap a) [] []).2.2.2, r2)) (xd := ((i : Int), false)) (decide_eq_true (by show (i : Int) < 16384; omega)) h1
        simp only [w1 i (by omega)] at st
        exact st)
      (.p4 (decide_eq_false (by show ¬ ((16384 : Int) < 16384); omega))) 16384 0 (by omega)
    exact lawReads_p1 a K d bytes far hK c1 zero_ok (same_A start_same) (same_B start_same) q0.ok (same_A q0) (same_B q0) q1.ok (same_A q1) (same_B q1) _ l1 s1.ok (same_A s1) (same_B s1) q3.ok (same_A q3) (same_B q3) _ l2 _ l3
  · -- far = false
    have c1 : far = false := hfar
    have q1 := both_same start_same (fun _ => 0) 6 _ (by decide) wh [] []
    have q2 := both_same q1 (fun _ => 0) 6 _ (by decide) wl [] []
    obtain ⟨p1, M1, N1, r1, l1, s1⟩ := reads_put (d := d) wB (rel := lawReads_L1n a K d bytes far) hT100
      (fun i p M N r hi h1 h2 h3 => by
        have st := lawReads_L1n.p1 (a := a) (N_bytes := K) (d_bytes := d) (bytes := bytes) (far := far) (xd := ((i : Int), p, M, N, r)) (decide_eq_true (by show (i : Int) < _; omega)) (by show 0 ≤ (i : Int); omega) h1 h2 h3
        simp only [w1 i (by omega), Int.toNat_natCast] at st
        exact st)
      (fun p M N r => .p2 (decide_eq_false (by show ¬ (((List.length (cutF K d bytes 20) : Nat) : Int) < _); omega))) (List.length (cutF K d bytes 20)) 0 _ _ _ _ (by omega) q2
    have q3 := both_same s1 (fun _ => 0) 6 _ (by decide) wh [] []
    have q4 := both_same q3 (fun _ => 0) 6 _ (by decide) wl [] []
    obtain ⟨p2, r2, l2, s2⟩ := reads_get (rel := lawReads_L2n a K d bytes far (((List.length (cutF K d bytes 20) : Nat) : Int), p1, M1, N1, r1)) (T := List.length (cutF K d bytes 20) + 2) (bb := false) (by omega)
      (fun i p r hi h1 h2 h3 h4 => by
        have st := lawReads_L2n.p2 (a := a) (N_bytes := K) (d_bytes := d) (bytes := bytes) (far := far) (r1 := (((List.length (cutF K d bytes 20) : Nat) : Int), p1, M1, N1, r1)) (xd := ((i : Int), false, p, (both (both p1 r1 M1 N1 (fun _ => 0) 6 (u8.wrap (bShr .u16 a 8)) [] []).1 (both p1 r1 M1 N1 (fun _ => 0) 6 (u8.wrap (bShr .u16 a 8)) [] []).2.1 (both p1 r1 M1 N1 (fun _ => 0) 6 (u8.wrap (bShr .u16 a 8)) [] []).2.2.1 (both p1 r1 M1 N1 (fun _ => 0) 6 (u8.wrap (bShr .u16 a 8)) [] []).2.2.2 (fun _ => 0) 6 (u8.wrap a) [] []).2.2.1, (both (both p1 r1 M1 N1 (fun _ => 0) 6 (u8.wrap (bShr .u16 a 8)) [] []).1 (both p1 r1 M1 N1 (fun _ => 0) 6 (u8.wrap (bShr .u16 a 8)) [] []).2.1 (both p1 r1 M1 N1 (fun _ => 0) 6 (u8.wrap (bShr .u16 a 8)) [] []).2.2.1 (both p1 r1 M1 N1 (fun _ => 0) 6 (u8.wrap (bShr .u16 a 8)) [] []).2.2.2 (fun _ => 0) 6 (u8.wrap a) [] []).2.2.2, r)) (by rw [wT]; exact decide_eq_true (by show (i : Int) < _; omega)) h1 h2 h3 h4
        simp only [w1 i (by omega)] at st
        exact st)
      (fun p r => .p3 (by rw [wT]; exact decide_eq_false (by show ¬ (((List.length (cutF K d bytes 20) + 2 : Nat) : Int) < _); omega))) (List.length (cutF K d bytes 20) + 2) 0 _ _ (by omega) q4
    have l3 := reads_peek (rel := lawReads_L3ny a K d bytes far (((List.length (cutF K d bytes 20) : Nat) : Int), p1, M1, N1, r1) (((List.length (cutF K d bytes 20) + 2 : Nat) : Int), false, p2, (both (both p1 r1 M1 N1 (fun _ => 0) 6 (u8.wrap (bShr .u16 a 8)) [] []).1 (both p1 r1 M1 N1 (fun _ => 0) 6 (u8.wrap (bShr .u16 a 8)) [] []).2.1 (both p1 r1 M1 N1 (fun _ => 0) 6 (u8.wrap (bShr .u16 a 8)) [] []).2.2.1 (both p1 r1 M1 N1 (fun _ => 0) 6 (u8.wrap (bShr .u16 a 8)) [] []).2.2.2 (fun _ => 0) 6 (u8.wrap a) [] []).2.2.1, (both (both p1 r1 M1 N1 (fun _ => 0) 6 (u8.wrap (bShr .u16 a 8)) [] []).1 (both p1 r1 M1 N1 (fun _ => 0) 6 (u8.wrap (bShr .u16 a 8)) [] []).2.1 (both p1 r1 M1 N1 (fun _ => 0) 6 (u8.wrap (bShr .u16 a 8)) [] []).2.2.1 (both p1 r1 M1 N1 (fun _ => 0) 6 (u8.wrap (bShr .u16 a 8)) [] []).2.2.2 (fun _ => 0) 6 (u8.wrap a) [] []).2.2.2, r2)) (bb := false) s2
      (fun i hi h1 h2 => by
        have st := lawReads_L3ny.p2 (a := a) (N_bytes := K) (d_bytes := d) (bytes := bytes) (far := far) (r1 := (((List.length (cutF K d bytes 20) : Nat) : Int), p1, M1, N1, r1)) (r2 := (((List.length (cutF K d bytes 20) + 2 : Nat) : Int), false, p2, (both (both p1 r1 M1 N1 (fun _ => 0) 6 (u8.wrap (bShr .u16 a 8)) [] []).1 (both p1 r1 M1 N1 (fun _ => 0) 6 (u8.wrap (bShr .u16 a 8)) [] []).2.1 (both p1 r1 M1 N1 (fun _ => 0) 6 (u8.wrap (bShr .u16 a 8)) [] []).2.2.1 (both p1 r1 M1 N1 (fun _ => 0) 6 (u8.wrap (bShr .u16 a 8)) [] []).2.2.2 (fun _ => 0) 6 (u8.wrap a) [] []).2.2.1, (both (both p1 r1 M1 N1 (fun _ => 0) 6 (u8.wrap (bShr .u16 a 8)) [] []).1 (both p1 r1 M1 N1 (fun _ => 0) 6 (u8.wrap (bShr .u16 a 8)) [] []).2.1 (both p1 r1 M1 N1 (fun _ => 0) 6 (u8.wrap (bShr .u16 a 8)) [] []).2.2.1 (both p1 r1 M1 N1 (fun _ => 0) 6 (u8.wrap (bShr .u16 a 8)) [] []).2.2.2 (fun _ => 0) 6 (u8.wrap a) [] []).2.2.2, r2)) (xd := ((i : Int), false)) (decide_eq_true (by show (i : Int) < 16384; omega)) h1 (by show 0 ≤ (i : Int); omega) h2
        simp only [w1 i (by omega)] at st
        exact st)
      (fun i hi h1 => by
        have st := lawReads_L3ny.p3 (a := a) (N_bytes := K) (d_bytes := d) (bytes := bytes) (far := far) (r1 := (((List.length (cutF K d bytes 20) : Nat) : Int), p1, M1, N1, r1)) (r2 := (((List.length (cutF K d bytes 20) + 2 : Nat) : Int), false, p2, (both (both p1 r1 M1 N1 (fun _ => 0) 6 (u8.wrap (bShr .u16 a 8)) [] []).1 (both p1 r1 M1 N1 (fun _ => 0) 6 (u8.wrap (bShr .u16 a 8)) [] []).2.1 (both p1 r1 M1 N1 (fun _ => 0) 6 (u8.wrap (bShr .u16 a 8)) [] []).2.2.1 (both p1 r1 M1 N1 (fun _ => 0) 6 (u8.wrap (bShr .u16 a 8)) [] []).2.2.2 (fun _ => 0) 6 (u8.wrap a) [] []).2.2.1, (both (both p1 r1 M1 N1 (fun _ => 0) 6 (u8.wrap (bShr .u16 a 8)) [] []).1 (both p1 r1 M1 N1 (fun _ => 0) 6 (u8.wrap (bShr .u16 a 8)) [] []).2.1 (both p1 r1 M1 N1 (fun _ => 0) 6 (u8.wrap (bShr .u16 a 8)) [] []).2.2.1 (both p1 r1 M1 N1 (fun _ => 0) 6 (u8.wrap (bShr .u16 a 8)) [] []).2.2.2 (fun _ => 0) 6 (u8.wrap a) [] []).2.2.2, r2)) (xd := ((i : Int), false)) (decide_eq_true (by show (i : Int) < 16384; omega)) h1
        simp only [w1 i (by omega)] at st
        exact st)
      (.p4 (decide_eq_false (by show ¬ ((16384 : Int) < 16384); omega))) 16384 0 (by omega)
    exact lawReads_p4 a K d bytes far hK c1 zero_ok (same_A start_same) (same_B start_same) q1.ok (same_A q1) (same_B q1) _ l1 s1.ok (same_A s1) (same_B s1) q3.ok (same_A q3) (same_B q3) _ l2 _ l3
end Go.Proofs.Ytgnhhnmpeklciaa
namespace Go.Proofs.Ytgnhhnmpeklciaa.VX
open Go Go.RowKit Go.WideShapes Go.ChangeShapes Go.WideElems
set_option linter.unusedSimpArgs false
set_option linter.unusedVariables false
def HandedAt (W : World) (z : Nat) (cells : Nat → List Value) (N d : Nat) (v : Value) : Prop :=
  ∃ b, b < W.heap.size ∧ (∀ μ ty, BlkRel μ ⟨[.gap d, .rows N z cells], ty, true⟩ W.heap[b]?) ∧ ∀ (μ : Mu) (id : Nat), μ id = some b → VRel μ (.slice (some ⟨id, 0, some d⟩) N 0) v
theorem lt_of_some {α : Type} {a : Array α} {i : Nat} {x : α} (h : a[i]? = some x) : i < a.size := by
  apply Classical.byContradiction
  intro hc
  rw [Array.getElem?_eq_none (by omega)] at h
  cases h
theorem open_handed {H : Type} {enc : TypeId × Value → H} {P : Program} {W : World} {r : Reach} {b0 base : Nat} {sp : Nat → Bool} {held : Bool} {t e : TypeId} {v : Value} {dd : DataW H} {p : List MemPlace} {z : Nat}
    (ht : P.underlying t = some (.slice e)) (hz : P.cellsOf e = z) (hpos : 0 < z) {α : Type} (cells : α → List Value) (ok : α → Prop) (x0 : α) (hx0 : ok x0) (hfl : ∀ a, (cells a).all scalar = true)
    (open1 : ∀ (fuel : Nat) (cs : List Value) (x : DataW H × List MemPlace), DataW.trod enc P W base sp held fuel e cs = some x → ∃ a, ok a ∧ cs = cells a)
    (hany : ∃ (b : Nat) (cs : Array Value) (ty : TypeId) (fr : Nat × Nat), W.heap[b]? = some (Obj.cells cs ty fr))
    (hval : Value.okWide P W r b0 t v) (h : DataW.Trod enc P W base sp held t v dd p) :
    ∃ (N d : Nat) (g : Nat → α), (∀ j, ok (g j)) ∧ HandedAt W z (fun i => cells (g i)) N d v := by
  obtain ⟨ba, ca, ta, fa, hba⟩ := hany
  have empty : ∀ (a : Option Addr) (c : Nat), v = .slice a 0 c → ∃ (N d : Nat) (g : Nat → α), (∀ j, ok (g j)) ∧ HandedAt W z (fun i => cells (g i)) N d v := by
    rintro a c rfl
    refine ⟨0, 0, fun _ => x0, fun _ => hx0, ba, lt_of_some hba, fun μ ty => ⟨ca, ta, fa, hba, (fun hro => nomatch hro), fun off u hu => ?_⟩, fun μ id hid => .sliceE _ _ _ _ _ _ (.inl rfl)⟩
    exfalso
    simp only [Blk.get?] at hu
    have e5 : segsGet? [.gap 0, .rows 0 z (fun i => cells x0)] off = (bif Nat.blt off 0 then none else bif Nat.blt (off - 0) (0 * z) then (Seg.rows 0 z (fun i => cells x0)).get? (off - 0) else none) := rfl
    rw [e5, Nat.zero_mul] at hu
    have e6 : ∀ n, Nat.blt n 0 = false := fun n => by cases h : Nat.blt n 0 with | false => rfl | true => have := blt_tt h; omega
    rw [e6, e6] at hu
    simp at hu
  obtain ⟨a, len, cap, rfl⟩ := okWide_slice ht hval
  obtain ⟨fuel, hf⟩ := h
  rcases Go.Deep.open_slice ht hf with ⟨h1, _⟩ | ⟨a', len', cap', m, n, D, Pl, h1, _, hl, _, hm, _, hel⟩
  · simp [Value.cells] at h1
    obtain ⟨rfl, rfl, rfl⟩ := h1
    exact empty _ _ rfl
  · simp [Value.cells] at h1
    obtain ⟨rfl, rfl, rfl⟩ := h1
    by_cases h0 : len = 0
    · subst h0
      exact empty _ _ rfl
    have hlm : len ≤ m := by rw [hm]; split <;> omega
    have hch : ∀ i, i < len → ∃ x : α, ok x ∧ ∀ j, j < z → W.cell? ((a'.add (i * z)).add j) = (cells x)[j]? := by
      intro i hi
      obtain ⟨cs', hc, ht'⟩ := hel i (by omega)
      obtain ⟨x, hx, rfl⟩ := open1 _ _ _ ht'
      rw [hz] at hc
      obtain ⟨_, _, hcell⟩ := World.cells?_some hc
      exact ⟨x, hx, hcell⟩
    haveI : Inhabited α := ⟨x0⟩
    obtain ⟨g0, hg0⟩ := Go.Deep.choose_lt (p := fun i x => ok x ∧ ∀ j, j < z → W.cell? ((a'.add (i * z)).add j) = (cells x)[j]?) hch
    obtain ⟨b, off, spot⟩ := a'
    have first : ∃ v0, W.cell? (((⟨b, off, spot⟩ : Addr).add (0 * z)).add 0) = some v0 := by
      obtain ⟨cs', hc, _⟩ := hel 0 (by omega)
      rw [hz] at hc
      obtain ⟨_, hl', hcell⟩ := World.cells?_some hc
      exact ⟨cs'[0]'(by omega), by rw [hcell 0 hpos, List.getElem?_eq_getElem]⟩
    obtain ⟨v0, hv0⟩ := first
    have hspot : spot = none := by
      have := World.cell?_spot hv0
      simpa [Addr.add] using this
    subst hspot
    have hblk : ∃ cs ty fr, W.heap[b]? = some (.cells cs ty fr) ∧ ∀ o u, W.cell? ⟨b, o, none⟩ = some u → cs[o]? = some u := by
      rw [add_plain, add_plain] at hv0
      unfold World.cell? at hv0
      split at hv0
      · rename_i c ty fr hh
        exact ⟨c, ty, fr, hh, fun o u hu => by unfold World.cell? at hu; simp only [hh] at hu; simpa using hu⟩
      · cases hv0
    obtain ⟨cs, ty0, fr, hh, hcs⟩ := hblk
    classical
    refine ⟨len, off, fun j => if j < len then g0 j else x0, fun j => (show ok (if j < len then g0 j else x0) by
      by_cases hj : j < len
      · rw [if_pos hj]; exact (hg0 j hj).1
      · rw [if_neg hj]; exact hx0), b, lt_of_some hh, fun μ ty => ⟨cs, ty0, fr, hh, (fun hro => nomatch hro), fun o u hu => ?_⟩, fun μ id hid => ?_⟩
    · have e5 : (Blk.get? ⟨[.gap off, .rows len z (fun i => cells (if i < len then g0 i else x0))], ty, true⟩ o) = (bif Nat.blt o off then none else bif Nat.blt (o - off) (len * z) then (Seg.rows len z (fun i => cells (if i < len then g0 i else x0))).get? (o - off) else none) := rfl
      rw [e5] at hu
      cases h1 : Nat.blt o off <;> rw [h1] at hu
      · simp only [cond_false] at hu
        cases h2 : Nat.blt (o - off) (len * z) <;> rw [h2] at hu
        · simp at hu
        · simp only [cond_true, Seg.get?, h2] at hu
          have hlt := blt_tt h2
          have hge := blt_ff h1
          have hq : (o - off) / z < len := Nat.div_lt_of_lt_mul (by rw [Nat.mul_comm]; exact hlt)
          have hr : (o - off) % z < z := Nat.mod_lt _ hpos
          rw [if_pos hq] at hu
          have hcell := (hg0 _ hq).2 _ hr
          rw [add_plain, add_plain, hu] at hcell
          have heq : off + (o - off) / z * z + (o - off) % z = o := by
            have := Nat.div_add_mod (o - off) z
            rw [Nat.mul_comm] at this
            omega
          rw [heq] at hcell
          exact ⟨u, hcs o u hcell, .of_scalar (List.all_eq_true.1 (hfl _) u (List.mem_of_getElem? hu))⟩
      · simp at hu
    · have := VRel.sliceS hid off 0 len 0 cap hl (.inl rfl)
      rwa [Nat.add_zero] at this
theorem trod_cell_int {H : Type} {enc : TypeId × Value → H} {P : Program} {W : World} {base : Nat} {sp : Nat → Bool} {held : Bool} {t : TypeId} {fs : Array Field} {fuel : Nat} {cs : List Value} {x : DataW H × List MemPlace}
    (ht : P.underlying t = some (.struct fs)) (h : DataW.trod enc P W base sp held fuel t cs = some x) {i : Nat} {f : Field} (hf : fs[i]? = some f) {k : IntKind} (hu : P.underlying f.type = some (.int k)) (hc : P.cellsOf f.type = 1) :
    ∃ n, cs[f.offset]? = some (.int k n) ∧ (Lit.int k n).wf = true := by
  obtain ⟨xs, n, _, _, _, hl, he⟩ := DataW.trod_struct ht h
  have hi : i < xs.length := by rw [hl]; exact lt_of_some hf
  have := he i f hf
  rw [hc, List.getElem?_eq_getElem hi] at this
  obtain ⟨z, h1, _, h2⟩ := DataW.trod_int hu this
  have h0 : ((cs.drop f.offset).take 1)[0]? = some (.int k z) := by rw [h1]; rfl
  exact ⟨z, by simpa using h0, h2⟩
theorem trod_len {H : Type} {enc : TypeId × Value → H} {P : Program} {W : World} {base : Nat} {sp : Nat → Bool} {held : Bool} {t : TypeId} {fs : Array Field} {fuel : Nat} {cs : List Value} {x : DataW H × List MemPlace}
    (ht : P.underlying t = some (.struct fs)) (h : DataW.trod enc P W base sp held fuel t cs = some x) : cs.length = P.cellsOf t := by
  obtain ⟨xs, n, _, _, hl, _, _⟩ := DataW.trod_struct ht h
  exact hl
theorem open_arr_ints {H : Type} {enc : TypeId × Value → H} {P : Program} {W : World} {r : Reach} {b0 base : Nat} {sp : Nat → Bool} {held : Bool} {t e : TypeId} {n : Nat} {k : IntKind} {v : Value} {dd : DataW H} {p : List MemPlace}
    (ht : P.underlying t = some (.array n e)) (he : P.underlying e = some (.int k)) (hc : P.cellsOf e = 1) (hct : P.cellsOf t = n)
    (hval : Value.okWide P W r b0 t v) (h : DataW.Trod enc P W base sp held t v dd p) :
    ∃ f : Nat → Int, (∀ j, j < n → (Lit.int k (f j)).wf = true) ∧ v = .agg ⟨(List.range n).map fun j => .int k (f j)⟩ := by
  simp only [Value.okWide, ht] at hval
  obtain ⟨cs, rfl, hsz, _⟩ := hval
  obtain ⟨fuel, hf⟩ := h
  obtain ⟨xs, m, _, _, hl, hxl, hel⟩ := DataW.trod_array ht hf
  have hch : ∀ j, j < n → ∃ z : Int, (Lit.int k z).wf = true ∧ cs[j]? = some (.int k z) := by
    intro j hj
    have hE := hel j hj
    rw [hc, Nat.mul_one, List.getElem?_eq_getElem (by omega)] at hE
    obtain ⟨z, q1, _, q2⟩ := DataW.trod_int he hE
    refine ⟨z, q2, ?_⟩
    have h0 : (((Value.agg cs).cells.toList.drop j).take 1)[0]? = some (.int k z) := by rw [q1]; rfl
    simpa [Value.cells] using h0
  obtain ⟨f, hf2⟩ := Go.Deep.choose_lt (p := fun j z => (Lit.int k z).wf = true ∧ cs[j]? = some (.int k z)) hch
  refine ⟨f, fun j hj => (hf2 j hj).1, ?_⟩
  congr 1
  apply Array.ext
  · simp; omega
  · intro j h1 h2
    have hj : j < n := by omega
    have := (hf2 j hj).2
    rw [Array.getElem?_eq_getElem h1] at this
    have e2 : cs[j] = .int k (f j) := Option.some.inj this
    rw [e2]
    simp
def muH (P : Program) (b : Nat) : Mu := ⟨fun i => if i < P.globals.size then some i else if i = 1000 then some b else none, fun _ => 0, fun _ => none⟩
theorem muH_1000 {P : Program} (hG : P.globals.size ≤ 1000) (b : Nat) : muH P b 1000 = some b := by
  show (if 1000 < P.globals.size then some 1000 else if 1000 = 1000 then some b else none) = some b
  rw [if_neg (by omega), if_pos rfl]
theorem calls_of_spec_hand {P : Program} {f : FuncId} {A : List Value} {Hl H' : Heap} (hG : P.globals.size ≤ 1000) (sp : FnSpec P f 1001 A Hl (.bool true) H') {W : World} {args : Array Value} (hg : P.globals.size ≤ W.heap.size) {b : Nat} (hb0 : b < W.heap.size)
    (hb : ∀ i B, lk Hl i = some B → B.ro = true ∧ ∃ b', muH P b i = some b' ∧ BlkRel (muH P b) B W.heap[b']?) (ha : VRels (muH P b) A args.toList) :
    Calls P f args W fun e W' => e = .returned (.bool true) ∧ Below W.heap.size W W' := by
  have hr : Rep (muH P b) (lk Hl) W := by
    refine ⟨fun i B e _ => (hb i B e).2, fun i j A B b e1 e2 _ _ _ => ⟨(hb i A e1).1, (hb j B e2).1⟩, fun i b' e => ?_, fun i B b e hr => (by rw [(hb i B e).1] at hr; cases hr), (fun b cs e => nomatch e), fun i B b e hr => (by rw [(hb i B e).1] at hr; cases hr)⟩
    simp only [muH] at e
    split at e
    · simp at e; omega
    · split at e
      · simp at e; omega
      · cases e
  have := sp.runs (muH P b) W args.toList (fun g h => by simp [muH, h]) (fun i hi => by simp only [muH]; rw [if_neg (by omega), if_neg (by omega)]) ha hr
  refine this.mono fun e W' ⟨μ', rv, _, _, hv, he, k⟩ => ?_
  cases hv
  exact ⟨he, ⟨k.os, k.tape, k.output, k.size, fun b hb' => k.same b hb' (by rintro ⟨i, B, e, hr, _⟩; rw [(hb i B e).1] at hr; cases hr)⟩⟩
end Go.Proofs.Ytgnhhnmpeklciaa.VX
namespace Go.Proofs.Ytgnhhnmpeklciaa.VX
open Go Go.RowKit Go.WideShapes Go.ChangeShapes Go.WideElems
set_option linter.unusedSimpArgs false
set_option linter.unusedVariables false
theorem tbl_cells2 {P : Program} {W : World} {laid : List (String × DataW Unit)} (h : laidMet P laid W) {n : String} {d : DataW Unit} (hm : (n, d) ∈ laid) {L : List (List Int)} {k : IntKind} (hd : d = .agg (L.map fun l => .agg (l.map fun x => .lit (.int k x)))) {g : Nat} (hg : P.globalNamed n = some g)
    {ta tr te : TypeId} (ht : (P.globals[g]?).map (·.type) = some ta) {n1 n2 : Nat} (hu : P.underlying ta = some (.array n1 tr)) (hur : P.underlying tr = some (.array n2 te)) (hue : P.underlying te = some (.int k)) (hcr : P.cellsOf tr = n2) (hc : P.cellsOf te = 1)
    (hl : L.length = n1) (hl2 : ∀ l ∈ L, l.length = n2) :
    ∃ cs t fr, W.heap[g]? = some (.cells cs t fr) ∧ ∀ r j, r < n1 → j < n2 → cs[r * n2 + j]? = some (.int k ((L.getD r []).getD j 0)) := by
  obtain ⟨ps, hv, _, _⟩ := h
  obtain ⟨g', t', cs, fuel, p, e1, e2, e3, e4⟩ := laid_entry hv hm
  obtain rfl := Option.some.inj (hg.symm.trans e1)
  obtain rfl := Option.some.inj (ht.symm.trans e2)
  obtain ⟨xs, m, _, ex, _, hxl, hel⟩ := DataW.trod_array hu e4
  have hxs : (xs.map (·.1)) = L.map fun l => .agg (l.map fun x => .lit (.int k x)) := by
    have := (Prod.mk.inj ex).1
    rw [hd] at this
    exact (DataW.agg.inj this).symm
  have hcell : ∀ r j, r < n1 → j < n2 → cs[r * n2 + j]? = some (.int k ((L.getD r []).getD j 0)) := by
    intro r j hr hj
    have hE := hel r hr
    rw [hcr, List.getElem?_eq_getElem (by omega)] at hE
    obtain ⟨ys, m2, _, ey, _, hyl, hyel⟩ := DataW.trod_array hur hE
    have hF := hyel j hj
    rw [hc, Nat.mul_one, List.getElem?_eq_getElem (by omega)] at hF
    obtain ⟨z, q1, q2, _⟩ := DataW.trod_int hue hF
    have e4 : (xs.map (·.1))[r]? = (L.map fun l => (DataW.agg (l.map fun x => .lit (.int k x)) : DataW Unit))[r]? := by rw [hxs]
    rw [List.getElem?_map, List.getElem?_map, List.getElem?_eq_getElem (by omega : r < xs.length), List.getElem?_eq_getElem (by omega : r < L.length)] at e4
    have e5 : xs[r].1 = DataW.agg ((L[r]'(by omega)).map fun x => .lit (.int k x)) := Option.some.inj e4
    have e6 : (ys.map (·.1)) = (L[r]'(by omega)).map fun x => DataW.lit (.int k x) := by
      have := (Prod.mk.inj (ey : (xs[r].1, xs[r].2) = _)).1
      exact DataW.agg.inj (Eq.trans (Eq.symm this) e5)
    have e7 : (ys.map (·.1))[j]? = ((L[r]'(by omega)).map fun x => (DataW.lit (.int k x) : DataW Unit))[j]? := by rw [e6]
    have hlr : (L[r]'(by omega)).length = n2 := hl2 _ (List.getElem_mem _)
    rw [List.getElem?_map, List.getElem?_map, List.getElem?_eq_getElem (by omega : j < ys.length), List.getElem?_eq_getElem (by omega : j < (L[r]'(by omega)).length), q2] at e7
    have hz : z = (L.getD r []).getD j 0 := by
      simp only [Option.map_some, Option.some.injEq, DataW.lit.injEq, Lit.int.injEq, true_and] at e7
      rw [e7, List.getD, List.getD, List.getElem?_eq_getElem (by omega : r < L.length)]
      simp only [Option.getD_some]
      rw [List.getElem?_eq_getElem (by omega)]; rfl
    rw [← hz]
    have h0 : ((((cs.toList.drop (r * n2)).take n2).drop j).take 1)[0]? = some (.int k z) := by rw [q1]; rfl
    rw [List.getElem?_take, List.getElem?_drop, List.getElem?_take, List.getElem?_drop] at h0
    simp only [Nat.lt_one_iff, if_true, Nat.add_zero, hj] at h0
    simpa using h0
  have hheap : ∃ t fr, W.heap[g]? = some (.cells cs t fr) := by
    simp only [World.var?, hg, Option.bind_some] at e3
    split at e3
    · rename_i c t fr hh
      simp only [Option.some.injEq] at e3
      subst e3
      exact ⟨_, _, hh⟩
    · simp at e3
  obtain ⟨t, fr, hh⟩ := hheap
  exact ⟨cs, t, fr, hh, hcell⟩
theorem blk_ones {μ : Mu} {o : Option Obj} {cs : Array Value} {t : TypeId} {fr : Nat × Nat} (hh : o = some (.cells cs t fr)) (l : List Value) (hs : l.all scalar = true) (hl : ∀ (j : Nat) (v : Value), l[j]? = some v → cs[j]? = some v) (ty : TypeId) :
    BlkRel μ ⟨l.map .one, ty, true⟩ o := by
  refine ⟨cs, t, fr, hh, (fun hro => nomatch hro), fun off v hv => ?_⟩
  have hg : ∀ (l : List Value) (off : Nat), segsGet? (l.map .one) off = l[off]? := by
    intro l
    induction l with
    | nil => intro off; rfl
    | cons c l ih =>
      intro off
      cases off with
      | zero => rfl
      | succ off =>
        simp only [List.map_cons, segsGet?, Seg.size]
        have : Nat.blt (off + 1) 1 = false := by cases h : Nat.blt (off + 1) 1 with | false => rfl | true => have := blt_tt h; omega
        rw [this]
        simpa using ih off
  have hv' : l[off]? = some v := by rw [← hg l off]; exact hv
  exact ⟨v, hl off v hv', .of_scalar (List.all_eq_true.1 hs v (List.mem_of_getElem? hv'))⟩
def HandedInts (W : World) (k : IntKind) (f : Nat → Int) (N d : Nat) (v : Value) : Prop :=
  ∃ b, b < W.heap.size ∧ (∀ μ ty, BlkRel μ ⟨[.gap d, .ints k N f], ty, true⟩ W.heap[b]?) ∧ ∀ (μ : Mu) (id : Nat), μ id = some b → VRel μ (.slice (some ⟨id, 0, some d⟩) N 0) v
theorem handed_ints {W : World} {k : IntKind} {f : Nat → Int} {N d : Nat} {v : Value} (h : HandedAt W 1 (fun i => [.int k (f i)]) N d v) : HandedInts W k f N d v := by
  obtain ⟨b, hb, hB, hR⟩ := h
  refine ⟨b, hb, fun μ ty => ?_, hR⟩
  obtain ⟨cs, t, fr, ho, h1, h2⟩ := hB μ ty
  refine ⟨cs, t, fr, ho, (fun hro => nomatch hro), fun off u hu => h2 off u ?_⟩
  have e1 : (Blk.get? ⟨[.gap d, .ints k N f], ty, true⟩ off) = (bif Nat.blt off d then none else bif Nat.blt (off - d) N then (bif Nat.blt (off - d) N then some (.int k (f (off - d))) else none) else none) := rfl
  have e2 : (Blk.get? ⟨[.gap d, .rows N 1 fun i => [.int k (f i)]], ty, true⟩ off) = (bif Nat.blt off d then none else bif Nat.blt (off - d) (N * 1) then (bif Nat.blt (off - d) (N * 1) then [Value.int k (f ((off - d) / 1))][(off - d) % 1]? else none) else none) := rfl
  rw [e1] at hu
  rw [e2, Nat.mul_one, Nat.div_one, Nat.mod_one]
  exact hu
theorem open_bytes {H : Type} {enc : TypeId × Value → H} {P : Program} {W : World} {r : Reach} {b0 base : Nat} {sp : Nat → Bool} {held : Bool} {t e : TypeId} {v : Value} {dd : DataW H} {p : List MemPlace}
    (ht : P.underlying t = some (.slice e)) (he : P.underlying e = some (.int .u8)) (hz : P.cellsOf e = 1) (hany : ∃ (b : Nat) (cs : Array Value) (ty : TypeId) (fr : Nat × Nat), W.heap[b]? = some (Obj.cells cs ty fr))
    (hval : Value.okWide P W r b0 t v) (h : DataW.Trod enc P W base sp held t v dd p) :
    ∃ (N d : Nat) (f : Nat → Int), (∀ j, rng 256 (f j)) ∧ HandedInts W .u8 f N d v := by
  obtain ⟨N, d, g, hg, hh⟩ := open_handed ht hz (by decide) (fun a : Int => [.int .u8 a]) (rng 256) 0 (by decide) (fun _ => rfl) (fun fuel cs x hx => by
    obtain ⟨z, h1, _, h2⟩ := DataW.trod_int he hx
    exact ⟨z, wf_u8 h2, h1⟩) hany hval h
  exact ⟨N, d, g, hg, handed_ints hh⟩
theorem handed_le {H : Type} {enc : TypeId × Value → H} {P : Program} {W : World} {r : Reach} {b0 base : Nat} {sp : Nat → Bool} {held : Bool} {t e : TypeId} {v : Value} {dd : DataW H} {p : List MemPlace} {z N d : Nat} {cells : Nat → List Value}
    (ht : P.underlying t = some (.slice e)) (hval : Value.okWide P W r b0 t v) (h : DataW.Trod enc P W base sp held t v dd p) (hh : HandedAt W z cells N d v) : N ≤ 9223372036854775807 := by
  obtain ⟨b, _, _, hR⟩ := hh
  have hv := hR ⟨fun _ => some b, fun _ => 0, fun _ => none⟩ 1000 rfl
  obtain ⟨a, len, cap, rfl⟩ := okWide_slice ht hval
  obtain ⟨fuel, hf⟩ := h
  have hlen : len ≤ 9223372036854775807 := by
    rcases Go.Deep.open_slice ht hf with ⟨h1, _⟩ | ⟨a', len', cap', m, n, D, Pl, h1, _, hl, hm, _⟩
    · simp [Value.cells] at h1
      omega
    · simp [Value.cells] at h1
      obtain ⟨_, rfl, rfl⟩ := h1
      have : maxLen = 9223372036854775807 := by decide
      omega
  cases hv with
  | sliceS _ _ _ _ _ _ _ _ => exact hlen
  | sliceE _ _ _ _ _ _ _ => omega
end Go.Proofs.Ytgnhhnmpeklciaa.VX
namespace Go.Proofs.Ytgnhhnmpeklciaa
open Go VX Go.ChangeShapes Go.WideShapes Go.RowKit Go.Joins Go.Deep
set_option maxRecDepth 100000
set_option linter.unusedVariables false
def isCells : Option Obj → Bool
  | some (.cells _ _ _) => true
  | _ => false
theorem glob0 : Try.prog.globals.size = 0 := by kernel_rfl
theorem any_open {W : World} (h : W.ShapedOpen Try.prog) : ∃ (b : Nat) (cs : Array Value) (ty : TypeId) (fr : Nat × Nat), W.heap[b]? = some (Obj.cells cs ty fr) := by
  have h0 : isCells ((begin Try.prog (fun _ _ => 0) default).world.heap[0]?) = true := by kernel_rfl
  have hsz : 0 < (begin Try.prog (fun _ _ => 0) default).world.heap.size := by
    have : decide (0 < (begin Try.prog (fun _ _ => 0) default).world.heap.size) = true := by kernel_rfl
    exact of_decide_eq_true this
  obtain ⟨o, o0, e1, e2, e3⟩ := h.2 0 (by rw [glob0]; exact Nat.le_refl _) hsz
  have hl : World.looseAt (0 - Try.prog.globals.size) = false := by kernel_rfl
  rw [if_neg (by rw [hl]; decide)] at e3
  subst e3
  rw [e2] at h0
  cases o with
  | cells cs t fr => exact ⟨0, cs, t, fr, e1⟩
  | _ => cases h0
section
variable {H : Type} {enc : TypeId × Value → H} {W : World} {base : Nat} {sp : Nat → Bool} {held : Bool}
theorem c1_5 : Try.prog.cellsOf 5 = 1 := by kernel_rfl
theorem open_lines {r : Reach} {b0 : Nat} {v : Value} {d : DataW H} {p : List MemPlace} (hany : ∃ (b : Nat) (cs : Array Value) (ty : TypeId) (fr : Nat × Nat), W.heap[b]? = some (Obj.cells cs ty fr))
    (hv : Value.okWide Try.prog W r b0 23 v) (h : DataW.Trod enc Try.prog W base sp held 23 v d p) : ∃ (N k : Nat) (f : Nat → Int), ((∀ j, rng 256 (f j)) ∧ (N : Int) ≤ 9223372036854775807) ∧ HandedInts W .u8 f N k v := by
  obtain ⟨N, k, g, hg, hh⟩ := open_handed Try.underlying23 c1_5 (by decide) (fun a : Int => [.int .u8 a]) (rng 256) 0 (by decide) (fun _ => rfl) (fun fuel cs x hx => by
    obtain ⟨z, h1, _, h2⟩ := DataW.trod_int Try.underlying5 hx
    exact ⟨z, wf_u8 h2, h1⟩) hany hv h
  have hle := handed_le Try.underlying23 hv h hh
  exact ⟨N, k, g, ⟨hg, by omega⟩, handed_ints hh⟩
end
theorem hand_one {W : World} {b : Nat} {B : Blk} (hro : B.ro = true) (hB : BlkRel (muH Try.prog b) B W.heap[b]?) : ∀ i B', lk [(1000, B)] i = some B' → B'.ro = true ∧ ∃ b', muH Try.prog b i = some b' ∧ BlkRel (muH Try.prog b) B' W.heap[b']? := by
  intro i B' h
  simp only [lk] at h
  cases e : Nat.beq i 1000 <;> rw [e] at h
  · simp at h
  · simp at h; subst h
    rw [beq_tt e]
    exact ⟨hro, b, muH_1000 hG b, hB⟩
end Go.Proofs.Ytgnhhnmpeklciaa
