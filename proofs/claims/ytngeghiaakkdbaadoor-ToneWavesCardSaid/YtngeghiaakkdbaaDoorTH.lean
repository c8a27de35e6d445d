/-
  Layer 11: what the registers make of a voice; what a pulse puts out. No condition.
-/
import Derived.Test.YtngeghiaakkdbaaDoorTC
namespace Go.Proofs.YtngeghiaakkdbaaDoor
open Go VX IntWalk
set_option maxRecDepth 100000
set_option linter.unusedSimpArgs false
set_option linter.unusedVariables false

theorem bOr_comm (k : IntKind) (a b : Int) : bOr k a b = bOr k b a := by unfold bOr; rw [BitVec.or_comm]

theorem not16_255 {a : Int} (h : 0 ≤ a ∧ a < 65536) : bAndNot .u16 a 255 = a / 256 * 256 := by
  rw [bAndNot_eq (k := .u16) rfl h.1 h.2 (by decide) (by decide), and16_255 h]; omega

theorem put2_eq (p b : Int) (hp : 0 ≤ p ∧ p < 65536) (hb : 0 ≤ b ∧ b < 256) : bOr .u16 (bAndNot .u16 p 255) (IntKind.u16.wrap b) = p / 256 * 256 + b := by
  rw [not16_255 hp, u16_in b (by omega)]
  exact bOr_low (k := .u16) rfl 8 (by omega) (by show _ < ((65536 : Nat) : Int); omega) hb.1 (by show _ < ((256 : Nat) : Int); omega) (by show _ % ((256 : Nat) : Int) = 0; omega) (by decide)

theorem put3_eq (p b : Int) (hp : 0 ≤ p ∧ p < 65536) (hb : 0 ≤ b ∧ b < 256) : bOr .u16 (bAnd .u16 p 255) (bShl .u16 (IntKind.u16.wrap (bAnd .u8 b 7)) 8) = p % 256 + b % 8 * 256 := by
  rw [and16_255 hp, and8_7 hb, u16_in (b % 8) (by omega)]
  have e : bShl .u16 (b % 8) 8 = b % 8 * 256 := by
    unfold bShl
    have : (2 : Int) ^ (min (8 : Int).toNat IntKind.u16.bits) = 256 := by decide
    rw [this, u16_in _ (by omega)]
  rw [e, bOr_comm, bOr_low (k := .u16) rfl 8 (by omega) (by show _ < ((65536 : Nat) : Int); omega) (by omega) (by show _ < ((256 : Nat) : Int); omega) (by show _ % ((256 : Nat) : Int) = 0; omega) (by decide)]
  omega

/-- A pulse, laid by its four registers. -/
def pulse (k r0 r1 p : Int) (l : Int) : Tone :=
  { kind := k, on := true, reg := upd (upd (upd (upd (fun j => List.getD [0, 0, 0, 0] j 0) 0 r0) 1 r1) 2 (p % 256)) 3 (p / 256), length := l, period := p, timer := 0, step := 0, begins := true, level := 0, count := 0, sweep := 0, swept := true, line := 0, row := 1 }

theorem pulse_of (k : Int) (hk : k = 0 ∨ k = 1) (t0 : Tone) (ht : t0 = if k = 0 then tNew_0 else tNew_1) (r0 r1 p : Int) (hp : 0 ≤ p ∧ p < 2048) :
    tPut_3 (tPut_2 (tPut_1 (tPut_0 (tEnable t0 true) r0) r1) (IntKind.u8.wrap p)) (IntKind.u8.wrap (bShr .u16 p 8)) = pulse k r0 r1 p (lengthsT (p / 256 / 8).toNat) := by
  have e1 : IntKind.u8.wrap p = p % 256 := IntKind.wrap_u8 p
  have e2 : IntKind.u8.wrap (bShr .u16 p 8) = p / 256 := by rw [shr16_8, u8_in _ (by omega)]
  rw [e1, e2]
  have q2 := put2_eq 0 (p % 256) (by decide) (by omega)
  have q3 := put3_eq (p % 256) (p / 256) (by omega) (by omega)
  have q4 : 0 / 256 * 256 + p % 256 = p % 256 := by omega
  have q5 : p % 256 % 256 + p / 256 % 8 * 256 = p := by omega
  rw [q4] at q2
  rw [q5] at q3
  have q6 : bShr .u8 (p / 256) 3 = p / 256 / 8 := shr8_3 _
  rcases hk with rfl | rfl
  · rw [if_pos rfl] at ht; subst ht
    simp [tPut_3, tHigh, tPut_2, tPut_1, tPut_0, tEnable, tNew_0, pulse, q2, q3, q6]
  · rw [if_neg (by decide)] at ht; subst ht
    simp [tPut_3, tHigh, tPut_2, tPut_1, tPut_0, tEnable, tNew_1, pulse, q2, q3, q6]

theorem lengths_pos (n : Int) (h : 0 ≤ n ∧ n < 32) : 0 < lengthsT n.toNat ∧ lengthsT n.toNat < 256 := by
  obtain ⟨m, rfl⟩ : ∃ m : Nat, n = m := ⟨n.toNat, by omega⟩
  have hm : m < 32 := by omega
  rw [Int.toNat_natCast]
  clear h
  revert m
  decide +kernel

/-- Is a duty's bit laid at a step? -/
def dbit (d s : Int) : Bool := !((bAnd .u8 (bShl .u8 (dutiesT d.toNat) s) 128 : Int) == 0)

/-- What a pulse puts out. -/
theorem out_pulse (t : Tone) (hk : t.kind = 0 ∨ t.kind = 1) (hl : 0 < t.length) : tOut t = if tMute t then 0 else if dbit (bShr .u8 (t.reg 0) 6) t.step then tVolume t else 0 := by
  unfold tOut dbit
  rw [if_neg (by rcases hk with h | h <;> simp [h]), if_neg (by simp; omega), if_neg (by rcases hk with h | h <;> simp [h]), if_pos (by rcases hk with h | h <;> simp [h])]
  cases hm : tMute t <;> simp

theorem target_eq (t : Tone) (hok : Tone.ok t) (hp : t.period < 2048) : tTarget t = (if t.reg 1 / 8 % 2 = 0 then t.period + t.period / 2 ^ (t.reg 1 % 8).toNat else if t.kind = 0 then t.period - min (t.period / 2 ^ (t.reg 1 % 8).toNat + 1) t.period else t.period - min (t.period / 2 ^ (t.reg 1 % 8).toNat) t.period) := by
  have h1 := hok.reg 1
  have h2 := hok.period
  unfold rng at h1 h2
  have e1 : bAnd .u8 (t.reg 1) 7 = t.reg 1 % 8 := and8_7 h1
  have e2 : bAnd .u8 (t.reg 1) 8 = t.reg 1 / 8 % 2 * 8 := and8_8 h1
  have e3 : bShr .u16 t.period (t.reg 1 % 8) = t.period / 2 ^ (t.reg 1 % 8).toNat := by
    have := shr8 (k := .u16) (a := t.period) (t.reg 1 % 8).toNat (by show _ ≤ 16; omega)
    rwa [Int.toNat_of_nonneg (by omega)] at this
  have h3 : 0 ≤ t.period / 2 ^ (t.reg 1 % 8).toNat := Int.ediv_nonneg h2.1 (Int.le_of_lt (Int.pow_pos (by decide)))
  have h4 : t.period / 2 ^ (t.reg 1 % 8).toNat ≤ t.period := Int.ediv_le_self _ h2.1
  unfold tTarget
  rw [e1, e2, e3]
  generalize t.period / 2 ^ (t.reg 1 % 8).toNat = q at *
  by_cases c1 : t.reg 1 / 8 % 2 = 0
  · rw [if_pos (by simp [c1]), if_pos c1, u16_in _ (by omega)]
  · rw [if_neg (by simp; omega), if_neg c1]
    by_cases c2 : t.kind = 0
    · rw [if_pos (by simp [c2]), if_pos c2, u16_in (q + 1) (by omega)]
      split <;> rw [u16_in _ (by omega)] <;> omega
    · rw [if_neg (by simp [c2]), if_neg c2]
      split <;> rw [u16_in _ (by omega)] <;> omega

end Go.Proofs.YtngeghiaakkdbaaDoor
