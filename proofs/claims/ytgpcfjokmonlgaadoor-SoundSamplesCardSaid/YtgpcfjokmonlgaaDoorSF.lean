/-
  Layer 12: what the sound's functions do, in numbers: the sample, the count, a cycle. No condition.
-/
import Derived.Test.YtgpcfjokmonlgaaDoorSE
import Derived.Test.YtgpcfjokmonlgaaDoorVU
namespace Go.Proofs.YtgpcfjokmonlgaaDoor
open Go VX IntWalk
set_option maxRecDepth 100000
set_option linter.unusedSimpArgs false
set_option linter.unusedVariables false

theorem awake_t : (!awake) = false := by decide +kernel

-- ---------------------------------------------------------------- the sample

/-- What holds of a sample at all times. -/
structure MInv (m : Smp) : Prop where
  ok : Smp.ok m
  bits : 1 ≤ m.bits ∧ m.bits ≤ 8
  level : m.level ≤ 127
  left : 0 ≤ m.left ∧ m.left ≤ 4081

def Smp.bit (m : Smp) : Smp := if m.speaks = false then m else
  { m with row := m.row / 2, level := if m.row % 2 = 1 then (if m.level ≤ 125 then m.level + 2 else m.level) else (if 2 ≤ m.level then m.level - 2 else m.level) }
def Smp.begin (m : Smp) : Smp := { m with at_ := 49152 + 64 * m.reg 2, left := 16 * m.reg 3 + 1 }
def Smp.clock (m : Smp) : Smp := if 0 < m.timer then { m with timer := m.timer - 1 } else
  if 1 < m.bits then { m.bit with timer := ratesT (m.reg 0 % 16).toNat - 1, bits := m.bits - 1 }
  else if m.waits = true then { m.bit with timer := ratesT (m.reg 0 % 16).toNat - 1, bits := 8, speaks := true, row := m.next, waits := false }
  else { m.bit with timer := ratesT (m.reg 0 % 16).toNat - 1, bits := 8, speaks := false }
def Smp.give (m : Smp) (b : Int) : Smp := if m.waits = true ∨ m.left ≤ 0 then m else
  if 1 < m.left then { m with next := b, waits := true, at_ := if m.at_ = 65535 then 32768 else m.at_ + 1, left := m.left - 1 }
  else if m.reg 0 / 64 % 2 = 1 then { m with next := b, waits := true, at_ := 49152 + 64 * m.reg 2, left := 16 * m.reg 3 + 1 }
  else if m.reg 0 / 128 % 2 = 1 then { m with next := b, waits := true, at_ := if m.at_ = 65535 then 32768 else m.at_ + 1, left := 0, irq := true }
  else { m with next := b, waits := true, at_ := if m.at_ = 65535 then 32768 else m.at_ + 1, left := 0 }
def Smp.enable (m : Smp) (on : Bool) : Smp := if on = true then (if m.left = 0 then { m.begin with irq := false } else { m with irq := false }) else { m with left := 0, irq := false }

theorem beg_eq (s : Snd) (h : MInv s.sample) : mBegin s = { s with sample := s.sample.begin } := by
  have h2 := h.ok.reg 2
  have h3 := h.ok.reg 3
  unfold rng at h2 h3
  unfold mBegin Smp.begin
  rw [u16_in (s.sample.reg 2) (by omega), u16_in (64 * s.sample.reg 2) (by omega), u16_in (49152 + _) (by omega), i64_in (s.sample.reg 3) (by omega), i64_in (16 * s.sample.reg 3) (by omega), i64_in (16 * s.sample.reg 3 + 1) (by omega)]

theorem bit_eq (s : Snd) (h : MInv s.sample) : mBit s = { s with sample := s.sample.bit } := by
  have hr := h.ok.row
  have hl := h.ok.level
  have hl2 := h.level
  unfold rng at hr hl
  unfold mBit Smp.bit
  rw [and8_1 hr, shr8_1]
  cases hs : s.sample.speaks with
  | false => simp
  | true =>
    by_cases hb : s.sample.row % 2 = 1
    · by_cases hc : s.sample.level ≤ 125
      · simp [hs, hb, hc, u8_in (s.sample.level + 2) (by omega)]
      · simp [hs, hb, hc]
    · have hb0 : s.sample.row % 2 = 0 := by omega
      by_cases hc : 2 ≤ s.sample.level
      · simp [hs, hb0, hc, u8_in (s.sample.level - 2) (by omega)]
      · simp [hs, hb0, hc]

theorem rates_pos (n : Nat) (h : n < 16) : 54 ≤ ratesT n ∧ ratesT n ≤ 428 := by
  have : ∀ n : Fin 16, 54 ≤ ratesT n.val ∧ ratesT n.val ≤ 428 := by decide +kernel
  exact this ⟨n, h⟩

theorem bit_inv {m : Smp} (h : MInv m) : MInv m.bit := by
  have hr := h.ok.row
  have hl := h.ok.level
  have hl2 := h.level
  unfold rng at hr hl
  unfold Smp.bit
  split
  · exact h
  · refine ⟨⟨h.ok.reg, ?_, h.ok.next, ?_, h.ok.bits, h.ok.timer, h.ok.at_⟩, h.bits, ?_, h.left⟩
    · show rng 256 (if m.row % 2 = 1 then (if m.level ≤ 125 then m.level + 2 else m.level) else (if 2 ≤ m.level then m.level - 2 else m.level))
      unfold rng; repeat' split
      all_goals omega
    · show rng 256 (m.row / 2)
      unfold rng; omega
    · show (if m.row % 2 = 1 then (if m.level ≤ 125 then m.level + 2 else m.level) else (if 2 ≤ m.level then m.level - 2 else m.level)) ≤ (127 : Int)
      repeat' split
      all_goals omega

theorem bit_same (m : Smp) : m.bit.reg = m.reg ∧ m.bit.next = m.next ∧ m.bit.waits = m.waits ∧ m.bit.bits = m.bits ∧ m.bit.speaks = m.speaks ∧ m.bit.timer = m.timer ∧ m.bit.at_ = m.at_ ∧ m.bit.left = m.left ∧ m.bit.irq = m.irq := by
  unfold Smp.bit; split <;> simp

theorem mclk_eq (s : Snd) (h : MInv s.sample) : mClock s = { s with sample := s.sample.clock } := by
  have ht := h.ok.timer
  have h0 := h.ok.reg 0
  have hb := h.bits
  have hp := rates_pos (s.sample.reg 0 % 16).toNat (by omega)
  unfold rng at ht h0
  unfold mClock Smp.clock
  by_cases c : 0 < s.sample.timer
  · simp [c, u16_in (s.sample.timer - 1) (by omega)]
  rw [and8_15 h0, u16_in (ratesT (s.sample.reg 0 % 16).toNat - 1) (by omega)]
  have hk : MInv ({ s with sample := ({ s.sample with timer := ratesT (s.sample.reg 0 % 16).toNat - 1 } : Smp) } : Snd).sample := ⟨⟨h.ok.reg, h.ok.level, h.ok.next, h.ok.row, h.ok.bits, (by show rng 65536 (ratesT (s.sample.reg 0 % 16).toNat - 1); unfold rng; omega), h.ok.at_⟩, h.bits, h.level, h.left⟩
  rw [bit_eq _ hk]
  have e1 : (({ s.sample with timer := ratesT (s.sample.reg 0 % 16).toNat - 1 } : Smp)).bit = { s.sample.bit with timer := ratesT (s.sample.reg 0 % 16).toNat - 1 } := by
    unfold Smp.bit
    simp only
    split <;> rfl
  simp only [e1]
  obtain ⟨b1, b2, b3, b4, b5, b6, b7, b8, b9⟩ := bit_same s.sample
  rw [b4, b3, b2, u8_in (s.sample.bits - 1) (by omega)]
  by_cases c1 : 1 < s.sample.bits
  · have c2 : 0 < s.sample.bits - 1 := by omega
    simp [c, c1, c2]
  · have c2 : ¬ 0 < s.sample.bits - 1 := by omega
    cases hw : s.sample.waits <;> simp [c, c1, c2, hw]

theorem mclk_inv {m : Smp} (h : MInv m) : MInv m.clock := by
  have ht := h.ok.timer
  have h0 := h.ok.reg 0
  have hb := h.bits
  have hp := rates_pos (m.reg 0 % 16).toNat (by omega)
  have hi := bit_inv h
  unfold rng at ht h0
  have hT : rng 65536 (ratesT (m.reg 0 % 16).toNat - 1) := by unfold rng; omega
  unfold Smp.clock
  split
  · exact ⟨⟨h.ok.reg, h.ok.level, h.ok.next, h.ok.row, h.ok.bits, (by show rng 65536 (m.timer - 1); unfold rng; omega), h.ok.at_⟩, h.bits, h.level, h.left⟩
  split
  · exact ⟨⟨hi.ok.reg, hi.ok.level, hi.ok.next, hi.ok.row, (by show rng 256 (m.bits - 1); unfold rng; omega), hT, hi.ok.at_⟩, (by show 1 ≤ m.bits - 1 ∧ m.bits - 1 ≤ 8; omega), hi.level, hi.left⟩
  split
  · exact ⟨⟨hi.ok.reg, hi.ok.level, hi.ok.next, h.ok.next, (by show rng 256 8; decide), hT, hi.ok.at_⟩, (by show (1 : Int) ≤ 8 ∧ (8 : Int) ≤ 8; omega), hi.level, hi.left⟩
  · exact ⟨⟨hi.ok.reg, hi.ok.level, hi.ok.next, hi.ok.row, (by show rng 256 8; decide), hT, hi.ok.at_⟩, (by show (1 : Int) ≤ 8 ∧ (8 : Int) ≤ 8; omega), hi.level, hi.left⟩

theorem asks_eq (s : Snd) : mAsks s = decide (s.sample.waits = false ∧ 0 < s.sample.left) := by
  unfold mAsks
  cases s.sample.waits <;> simp

theorem give_eq (s : Snd) (b : Int) (h : MInv s.sample) (hb : rng 256 b) : sGive s b = { s with sample := s.sample.give b } := by
  have ha := h.ok.at_
  have h0 := h.ok.reg 0
  have hl := h.left
  unfold rng at ha h0
  show mGive s b = _
  unfold mGive Smp.give
  rw [asks_eq, and8_64 h0, and8_128 h0, i64_in (s.sample.left - 1) (by omega)]
  by_cases c0 : s.sample.waits = true ∨ s.sample.left ≤ 0
  · have c0' : ¬ (s.sample.waits = false ∧ 0 < s.sample.left) := by
      rintro ⟨q1, q2⟩; rcases c0 with c0 | c0
      · rw [q1] at c0; cases c0
      · omega
    simp [c0, c0']
  have c0' : s.sample.waits = false ∧ 0 < s.sample.left := by
    constructor
    · cases hw : s.sample.waits with
      | false => rfl
      | true => exact absurd (.inl hw) c0
    · exact Int.not_le.1 fun q => c0 (.inr q)
  rw [if_neg c0, if_neg (by simp [c0'])]
  have hinner : ∀ a : Int, rng 65536 a → rng 256 b →
      (if decide (s.sample.left - 1 > 0) = true then
        ({ s with sample := ({ s.sample with next := b, waits := true, at_ := a, left := s.sample.left - 1 } : Smp) } : Snd)
      else if (((s.sample.reg 0 / 64 % 2 * 64) : Int) != 0) = true then
          (mBegin ({ s with sample := ({ s.sample with next := b, waits := true, at_ := a, left := s.sample.left - 1 } : Smp) } : Snd))
        else
          if (((s.sample.reg 0 / 128 % 2 * 128) : Int) != 0) = true then
            ({ s with sample := ({ s.sample with next := b, waits := true, at_ := a, left := s.sample.left - 1, irq := true } : Smp) } : Snd)
          else
            ({ s with sample := ({ s.sample with next := b, waits := true, at_ := a, left := s.sample.left - 1 } : Smp) } : Snd)) =
      ({ s with sample := (if 1 < s.sample.left then { s.sample with next := b, waits := true, at_ := a, left := s.sample.left - 1 }
        else if s.sample.reg 0 / 64 % 2 = 1 then { s.sample with next := b, waits := true, at_ := 49152 + 64 * s.sample.reg 2, left := 16 * s.sample.reg 3 + 1 }
        else if s.sample.reg 0 / 128 % 2 = 1 then { s.sample with next := b, waits := true, at_ := a, left := 0, irq := true }
        else { s.sample with next := b, waits := true, at_ := a, left := 0 }) } : Snd) := by
    intro a ra rb
    by_cases c1 : 1 < s.sample.left
    · rw [if_pos (by simp; omega), if_pos c1]
    rw [if_neg (by simp; omega), if_neg c1]
    have e1 : s.sample.left - 1 = 0 := by omega
    rw [e1]
    by_cases c2 : s.sample.reg 0 / 64 % 2 = 1
    · rw [if_pos (by simp [c2]), if_pos c2, beg_eq ({ s with sample := ({ s.sample with next := b, waits := true, at_ := a, left := 0 } : Smp) } : Snd) ⟨⟨h.ok.reg, h.ok.level, rb, h.ok.row, h.ok.bits, h.ok.timer, ra⟩, h.bits, h.level, (by show (0 : Int) ≤ 0 ∧ (0 : Int) ≤ 4081; omega)⟩]
      rfl
    rw [if_neg (by simp; omega), if_neg c2]
    by_cases c3 : s.sample.reg 0 / 128 % 2 = 1
    · rw [if_pos (by simp [c3]), if_pos c3]
    · rw [if_neg (by simp; omega), if_neg c3]
  by_cases q : s.sample.at_ = 65535
  · have e : (IntKind.u16.wrap (s.sample.at_ + 1)) = 0 := by rw [q]; decide
    have e0 : ((0 : Int) == 0) = true := by decide
    rw [e, if_pos e0, hinner 32768 (by decide) hb]
    simp only [q, if_true]
  · rw [u16_in (s.sample.at_ + 1) (by omega), if_neg (by simp; omega), hinner (s.sample.at_ + 1) (by unfold rng; omega) hb]
    simp only [if_neg q]

theorem give_inv {m : Smp} (h : MInv m) {b : Int} (hb : rng 256 b) : MInv (m.give b) := by
  have ha := h.ok.at_
  have h2 := h.ok.reg 2
  have h3 := h.ok.reg 3
  have hl := h.left
  unfold rng at ha h2 h3
  have hA : rng 65536 (if m.at_ = 65535 then 32768 else m.at_ + 1) := by unfold rng; split <;> omega
  have hB : rng 65536 (49152 + 64 * m.reg 2) := by unfold rng; omega
  unfold Smp.give
  split
  · exact h
  split
  · exact ⟨⟨h.ok.reg, h.ok.level, hb, h.ok.row, h.ok.bits, h.ok.timer, hA⟩, h.bits, h.level, (by show 0 ≤ m.left - 1 ∧ m.left - 1 ≤ 4081; omega)⟩
  split
  · exact ⟨⟨h.ok.reg, h.ok.level, hb, h.ok.row, h.ok.bits, h.ok.timer, hB⟩, h.bits, h.level, (by show 0 ≤ 16 * m.reg 3 + 1 ∧ 16 * m.reg 3 + 1 ≤ 4081; omega)⟩
  split
  · exact ⟨⟨h.ok.reg, h.ok.level, hb, h.ok.row, h.ok.bits, h.ok.timer, hA⟩, h.bits, h.level, (by show (0 : Int) ≤ 0 ∧ (0 : Int) ≤ 4081; omega)⟩
  · exact ⟨⟨h.ok.reg, h.ok.level, hb, h.ok.row, h.ok.bits, h.ok.timer, hA⟩, h.bits, h.level, (by show (0 : Int) ≤ 0 ∧ (0 : Int) ≤ 4081; omega)⟩

theorem beg_inv {m : Smp} (h : MInv m) : MInv m.begin := by
  have h2 := h.ok.reg 2
  have h3 := h.ok.reg 3
  unfold rng at h2 h3
  exact ⟨⟨h.ok.reg, h.ok.level, h.ok.next, h.ok.row, h.ok.bits, h.ok.timer, (by show rng 65536 (49152 + 64 * m.reg 2); unfold rng; omega)⟩, h.bits, h.level, (by show 0 ≤ 16 * m.reg 3 + 1 ∧ 16 * m.reg 3 + 1 ≤ 4081; omega)⟩

theorem enable_eq (s : Snd) (on : Bool) (h : MInv s.sample) : mEnable s on = { s with sample := s.sample.enable on } := by
  unfold mEnable Smp.enable
  cases on
  · simp
  · by_cases c : s.sample.left = 0
    · rw [if_neg (by simp), if_pos (by simpa using c), beg_eq ({ s with sample := ({ s.sample with irq := false } : Smp) } : Snd) ⟨⟨h.ok.reg, h.ok.level, h.ok.next, h.ok.row, h.ok.bits, h.ok.timer, h.ok.at_⟩, h.bits, h.level, h.left⟩]
      simp [c, Smp.begin]
    · simp [c]

theorem enable_inv {m : Smp} (h : MInv m) (on : Bool) : MInv (m.enable on) := by
  unfold Smp.enable
  split
  · split
    · have := beg_inv h
      exact ⟨⟨this.ok.reg, this.ok.level, this.ok.next, this.ok.row, this.ok.bits, this.ok.timer, this.ok.at_⟩, this.bits, this.level, this.left⟩
    · exact ⟨⟨h.ok.reg, h.ok.level, h.ok.next, h.ok.row, h.ok.bits, h.ok.timer, h.ok.at_⟩, h.bits, h.level, h.left⟩
  · exact ⟨⟨h.ok.reg, h.ok.level, h.ok.next, h.ok.row, h.ok.bits, h.ok.timer, h.ok.at_⟩, h.bits, h.level, (by show (0 : Int) ≤ 0 ∧ (0 : Int) ≤ 4081; omega)⟩

/-- A register of the sample. -/
def Smp.put (m : Smp) (r : Nat) (b : Int) : Smp :=
  if r = 0 then { m with reg := upd m.reg 0 b, irq := m.irq && decide (b / 128 % 2 = 1) }
  else if r = 1 then { m with reg := upd m.reg 1 b, level := b % 128 }
  else { m with reg := upd m.reg r b }

theorem mput_inv {m : Smp} (h : MInv m) (r : Nat) {b : Int} (hb : rng 256 b) : MInv (m.put r b) := by
  have hb' := hb
  unfold rng at hb'
  unfold Smp.put
  split
  · exact ⟨⟨rng_upd h.ok.reg _ hb, h.ok.level, h.ok.next, h.ok.row, h.ok.bits, h.ok.timer, h.ok.at_⟩, h.bits, h.level, h.left⟩
  split
  · exact ⟨⟨rng_upd h.ok.reg _ hb, (by show rng 256 (b % 128); unfold rng; omega), h.ok.next, h.ok.row, h.ok.bits, h.ok.timer, h.ok.at_⟩, h.bits, (by show b % 128 ≤ 127; omega), h.left⟩
  · exact ⟨⟨rng_upd h.ok.reg _ hb, h.ok.level, h.ok.next, h.ok.row, h.ok.bits, h.ok.timer, h.ok.at_⟩, h.bits, h.level, h.left⟩

theorem mput_eq (s : Snd) (b : Int) (hb : rng 256 b) : mPut_0 s b = { s with sample := s.sample.put 0 b } ∧ mPut_1 s b = { s with sample := s.sample.put 1 b } ∧ mPut_2 s b = { s with sample := s.sample.put 2 b } ∧ mPut_3 s b = { s with sample := s.sample.put 3 b } := by
  refine ⟨?_, ?_, rfl, rfl⟩
  · unfold mPut_0 Smp.put
    rw [and8_128 hb]
    have e : ((b / 128 % 2 * 128 : Int) != 0) = decide (b / 128 % 2 = 1) := by
      by_cases c : b / 128 % 2 = 1
      · simp [c]
      · have : b / 128 % 2 = 0 := by omega
        simp [this]
    rw [e]
    cases s.sample.irq <;> simp
  · unfold mPut_1 Smp.put
    rw [and8_127 hb]
    simp

-- ---------------------------------------------------------------- the count

def lastC (s : Snd) : Int := if s.manner = 1 then 37281 else 29829
/-- What the count does to a voice. -/
def beat (s : Snd) (t : Tone) : Tone :=
  if s.count + 1 = 14913 ∨ s.count + 1 = lastC s then tHalf (tQuarter t) else if s.count + 1 = 7457 ∨ s.count + 1 = 22371 then tQuarter t else t
def tickS (s : Snd) : Snd :=
  { s with tones_0 := beat s s.tones_0, tones_1 := beat s s.tones_1, tones_2 := beat s s.tones_2, tones_3 := beat s s.tones_3,
           count := if s.count + 1 > lastC s then 0 else s.count + 1, irq := s.irq || (decide (s.count + 1 = 29829) && decide (s.manner = 0) && !s.bars) }

theorem tick_eq (s : Snd) (hm : Man s) (hc : 0 ≤ s.count ∧ s.count ≤ lastC s) : sTick s = tickS s := by
  have hl : lastC s ≤ 37281 := by unfold lastC; split <;> omega
  have e : IntKind.i64.wrap (s.count + 1) = s.count + 1 := i64_in _ (by omega)
  unfold sTick tickS beat
  rcases hm with hm | hm
  · have hL : lastC s = 29829 := by unfold lastC; rw [if_neg (by omega)]
    rw [if_neg (by omega), hL]
    unfold sTick_0
    rw [e]
    by_cases h1 : s.count + 1 = 7457
    · cases hi : s.irq <;> simp [h1]
    by_cases h2 : s.count + 1 = 14913
    · cases hi : s.irq <;> simp [h2]
    by_cases h3 : s.count + 1 = 22371
    · cases hi : s.irq <;> simp [h3]
    by_cases h4 : s.count + 1 = 29829
    · cases hi : s.irq <;> simp [h4, hm]
    · have b1 : (s.count + 1 != 7457) = true := by simpa using h1
      have b2 : (s.count + 1 != 14913) = true := by simpa using h2
      have b3 : (s.count + 1 != 22371) = true := by simpa using h3
      have b4 : (s.count + 1 != 29829) = true := by simpa using h4
      rw [if_pos b1, if_pos b2, if_pos b3, if_pos b4]
      simp only [h1, h2, h3, h4, or_self, if_false, decide_false, Bool.false_and, Bool.or_false]
      by_cases h5 : s.count + 1 > 29829
      · rw [if_pos (by simpa using h5), if_pos h5]
      · rw [if_neg (by simpa using h5), if_neg h5]
  · have hL : lastC s = 37281 := by unfold lastC; rw [if_pos hm]
    rw [if_pos hm, hL]
    unfold sTick_1
    rw [e]
    have h0 : decide (s.manner = 0) = false := by simp; omega
    rw [h0]
    simp only [Bool.and_false, Bool.false_and, Bool.or_false]
    by_cases h1 : s.count + 1 = 7457
    · cases hi : s.irq <;> simp [h1]
    by_cases h2 : s.count + 1 = 14913
    · cases hi : s.irq <;> simp [h2]
    by_cases h3 : s.count + 1 = 22371
    · cases hi : s.irq <;> simp [h3]
    by_cases h4 : s.count + 1 = 37281
    · cases hi : s.irq <;> simp [h4]
    · have b1 : (s.count + 1 != 7457) = true := by simpa using h1
      have b2 : (s.count + 1 != 14913) = true := by simpa using h2
      have b3 : (s.count + 1 != 22371) = true := by simpa using h3
      have b4 : (s.count + 1 != 37281) = true := by simpa using h4
      rw [if_pos b1, if_pos b2, if_pos b3, if_pos b4]
      simp only [h1, h2, h3, h4, or_self, if_false]
      by_cases h5 : s.count + 1 > 37281
      · rw [if_pos (by simpa using h5), if_pos h5]
      · rw [if_neg (by simpa using h5), if_neg h5]

/-- A cycle. -/
def clockS (s : Snd) : Snd :=
  { tickS s with tones_0 := if s.even = true then tClock (beat s s.tones_0) else beat s s.tones_0, tones_1 := if s.even = true then tClock (beat s s.tones_1) else beat s s.tones_1,
                 tones_2 := tClock (beat s s.tones_2), tones_3 := tClock (beat s s.tones_3), even := !s.even, sample := s.sample.clock }

theorem clock_eq (s : Snd) (hm : Man s) (hc : 0 ≤ s.count ∧ s.count ≤ lastC s) (h : MInv s.sample) : sClock s = clockS s := by
  unfold sClock clockS
  rw [tick_eq s hm hc]
  have e : (tickS s).even = s.even := rfl
  rw [e]
  cases s.even with
  | true =>
    rw [if_pos rfl]
    refine (mclk_eq _ ?_).trans ?_
    · exact h
    · rfl
  | false =>
    rw [if_neg (by decide)]
    refine (mclk_eq _ ?_).trans ?_
    · exact h
    · rfl

end Go.Proofs.YtgpcfjokmonlgaaDoor
