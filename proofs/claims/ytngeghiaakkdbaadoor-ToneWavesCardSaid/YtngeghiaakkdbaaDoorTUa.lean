/-
  Layer 11: the reference's halves, clocks and puts are the program's ones. No condition.
-/
import Derived.Test.YtngeghiaakkdbaaDoorTU
namespace Go.Proofs.YtngeghiaakkdbaaDoor
open Go VX IntWalk
set_option maxRecDepth 100000
set_option linter.unusedSimpArgs false
set_option linter.unusedVariables false

theorem rMute_len {x : RTone} (n : Int) : rMute ({ x with Length := n } : RTone) = rMute x := rfl
theorem rTarget_len {x : RTone} (n : Int) : rTarget ({ x with Length := n } : RTone) = rTarget x := rfl
theorem tMute_len {t : Tone} (n : Int) : tMute ({ t with length := n } : Tone) = tMute t := rfl
theorem tTarget_len {t : Tone} (n : Int) : tTarget ({ t with length := n } : Tone) = tTarget t := rfl

theorem emb_half {t : Tone} (h : Inv t) : rHalf (emb t) = emb (tHalf t) := by
  have hr := h.ok.reg 0
  have hs := h.ok.reg 1
  have hl := h.ok.length
  have hw := h.ok.sweep
  have e1 : bAnd .u8 (t.reg 0) 128 = t.reg 0 / 128 % 2 * 128 := and8_128 hr
  have e2 : bAnd .u8 (t.reg 0) 32 = t.reg 0 / 32 % 2 * 32 := and8_32 hr
  have e3 : bAnd .u8 (t.reg 1) 128 = t.reg 1 / 128 % 2 * 128 := and8_128 hs
  have e4 : bAnd .u8 (t.reg 1) 7 = t.reg 1 % 8 := and8_7 hs
  have e5 : bAnd .u8 (bShr .u8 (t.reg 1) 4) 7 = t.reg 1 / 16 % 8 := by rw [shr8_4]; exact and8_7 (by unfold rng at hs; omega)
  unfold rng at hr hs hl hw
  have t1 : Int.tmod (t.reg 1) 8 = t.reg 1 % 8 := Int.tmod_eq_emod_of_nonneg hs.1
  have t2 : Int.tmod (IntKind.i64.wrap (Int.tdiv (t.reg 1) 16)) 8 = t.reg 1 / 16 % 8 := by
    rw [Int.tdiv_eq_ediv_of_nonneg hs.1, i64_in _ (by omega), Int.tmod_eq_emod_of_nonneg (by omega)]
  have t3 : Int.tmod (IntKind.i64.wrap (Int.tdiv (t.reg 0) 32)) 2 = t.reg 0 / 32 % 2 := by
    rw [Int.tdiv_eq_ediv_of_nonneg hr.1, i64_in _ (by omega), Int.tmod_eq_emod_of_nonneg (by omega)]
  have w1 : IntKind.i64.wrap (t.length - 1) = t.length - 1 := i64_in _ (by omega)
  have w2 : IntKind.i64.wrap (t.sweep - 1) = t.sweep - 1 := i64_in _ (by omega)
  have u1 : 0 < t.length → IntKind.u8.wrap (t.length - 1) = t.length - 1 := fun h => u8_in _ (by omega)
  have u2 : ¬ t.sweep = 0 → IntKind.u8.wrap (t.sweep - 1) = t.sweep - 1 := fun h => u8_in _ (by omega)
  have f0 : (emb t).Reg 0 = t.reg 0 := rfl
  have f1 : (emb t).Reg 1 = t.reg 1 := rfl
  have f2 : (emb t).Reg 2 = t.reg 2 := rfl
  have f3 : (emb t).Reg 3 = t.reg 3 := rfl
  have fk : (emb t).Kind = t.kind := rfl
  have fl : (emb t).Length = t.length := rfl
  have fs : (emb t).Sweep = t.sweep := rfl
  have fw : (emb t).Swept = t.swept := rfl
  unfold rHalf tHalf
  simp only [rMute_len, rTarget_len, tMute_len, tTarget_len]
  simp only [f0, f1, f2, f3, fk, fl, fs, fw, e1, e2, e3, e4, e5, t1, t2, t3, w1, w2]
  have hm : (if 0 > t.length - 1 then 0 else t.length - 1) = if 0 < t.length then t.length - 1 else t.length := by split <;> split <;> omega
  simp only [hm]
  by_cases k2 : t.kind = 2
  · have c1 : (t.kind == 2) = true := by simpa using k2
    have c2 : decide (t.kind > 1) = true := by simp; omega
    simp only [c1, c2, ↓reduceIte]
    by_cases hh : t.reg 0 < 128
    · have c3 : (!decide (t.reg 0 ≥ 128)) = true := by simp; omega
      have c4 : (t.reg 0 / 128 % 2 * 128 == 0) = true := by simp; omega
      simp only [c3, c4, ↓reduceIte]
      by_cases hz : 0 < t.length
      · have c5 : decide (t.length > 0) = true := by simpa using hz
        simp only [c5, hz, u1 hz, ↓reduceIte, decide_true]; rfl
      · have c5 : decide (t.length > 0) = false := by simpa using hz
        simp only [c5, hz, ↓reduceIte, Bool.false_eq_true, decide_false]; rfl
    · have c3 : (!decide (t.reg 0 ≥ 128)) = false := by simp; omega
      have c4 : (t.reg 0 / 128 % 2 * 128 == 0) = false := by simp; omega
      simp only [c3, c4, ↓reduceIte, Bool.false_eq_true]
      split <;> rfl
  · have c1 : (t.kind == 2) = false := by simpa using k2
    simp only [c1, ↓reduceIte, Bool.false_eq_true]
    -- is it held?
    have held : ∀ (L : Int), ({ emb t with Reg := CH t.reg, Length := L } : RTone) = emb ({ t with length := L } : Tone) := fun L => rfl
    by_cases k3 : t.kind = 3
    · have c2 : decide (t.kind > 1) = true := by simp; omega
      simp only [c2, ↓reduceIte]
      by_cases hh : t.reg 0 / 32 % 2 = 1
      · have c3 : (!(t.reg 0 / 32 % 2 == 1)) = false := by simp; exact hh
        have c4 : (t.reg 0 / 32 % 2 * 32 == 0) = false := by simp; omega
        simp only [c3, c4, ↓reduceIte, Bool.false_eq_true]
        split <;> rfl
      · have c3 : (!(t.reg 0 / 32 % 2 == 1)) = true := by simp; exact hh
        have c4 : (t.reg 0 / 32 % 2 * 32 == 0) = true := by simp; omega
        simp only [c3, c4, ↓reduceIte]
        by_cases hz : 0 < t.length
        · have c5 : decide (t.length > 0) = true := by simpa using hz
          simp only [c5, hz, u1 hz, ↓reduceIte, decide_true]; rfl
        · have c5 : decide (t.length > 0) = false := by simpa using hz
          simp only [c5, hz, ↓reduceIte, Bool.false_eq_true, decide_false]; rfl
    · have c2 : decide (t.kind > 1) = false := by have := h.kind; simp; omega
      simp only [c2, ↓reduceIte, Bool.false_eq_true]
      rw [emb_mute h k3, emb_target h k3]
      have c7 : decide (t.reg 1 % 8 > 0) = (t.reg 1 % 8 != 0) := by
        by_cases hq : t.reg 1 % 8 = 0
        · rw [hq]; rfl
        · have a1 : decide (t.reg 1 % 8 > 0) = true := by simp; omega
          have a2 : (t.reg 1 % 8 != 0) = true := by simpa using hq
          rw [a1, a2]
      have c8 : decide (t.reg 1 ≥ 128) = (t.reg 1 / 128 % 2 * 128 != 0) := by
        by_cases hq : t.reg 1 < 128
        · have a1 : decide (t.reg 1 ≥ 128) = false := by simp; omega
          have a2 : (t.reg 1 / 128 % 2 * 128 != 0) = false := by simp; omega
          rw [a1, a2]
        · have a1 : decide (t.reg 1 ≥ 128) = true := by simp; omega
          have a2 : (t.reg 1 / 128 % 2 * 128 != 0) = true := by simp; omega
          rw [a1, a2]
      simp only [c7, c8]
      by_cases hh : t.reg 0 / 32 % 2 = 1
      · have c3 : (!(t.reg 0 / 32 % 2 == 1)) = false := by simp; exact hh
        have c4 : (t.reg 0 / 32 % 2 * 32 == 0) = false := by simp; omega
        simp only [c3, c4, ↓reduceIte, Bool.false_eq_true]
        by_cases hz : 0 < t.length
        all_goals
          first
            | (have c5 : decide (t.length > 0) = true := by simpa using hz
               simp only [c5, ↓reduceIte])
            | (have c5 : decide (t.length > 0) = false := by simpa using hz
               simp only [c5, ↓reduceIte, Bool.false_eq_true])
          by_cases hsw : t.sweep = 0
          · have c6 : (t.sweep == 0) = true := by simpa using hsw
            simp only [c6, ↓reduceIte]
            (repeat' split) <;> rfl
          · have c6 : (t.sweep == 0) = false := by simpa using hsw
            simp only [c6, u2 hsw, ↓reduceIte, Bool.false_eq_true]
            cases hp : t.swept <;> simp only [↓reduceIte, Bool.false_eq_true] <;> first | rfl | (simp [emb, hp]; rfl)
      · have c3 : (!(t.reg 0 / 32 % 2 == 1)) = true := by simp; exact hh
        have c4 : (t.reg 0 / 32 % 2 * 32 == 0) = true := by simp; omega
        simp only [c3, c4, ↓reduceIte]
        by_cases hz : 0 < t.length
        all_goals
          first
            | (have c5 : decide (t.length > 0) = true := by simpa using hz
               simp only [c5, hz, u1 hz, ↓reduceIte, decide_true])
            | (have c5 : decide (t.length > 0) = false := by simpa using hz
               simp only [c5, hz, ↓reduceIte, Bool.false_eq_true, decide_false])
          by_cases hsw : t.sweep = 0
          · have c6 : (t.sweep == 0) = true := by simpa using hsw
            simp only [c6, ↓reduceIte]
            (repeat' split) <;> rfl
          · have c6 : (t.sweep == 0) = false := by simpa using hsw
            simp only [c6, u2 hsw, ↓reduceIte, Bool.false_eq_true]
            cases hp : t.swept <;> simp only [↓reduceIte, Bool.false_eq_true] <;> first | rfl | (simp [emb, hp]; rfl)

theorem bit_stp (tap r : Nat) (j : Nat) (hj : j < 14) : stp tap r / 2 ^ j % 2 = r / 2 ^ (j + 1) % 2 := by
  unfold stp
  have e : 16384 = 2 ^ (j + 1) * 2 ^ (13 - j) := by
    have e1 : j + 1 + (13 - j) = 14 := by omega
    rw [← Nat.pow_add, e1]
  generalize (r % 2 + r / 2 ^ tap % 2) % 2 = c
  have e2 : c * 16384 = 2 ^ j * (2 * (2 ^ (13 - j) * c)) := by rw [e, Nat.pow_succ]; simp only [Nat.mul_assoc, Nat.mul_comm, Nat.mul_left_comm]
  rw [e2, Nat.add_mul_div_left _ _ (Nat.pow_pos (by decide)), Nat.div_div_eq_div_mul, Nat.mul_comm 2 (2 ^ j), ← Nat.pow_succ]
  exact Nat.add_mul_mod_self_left _ _ _

theorem top_stp (tap r : Nat) (hr : r < 32768) : stp tap r / 16384 % 2 = (r % 2 + r / 2 ^ tap % 2) % 2 := by
  unfold stp
  have hc : (r % 2 + r / 2 ^ tap % 2) % 2 < 2 := Nat.mod_lt _ (by decide)
  generalize (r % 2 + r / 2 ^ tap % 2) % 2 = c at hc ⊢
  omega

theorem rowF_stp (tap : Nat) (ht : tap = 1 ∨ tap = 6) (r : Nat) (hr : r < 32768) :
    (fun j => List.getD [rowF r 1, rowF r 2, rowF r 3, rowF r 4, rowF r 5, rowF r 6, rowF r 7, rowF r 8, rowF r 9, rowF r 10, rowF r 11, rowF r 12, rowF r 13, rowF r 14, Int.tmod (IntKind.i64.wrap (rowF r 0 + rowF r tap)) 2] j 0) = rowF ((stp tap r : Nat) : Int) := by
  have b : ∀ j, j < 14 → (((stp tap r : Nat) : Int) / ((2 ^ j : Nat) : Int) % 2) = ((r : Int) / ((2 ^ (j + 1) : Nat) : Int) % 2) := by
    intro j hj
    have := bit_stp tap r j hj
    have e1 : (((stp tap r : Nat) : Int) / ((2 ^ j : Nat) : Int) % 2) = ((stp tap r / 2 ^ j % 2 : Nat) : Int) := by norm_cast
    have e2 : ((r : Int) / ((2 ^ (j + 1) : Nat) : Int) % 2) = ((r / 2 ^ (j + 1) % 2 : Nat) : Int) := by norm_cast
    rw [e1, e2, this]
  have b0 := b 0 (by decide)
  have b1 := b 1 (by decide)
  have b2 := b 2 (by decide)
  have b3 := b 3 (by decide)
  have b4 := b 4 (by decide)
  have b5 := b 5 (by decide)
  have b6 := b 6 (by decide)
  have b7 := b 7 (by decide)
  have b8 := b 8 (by decide)
  have b9 := b 9 (by decide)
  have b10 := b 10 (by decide)
  have b11 := b 11 (by decide)
  have b12 := b 12 (by decide)
  have b13 := b 13 (by decide)
  have b14 : ((stp tap r : Nat) : Int) / 16384 % 2 = Int.tmod (IntKind.i64.wrap (rowF r 0 + rowF r tap)) 2 := by
    have hn := top_stp tap r hr
    have e1 : rowF r tap = ((r / 2 ^ tap % 2 : Nat) : Int) := by
      rcases ht with rfl | rfl
      · show (r : Int) / 2 % 2 = _; norm_cast
      · show (r : Int) / 64 % 2 = _; norm_cast
    have e0 : rowF r 0 = ((r % 2 : Nat) : Int) := by show (r : Int) % 2 = _; norm_cast
    have hc : ((stp tap r : Nat) : Int) / 16384 % 2 = ((stp tap r / 16384 % 2 : Nat) : Int) := by norm_cast
    rw [hc, hn, e0, e1, i64_in _ (by omega), Int.tmod_eq_emod_of_nonneg (by omega)]
    norm_cast
  have c0 : ((stp tap r : Nat) : Int) % 2 = (r : Int) / 2 % 2 := by simpa using b0
  funext j
  show List.getD [(r : Int) / 2 % 2, (r : Int) / 4 % 2, (r : Int) / 8 % 2, (r : Int) / 16 % 2, (r : Int) / 32 % 2, (r : Int) / 64 % 2, (r : Int) / 128 % 2, (r : Int) / 256 % 2, (r : Int) / 512 % 2, (r : Int) / 1024 % 2, (r : Int) / 2048 % 2, (r : Int) / 4096 % 2, (r : Int) / 8192 % 2, (r : Int) / 16384 % 2, Int.tmod (IntKind.i64.wrap (rowF r 0 + rowF r tap)) 2] j 0 = List.getD [((stp tap r : Nat) : Int) % 2, ((stp tap r : Nat) : Int) / 2 % 2, ((stp tap r : Nat) : Int) / 4 % 2, ((stp tap r : Nat) : Int) / 8 % 2, ((stp tap r : Nat) : Int) / 16 % 2, ((stp tap r : Nat) : Int) / 32 % 2, ((stp tap r : Nat) : Int) / 64 % 2, ((stp tap r : Nat) : Int) / 128 % 2, ((stp tap r : Nat) : Int) / 256 % 2, ((stp tap r : Nat) : Int) / 512 % 2, ((stp tap r : Nat) : Int) / 1024 % 2, ((stp tap r : Nat) : Int) / 2048 % 2, ((stp tap r : Nat) : Int) / 4096 % 2, ((stp tap r : Nat) : Int) / 8192 % 2, ((stp tap r : Nat) : Int) / 16384 % 2] j 0
  rw [b14, c0]
  have d1 : ((stp tap r : Nat) : Int) / 2 % 2 = (r : Int) / 4 % 2 := b1
  have d2 : ((stp tap r : Nat) : Int) / 4 % 2 = (r : Int) / 8 % 2 := b2
  have d3 : ((stp tap r : Nat) : Int) / 8 % 2 = (r : Int) / 16 % 2 := b3
  have d4 : ((stp tap r : Nat) : Int) / 16 % 2 = (r : Int) / 32 % 2 := b4
  have d5 : ((stp tap r : Nat) : Int) / 32 % 2 = (r : Int) / 64 % 2 := b5
  have d6 : ((stp tap r : Nat) : Int) / 64 % 2 = (r : Int) / 128 % 2 := b6
  have d7 : ((stp tap r : Nat) : Int) / 128 % 2 = (r : Int) / 256 % 2 := b7
  have d8 : ((stp tap r : Nat) : Int) / 256 % 2 = (r : Int) / 512 % 2 := b8
  have d9 : ((stp tap r : Nat) : Int) / 512 % 2 = (r : Int) / 1024 % 2 := b9
  have d10 : ((stp tap r : Nat) : Int) / 1024 % 2 = (r : Int) / 2048 % 2 := b10
  have d11 : ((stp tap r : Nat) : Int) / 2048 % 2 = (r : Int) / 4096 % 2 := b11
  have d12 : ((stp tap r : Nat) : Int) / 4096 % 2 = (r : Int) / 8192 % 2 := b12
  have d13 : ((stp tap r : Nat) : Int) / 8192 % 2 = (r : Int) / 16384 % 2 := b13
  rw [d1, d2, d3, d4, d5, d6, d7, d8, d9, d10, d11, d12, d13]

theorem emb_clock {t : Tone} (h : Inv t) : rClock (emb t) = emb (tClock t) := by
  have hr := h.ok.reg 2
  have ht := h.ok.timer
  have hs := h.ok.step
  have hw := h.ok.row
  have e1 : bAnd .u8 (t.reg 2) 128 = t.reg 2 / 128 % 2 * 128 := and8_128 hr
  unfold rng at hr ht hs hw
  have w1 : IntKind.i64.wrap (t.timer - 1) = t.timer - 1 := i64_in _ (by omega)
  have u1 : 0 < t.timer → IntKind.u16.wrap (t.timer - 1) = t.timer - 1 := fun h => u16_in _ (by omega)
  have hst := h.stp
  have w2 : IntKind.i64.wrap (t.step + 1) = t.step + 1 := i64_in _ (by omega)
  have u2 : IntKind.u8.wrap (t.step + 1) = t.step + 1 := u8_in _ (by omega)
  have f2 : (emb t).Reg 2 = t.reg 2 := rfl
  have fk : (emb t).Kind = t.kind := rfl
  have fl : (emb t).Length = t.length := rfl
  have fi : (emb t).Line = t.line := rfl
  have ft : (emb t).Timer = t.timer := rfl
  have fs : (emb t).Step = t.step := rfl
  unfold rClock tClock
  simp only [f2, fk, fl, fi, ft, fs, e1, w1, w2, u2]
  by_cases hz : 0 < t.timer
  · have c5 : decide (t.timer > 0) = true := by simpa using hz
    simp only [c5, u1 hz, ↓reduceIte]; rfl
  · have c5 : decide (t.timer > 0) = false := by simpa using hz
    simp only [c5, ↓reduceIte, Bool.false_eq_true]
    by_cases k2 : t.kind = 2
    · have c1 : (t.kind == 2) = true := by simpa using k2
      simp only [c1, ↓reduceIte]
      split
      · split <;> rfl
      · rfl
    · have c1 : (t.kind == 2) = false := by simpa using k2
      simp only [c1, ↓reduceIte, Bool.false_eq_true]
      by_cases k3 : t.kind = 3
      · have c2 : (t.kind == 3) = true := by simpa using k3
        simp only [c2, ↓reduceIte]
        obtain ⟨r, hrow⟩ := Int.eq_ofNat_of_zero_le hw.1
        have hr32 : r < 32768 := by have := h.row; omega
        by_cases h128 : t.reg 2 < 128
        · have c3 : decide (t.reg 2 ≥ 128) = false := by simp; omega
          have c4 : (t.reg 2 / 128 % 2 * 128 != 0) = false := by simp; omega
          simp only [c3, c4, ↓reduceIte, Bool.false_eq_true]
          have q := row_eq 1 (.inl rfl) r hr32
          rw [show ((1 : Nat) : Int) = 1 from rfl] at q
          rw [hrow, q]
          have q2 := rowF_stp 1 (.inl rfl) r hr32
          have fr : (emb t).Row = rowF r := by show rowF t.row = _; rw [hrow]
          rw [fr, q2]; rfl
        · have c3 : decide (t.reg 2 ≥ 128) = true := by simp; omega
          have c4 : (t.reg 2 / 128 % 2 * 128 != 0) = true := by simp; omega
          simp only [c3, c4, ↓reduceIte]
          have q := row_eq 6 (.inr rfl) r hr32
          rw [show ((6 : Nat) : Int) = 6 from rfl] at q
          rw [hrow, q]
          have q2 := rowF_stp 6 (.inr rfl) r hr32
          have fr : (emb t).Row = rowF r := by show rowF t.row = _; rw [hrow]
          rw [fr, q2]; rfl
      · have c2 : (t.kind == 3) = false := by simpa using k3
        simp only [c2, ↓reduceIte, Bool.false_eq_true]; rfl

end Go.Proofs.YtngeghiaakkdbaaDoor
