/-
  Layer 11: the reference puts out what the program does; registers alike; what holds at all times. No condition.
-/
import Derived.Test.YtngeghiaakkdbaaDoorTUa
namespace Go.Proofs.YtngeghiaakkdbaaDoor
open Go VX IntWalk
set_option maxRecDepth 100000
set_option linter.unusedSimpArgs false
set_option linter.unusedVariables false

def rOutS (s : ByteArray) (x : RTone) : Int :=
  if ((x.Kind : Int) == 2) = true then
    if (decide ((x.Step : Int) < 16)) = true then
      (IntKind.i64.wrap (15 - x.Step))
    else
      (IntKind.i64.wrap (x.Step - 16))
  else
    if ((x.Kind : Int) == 3) = true then
      if (decide ((x.Length : Int) > 0)) = true then
        if (!(((x.Row 0) : Int) == 0)) = true then
          0
        else
          if (((Int.tmod (IntKind.i64.wrap (Int.tdiv (x.Reg 0) 16)) 2) : Int) == 1) = true then
            (Int.tmod (x.Reg 0) 16)
          else
            x.Level
      else
        0
    else
      if (decide ((x.Length : Int) > 0)) = true then
        if (!(rMute x)) = true then
          if (!(((strAt s (Int.toNat x.Step)) : Int) == 49)) = true then
            0
          else
            if (((Int.tmod (IntKind.i64.wrap (Int.tdiv (x.Reg 0) 16)) 2) : Int) == 1) = true then
              (Int.tmod (x.Reg 0) 16)
            else
              x.Level
        else
          0
      else
        0

def strD (d : Nat) : ByteArray := [⟨#[48, 49, 48, 48, 48, 48, 48, 48]⟩, ⟨#[48, 49, 49, 48, 48, 48, 48, 48]⟩, ⟨#[48, 49, 49, 49, 49, 48, 48, 48]⟩, ⟨#[49, 48, 48, 49, 49, 49, 49, 49]⟩].getD d ⟨#[]⟩

theorem str_bit : ∀ (d : Fin 4) (s : Fin 8), ((strAt (strD d.val) s.val : Int) == 49) = dbit (d.val : Int) (s.val : Int) := by decide +kernel

theorem emb_outS {t : Tone} (h : Inv t) (d : Int) (hd : d = t.reg 0 / 64) : rOutS (strD d.toNat) (emb t) = tOut t := by
  have hr := h.ok.reg 0
  have hs := h.ok.step
  have hl := h.ok.length
  have hw := h.ok.row
  have e1 : bAnd .u8 (t.reg 0) 16 = t.reg 0 / 16 % 2 * 16 := and8_16 hr
  have e2 : bAnd .u8 (t.reg 0) 15 = t.reg 0 % 16 := and8_15 hr
  have e3 : bShr .u8 (t.reg 0) 6 = t.reg 0 / 64 := shr8_6 _
  unfold rng at hr hs hl hw
  have hst := h.stp
  have e4 : bAnd .u16 t.row 1 = t.row % 2 := and16_1 (by omega)
  have t1 : Int.tmod (t.reg 0) 16 = t.reg 0 % 16 := Int.tmod_eq_emod_of_nonneg hr.1
  have t2 : Int.tmod (IntKind.i64.wrap (Int.tdiv (t.reg 0) 16)) 2 = t.reg 0 / 16 % 2 := by
    rw [Int.tdiv_eq_ediv_of_nonneg hr.1, i64_in _ (by omega), Int.tmod_eq_emod_of_nonneg (by omega)]
  have vol : tVolume t = if t.reg 0 / 16 % 2 == 1 then t.reg 0 % 16 else t.level := by
    unfold tVolume
    rw [e1, e2]
    by_cases hv : t.reg 0 / 16 % 2 = 1
    · rw [hv]; rfl
    · have hv' : t.reg 0 / 16 % 2 = 0 := by omega
      rw [hv']; rfl
  have f0 : (emb t).Reg 0 = t.reg 0 := rfl
  have fk : (emb t).Kind = t.kind := rfl
  have fl : (emb t).Length = t.length := rfl
  have fs : (emb t).Step = t.step := rfl
  have fv : (emb t).Level = t.level := rfl
  have fr : (emb t).Row 0 = t.row % 2 := rfl
  unfold rOutS
  simp only [f0, fk, fl, fs, fv, fr, t1, t2]
  by_cases k2 : t.kind = 2
  · have c1 : (t.kind == 2) = true := by simpa using k2
    unfold tOut
    simp only [c1, ↓reduceIte]
    by_cases h16 : t.step < 16
    · have c2 : decide (t.step < 16) = true := by simpa using h16
      simp only [c2, ↓reduceIte]
      rw [i64_in _ (by omega), u8_in _ (by omega)]
    · have c2 : decide (t.step < 16) = false := by simpa using h16
      simp only [c2, ↓reduceIte, Bool.false_eq_true]
      rw [i64_in _ (by omega), u8_in _ (by omega)]
  · have c1 : (t.kind == 2) = false := by simpa using k2
    by_cases hz : 0 < t.length
    · have c5 : decide (t.length > 0) = true := by simpa using hz
      have c6 : (t.length == 0) = false := by simp; omega
      by_cases k3 : t.kind = 3
      · have c3 : (t.kind == 3) = true := by simpa using k3
        have c4 : (t.kind != 3) = false := by rw [k3]; rfl
        unfold tOut
        simp only [c1, c3, c4, c5, c6, e4, ↓reduceIte, Bool.false_eq_true]
        have c7 : (!(t.row % 2 == 0)) = (t.row % 2 != 0) := rfl
        rw [c7, vol]
      · have c3 : (t.kind == 3) = false := by simpa using k3
        simp only [c1, c3, c5, ↓reduceIte, Bool.false_eq_true]
        rw [out_pulse t (by have := h.kind; omega) hz, emb_mute h k3, e3, ← hd, vol]
        have hs8 := h.stp8 k2
        have hb := str_bit ⟨d.toNat, by omega⟩ ⟨t.step.toNat, by omega⟩
        simp only at hb
        rw [Int.toNat_of_nonneg (by omega), Int.toNat_of_nonneg (by omega)] at hb
        rw [hb]
        cases tMute t <;> cases dbit d t.step <;> simp
    · have c5 : decide (t.length > 0) = false := by simpa using hz
      have c6 : (t.length == 0) = true := by simp; omega
      unfold tOut
      simp only [c1, c5, c6, ↓reduceIte, Bool.false_eq_true]
      split <;> rfl

theorem emb_out {t : Tone} (h : Inv t) : rOut (emb t) = tOut t := by
  have hr := h.ok.reg 0
  unfold rng at hr
  have f0 : (emb t).Reg 0 = t.reg 0 := rfl
  have H := emb_outS h _ rfl
  unfold rOut
  rw [f0]
  obtain e | e | e | e : t.reg 0 / 64 = 0 ∨ t.reg 0 / 64 = 1 ∨ t.reg 0 / 64 = 2 ∨ t.reg 0 / 64 = 3 := by omega
  all_goals (rw [e] at H ⊢; exact H)

theorem tOut_rng {t : Tone} (h : Inv t) : 0 ≤ tOut t ∧ tOut t < 256 := tOut_w t h.ok

theorem like_true {t : Tone} (h : Inv t) : lLike t (emb t) = true := by
  have ho := tOut_rng h
  unfold lLike
  rw [emb_out h, i64_in _ (by omega)]
  simp
  rfl

-- ---------------------------------------------------------------- registers

theorem length_alike (b : Int) (hb : 0 ≤ b ∧ b < 256) : rLength (IntKind.i64.wrap (Int.tdiv b 8)) = lengthsT (Int.toNat (bShr .u8 b 3)) := by
  rw [Int.tdiv_eq_ediv_of_nonneg hb.1, i64_in _ (by omega), shr8_3]
  have : ∀ m : Fin 32, rLength (m.val : Int) = lengthsT (m.val : Int).toNat := by decide +kernel
  have := this ⟨(b / 8).toNat, by omega⟩
  simp only at this
  rwa [Int.toNat_of_nonneg (by omega)] at this

theorem slow_alike (n : Int) (hn : 0 ≤ n ∧ n < 16) : rSlow n = noisesT n.toNat - 1 ∧ 0 < noisesT n.toNat ∧ noisesT n.toNat < 65536 := by
  have : ∀ m : Fin 16, rSlow (m.val : Int) = noisesT (m.val : Int).toNat - 1 ∧ 0 < noisesT (m.val : Int).toNat ∧ noisesT (m.val : Int).toNat < 65536 := by decide +kernel
  have := this ⟨n.toNat, by omega⟩
  simp only at this
  rwa [Int.toNat_of_nonneg hn.1] at this

theorem emb_put {t : Tone} (h : Inv t) (reg b : Int) (hreg : 0 ≤ reg ∧ reg < 256) (hb : 0 ≤ b ∧ b < 256) : rPut (emb t) reg b = emb (tPut t reg b) := by
  have hp := h.ok.period
  have hr2 := h.ok.reg 2
  unfold rng at hp hr2
  have fk : (emb t).Kind = t.kind := rfl
  have fo : (emb t).On = t.on := rfl
  have fp : (emb t).Period = t.period := rfl
  have w1 : IntKind.i64.wrap reg = reg := i64_in _ (by omega)
  unfold rPut tPut
  rw [w1, length_alike b hb]
  simp only [fk, fo, fp]
  by_cases h4 : 3 < reg
  · have c1 : decide (reg > 3) = true := by simpa using h4
    have c2 : decide (reg ≥ 4) = true := by simp; omega
    simp only [c1, c2, ↓reduceIte]; rfl
  · have c1 : decide (reg > 3) = false := by simpa using h4
    have c2 : decide (reg ≥ 4) = false := by simp; omega
    simp only [c1, c2, ↓reduceIte, Bool.false_eq_true]
    have q1 : IntKind.i64.wrap (IntKind.i64.wrap (Int.tdiv t.period 256) * 256) = t.period / 256 * 256 := by
      rw [Int.tdiv_eq_ediv_of_nonneg hp.1, i64_in (t.period / 256) (by omega), i64_in _ (by omega)]
    have q2 : IntKind.i64.wrap (t.period / 256 * 256 + b) = t.period / 256 * 256 + b := i64_in _ (by omega)
    have q3 : Int.tmod b 8 = b % 8 := Int.tmod_eq_emod_of_nonneg hb.1
    have q4 : IntKind.i64.wrap (b % 8 * 256) = b % 8 * 256 := i64_in _ (by omega)
    have q5 : Int.tmod t.period 256 = t.period % 256 := Int.tmod_eq_emod_of_nonneg hp.1
    have q6 : IntKind.i64.wrap (t.period % 256 + b % 8 * 256) = t.period % 256 + b % 8 * 256 := i64_in _ (by omega)
    have p2 := put2_eq t.period b (by omega) hb
    have p3 := put3_eq t.period b (by omega) hb
    simp only [q1, q2, q3, q4, q5, q6]
    -- a noise's period, whatever is put
    have other : t.kind = 3 → ∀ v, v = t.reg 2 → rSlow (Int.tmod v 16) = t.period := by
      rintro k3 v rfl
      rw [Int.tmod_eq_emod_of_nonneg hr2.1, (slow_alike _ (by omega)).1, h.noi k3]
    have e3 : reg = 0 ∨ reg = 1 ∨ reg = 2 ∨ reg = 3 := by omega
    rcases e3 with rfl | rfl | rfl | rfl
    · by_cases k3 : t.kind = 3
      · have c3 : (t.kind == 3) = true := by simpa using k3
        simp only [c3, ↓reduceIte, show ((0 : Int) == 1) = false from rfl, show ((0 : Int) == 2) = false from rfl, show ((0 : Int) == 3) = false from rfl, Bool.false_eq_true]
        rw [other k3 (upd (emb t).Reg (Int.toNat 0) b 2) rfl]; rfl
      · have c3 : (t.kind == 3) = false := by simpa using k3
        simp only [c3, ↓reduceIte, show ((0 : Int) == 1) = false from rfl, show ((0 : Int) == 2) = false from rfl, show ((0 : Int) == 3) = false from rfl, Bool.false_eq_true]; rfl
    · by_cases k3 : t.kind = 3
      · have c3 : (t.kind == 3) = true := by simpa using k3
        simp only [c3, ↓reduceIte, show ((1 : Int) == 1) = true from rfl, show ((1 : Int) == 2) = false from rfl, show ((1 : Int) == 3) = false from rfl, Bool.false_eq_true]
        rw [other k3 (upd (emb t).Reg (Int.toNat 1) b 2) rfl]; rfl
      · have c3 : (t.kind == 3) = false := by simpa using k3
        simp only [c3, ↓reduceIte, show ((1 : Int) == 1) = true from rfl, show ((1 : Int) == 2) = false from rfl, show ((1 : Int) == 3) = false from rfl, Bool.false_eq_true]; rfl
    · by_cases k3 : t.kind = 3
      · have c3 : (t.kind == 3) = true := by simpa using k3
        simp only [c3, ↓reduceIte, show ((2 : Int) == 1) = false from rfl, show ((2 : Int) == 2) = true from rfl, show ((2 : Int) == 3) = false from rfl, Bool.false_eq_true]
        have hv : (upd (emb t).Reg (Int.toNat 2) b) 2 = b := rfl
        have hsl := slow_alike (b % 16) (by omega)
        have h15 : bAnd .u8 b 15 = b % 16 := and8_15 ⟨hb.1, hb.2⟩
        rw [hv, Int.tmod_eq_emod_of_nonneg hb.1, hsl.1, h15, u16_in _ (by omega)]; rfl
      · have c3 : (t.kind == 3) = false := by simpa using k3
        simp only [c3, ↓reduceIte, show ((2 : Int) == 1) = false from rfl, show ((2 : Int) == 2) = true from rfl, show ((2 : Int) == 3) = false from rfl, Bool.false_eq_true]
        rw [p2]; rfl
    · simp only [↓reduceIte, show ((3 : Int) == 1) = false from rfl, show ((3 : Int) == 2) = false from rfl, show ((3 : Int) == 3) = true from rfl, Bool.false_eq_true]
      unfold tHigh
      simp only [p3]
      by_cases k3 : t.kind = 3
      · have c3 : (t.kind == 3) = true := by simpa using k3
        have c4 : (t.kind != 3) = false := by rw [k3]; rfl
        have c5 : decide (t.kind < 2) = false := by simp; omega
        have c6 : decide (t.kind ≤ 1) = false := by simp; omega
        simp only [c3, c4, c5, c6, ↓reduceIte, Bool.false_eq_true]
        rw [other k3 (upd (emb t).Reg (Int.toNat 3) b 2) rfl]
        cases ho : t.on <;> simp only [↓reduceIte, Bool.false_eq_true] <;> rfl
      · have c3 : (t.kind == 3) = false := by simpa using k3
        have c4 : (t.kind != 3) = true := by simpa using k3
        have c7 : decide (t.kind < 2) = decide (t.kind ≤ 1) := by
          by_cases hk : t.kind < 2
          · have a1 : decide (t.kind < 2) = true := by simpa using hk
            have a2 : decide (t.kind ≤ 1) = true := by simp; omega
            rw [a1, a2]
          · have a1 : decide (t.kind < 2) = false := by simpa using hk
            have a2 : decide (t.kind ≤ 1) = false := by simp; omega
            rw [a1, a2]
        simp only [c3, c4, c7, ↓reduceIte, Bool.false_eq_true]
        cases ho : t.on <;> cases hk : decide (t.kind ≤ 1) <;> simp only [↓reduceIte, Bool.false_eq_true] <;> rfl

end Go.Proofs.YtngeghiaakkdbaaDoor
