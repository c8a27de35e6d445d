/-
  Layer 11: the reference's voice is the program's one, seen in numbers: operation by operation. No condition.
-/
import Derived.Test.YtngeghiaakkdbaaDoorTS
import Derived.Test.YtngeghiaakkdbaaDoorTH
import Derived.Test.YtngeghiaakkdbaaDoorTRow
namespace Go.Proofs.YtngeghiaakkdbaaDoor
open Go VX IntWalk
set_option maxRecDepth 100000
set_option linter.unusedSimpArgs false
set_option linter.unusedVariables false

/-- Four registers. -/
def CH (r : Nat → Int) : Nat → Int := upd (upd (upd (upd (fun _ => 0) 0 (r 0)) 1 (r 1)) 2 (r 2)) 3 (r 3)

/-- A row's bits. -/
def rowF (r : Int) : Nat → Int := fun j => List.getD [r % 2, r / 2 % 2, r / 4 % 2, r / 8 % 2, r / 16 % 2, r / 32 % 2, r / 64 % 2, r / 128 % 2, r / 256 % 2, r / 512 % 2, r / 1024 % 2, r / 2048 % 2, r / 4096 % 2, r / 8192 % 2, r / 16384 % 2] j 0

/-- A voice as the reference has it. -/
def emb (t : Tone) : RTone :=
  { Kind := t.kind, On := t.on, Reg := CH t.reg, Length := t.length, Timer := t.timer, Period := t.period, Step := t.step, Anew := t.begins, Swept := t.swept, Level := t.level, Count := t.count, Line := t.line, Sweep := t.sweep, Row := rowF t.row }

/-- What holds of a voice at all times. -/
structure Inv (t : Tone) : Prop where
  ok : Tone.ok t
  kind : 0 ≤ t.kind ∧ t.kind ≤ 3
  per : t.kind ≠ 3 → t.period < 2048
  noi : t.kind = 3 → t.period = noisesT (t.reg 2 % 16).toNat - 1
  stp : t.step < 32
  stp8 : t.kind ≠ 2 → t.step < 8
  row : t.row < 32768

theorem emb_good {t : Tone} (h : Inv t) : Good (emb t) := by
  have hr := h.ok.reg
  have hp := h.ok.period
  have hs := h.ok.step
  have h1 := h.stp
  have h2 := h.stp8
  unfold rng at hp hs
  refine ⟨fun j => ?_, hp, ⟨hs.1, h1⟩, ?_⟩
  · show 0 ≤ CH t.reg j ∧ CH t.reg j < 256
    have q : ∀ k, 0 ≤ t.reg k ∧ t.reg k < 256 := fun k => by have := hr k; unfold rng at this; exact this
    unfold CH upd
    cases Nat.beq j 3 <;> cases Nat.beq j 2 <;> cases Nat.beq j 1 <;> cases Nat.beq j 0 <;> first | exact q _ | exact ⟨Int.le_refl 0, (by decide : (0 : Int) < 256)⟩
  · by_cases hk : t.kind = 2
    · exact .inl hk
    · exact .inr (h2 hk)

theorem box_CH (r : Nat → Int) : (fun j => List.getD [CH r 0, CH r 1, CH r 2, CH r 3] j 0) = CH r := by
  funext j
  match j with
  | 0 => rfl
  | 1 => rfl
  | 2 => rfl
  | 3 => rfl
  | j + 4 =>
    have e : ∀ k, k < 4 → Nat.beq (j + 4) k = false := fun k hk => by cases h : Nat.beq (j + 4) k with | false => rfl | true => have := Nat.eq_of_beq_eq_true h; omega
    show (0 : Int) = CH r (j + 4)
    unfold CH upd
    rw [e 3 (by decide), e 2 (by decide), e 1 (by decide), e 0 (by decide)]; rfl

theorem box_emb (t : Tone) : ({ emb t with Reg := (fun j => List.getD [((emb t).Reg 0), ((emb t).Reg 1), ((emb t).Reg 2), ((emb t).Reg 3)] j 0) } : RTone) = emb t := by
  have := box_CH t.reg
  show ({ emb t with Reg := (fun j => List.getD [CH t.reg 0, CH t.reg 1, CH t.reg 2, CH t.reg 3] j 0) } : RTone) = emb t
  rw [this]
  rfl

theorem emb_enable (t : Tone) (on : Bool) : rEnable (emb t) on = emb (tEnable t on) := by
  unfold rEnable tEnable
  cases on <;> rfl

theorem emb_quarter {t : Tone} (h : Inv t) : rQuarter (emb t) = emb (tQuarter t) := by
  have hr := h.ok.reg 0
  have hl := h.ok.line
  have hc := h.ok.count
  have hv := h.ok.level
  have e1 : bAnd .u8 (t.reg 0) 128 = t.reg 0 / 128 % 2 * 128 := and8_128 hr
  have e2 : bAndNot .u8 (t.reg 0) 128 = t.reg 0 % 128 := not8_128 hr
  have e3 : bAnd .u8 (t.reg 0) 15 = t.reg 0 % 16 := and8_15 hr
  have e4 : bAnd .u8 (t.reg 0) 32 = t.reg 0 / 32 % 2 * 32 := and8_32 hr
  unfold rng at hr hl hc hv
  have t1 : Int.tmod (t.reg 0) 128 = t.reg 0 % 128 := Int.tmod_eq_emod_of_nonneg hr.1
  have t2 : Int.tmod (t.reg 0) 16 = t.reg 0 % 16 := Int.tmod_eq_emod_of_nonneg hr.1
  have t3 : Int.tmod (IntKind.i64.wrap (Int.tdiv (t.reg 0) 32)) 2 = t.reg 0 / 32 % 2 := by
    rw [Int.tdiv_eq_ediv_of_nonneg hr.1, i64_in _ (by omega), Int.tmod_eq_emod_of_nonneg (by omega)]
  have w1 : IntKind.i64.wrap (t.line - 1) = t.line - 1 := i64_in _ (by omega)
  have w2 : IntKind.i64.wrap (t.count - 1) = t.count - 1 := i64_in _ (by omega)
  have w3 : IntKind.i64.wrap (t.level - 1) = t.level - 1 := i64_in _ (by omega)
  have u1 : 0 < t.line → IntKind.u8.wrap (t.line - 1) = t.line - 1 := fun h => u8_in _ (by omega)
  have u2 : 0 < t.count → IntKind.u8.wrap (t.count - 1) = t.count - 1 := fun h => u8_in _ (by omega)
  have u3 : 0 < t.level → IntKind.u8.wrap (t.level - 1) = t.level - 1 := fun h => u8_in _ (by omega)
  have f0 : (emb t).Reg 0 = t.reg 0 := rfl
  have fk : (emb t).Kind = t.kind := rfl
  have fa : (emb t).Anew = t.begins := rfl
  have fl : (emb t).Line = t.line := rfl
  have fc : (emb t).Count = t.count := rfl
  have fv : (emb t).Level = t.level := rfl
  unfold rQuarter tQuarter
  rw [f0, fk, fa, fl, fc, fv, e1, e2, e3, e4, t1, t2, t3, w1, w2, w3]
  by_cases k2 : t.kind = 2
  · have c2 : (t.kind == 2) = true := by simpa using k2
    simp only [c2, ↓reduceIte]
    by_cases hb : t.begins = true
    · simp only [hb, ↓reduceIte]
      by_cases h128 : t.reg 0 < 128
      · have c3 : decide (t.reg 0 < 128) = true := by simpa using h128
        have c4 : (t.reg 0 / 128 % 2 * 128 != 0) = false := by simp; omega
        simp only [c3, c4, ↓reduceIte]; rfl
      · have c3 : decide (t.reg 0 < 128) = false := by simpa using h128
        have c4 : (t.reg 0 / 128 % 2 * 128 != 0) = true := by simp; omega
        simp only [c3, c4, ↓reduceIte, Bool.false_eq_true]
        (first | rfl | (simp [emb, hb]; done) | (simp [emb, hb]; rfl))
    · have hb' : t.begins = false := by simpa using hb
      simp only [hb', ↓reduceIte, Bool.false_eq_true]
      by_cases hz : 0 < t.line
      · have c5 : decide (t.line > 0) = true := by simpa using hz
        have hm : (if 0 > t.line - 1 then 0 else t.line - 1) = t.line - 1 := by rw [if_neg (by omega)]
        simp only [c5, hm, u1 hz, ↓reduceIte]
        split <;> (first | rfl | (simp [emb, hb']; done) | (simp [emb, hb']; rfl))
      · have c5 : decide (t.line > 0) = false := by simpa using hz
        have hm : (if 0 > t.line - 1 then 0 else t.line - 1) = t.line := by rw [if_pos (by omega)]; omega
        simp only [c5, hm, ↓reduceIte, Bool.false_eq_true]
        split <;> (first | rfl | (simp [emb, hb']; done) | (simp [emb, hb']; rfl))
  · have c2 : (t.kind == 2) = false := by simpa using k2
    simp only [c2, ↓reduceIte, Bool.false_eq_true]
    by_cases hb : t.begins = true
    · simp only [hb, ↓reduceIte]; rfl
    · have hb' : t.begins = false := by simpa using hb
      simp only [hb', ↓reduceIte, Bool.false_eq_true]
      by_cases hz : 0 < t.count
      · have c5 : decide (t.count - 1 ≥ 0) = true := by simp; omega
        have c6 : decide (t.count > 0) = true := by simpa using hz
        simp only [c5, c6, u2 hz, ↓reduceIte]; rfl
      · have c5 : decide (t.count - 1 ≥ 0) = false := by simp; omega
        have c6 : decide (t.count > 0) = false := by simpa using hz
        simp only [c5, c6, ↓reduceIte, Bool.false_eq_true]
        by_cases hy : 0 < t.level
        · have c7 : decide (t.level - 1 < 0) = false := by simp; omega
          have c8 : decide (t.level > 0) = true := by simpa using hy
          simp only [c7, c8, u3 hy, ↓reduceIte, Bool.false_eq_true]; rfl
        · have c7 : decide (t.level - 1 < 0) = true := by simp; omega
          have c8 : decide (t.level > 0) = false := by simpa using hy
          have hl0 : t.level = 0 := by omega
          simp only [c7, c8, ↓reduceIte, Bool.false_eq_true]
          by_cases h32 : t.reg 0 / 32 % 2 = 1
          · rw [h32]; rfl
          · have h32' : t.reg 0 / 32 % 2 = 0 := by omega
            rw [h32']
            (first | rfl | (simp [emb, hl0]; done) | (simp [emb, hl0]; rfl))

theorem emb_target {t : Tone} (h : Inv t) (hk : t.kind ≠ 3) : rTarget (emb t) = tTarget t := by
  rw [target_eq t h.ok (h.per hk)]
  have f1 : (emb t).Reg 1 = t.reg 1 := rfl
  have fk : (emb t).Kind = t.kind := rfl
  have fp : (emb t).Period = t.period := rfl
  have hp := h.ok.period
  unfold rng at hp
  unfold rTarget
  rw [f1, fk, fp]
  have hq0 : 0 ≤ t.period / 2 ^ (t.reg 1 % 8).toNat := Int.ediv_nonneg hp.1 (Int.le_of_lt (Int.pow_pos (by decide)))
  generalize t.period / 2 ^ (t.reg 1 % 8).toNat = q at *
  split
  · rfl
  · split <;> omega

theorem emb_mute {t : Tone} (h : Inv t) (hk : t.kind ≠ 3) : rMute (emb t) = tMute t := by
  unfold rMute tMute
  rw [emb_target h hk]
  have fp : (emb t).Period = t.period := rfl
  rw [fp]

end Go.Proofs.YtngeghiaakkdbaaDoor
