/-
  Layer 11: what holds of a voice at all times is kept; an act on both. No condition.
-/
import Derived.Test.YtngeghiaakkdbaaDoorTUb
namespace Go.Proofs.YtngeghiaakkdbaaDoor
open Go VX IntWalk
set_option maxRecDepth 100000
set_option linter.unusedSimpArgs false
set_option linter.unusedVariables false

theorem inv_enable {t : Tone} (h : Inv t) (on : Bool) : Inv (tEnable t on) := by
  have hok := tEnable_w t on h.ok
  have e : (tEnable t on).kind = t.kind ∧ (tEnable t on).reg = t.reg ∧ (tEnable t on).period = t.period ∧ (tEnable t on).step = t.step ∧ (tEnable t on).row = t.row := by
    unfold tEnable; split <;> exact ⟨rfl, rfl, rfl, rfl, rfl⟩
  obtain ⟨e1, e2, e3, e4, e5⟩ := e
  exact ⟨hok, by rw [e1]; exact h.kind, by rw [e1, e3]; exact h.per, by rw [e1, e2, e3]; exact h.noi, by rw [e4]; exact h.stp, by rw [e1, e4]; exact h.stp8, by rw [e5]; exact h.row⟩

theorem inv_quarter {t : Tone} (h : Inv t) : Inv (tQuarter t) := by
  have hok := tQuarter_w t h.ok
  have e : (tQuarter t).kind = t.kind ∧ (tQuarter t).reg = t.reg ∧ (tQuarter t).period = t.period ∧ (tQuarter t).step = t.step ∧ (tQuarter t).row = t.row := by
    unfold tQuarter; (repeat' split) <;> exact ⟨rfl, rfl, rfl, rfl, rfl⟩
  obtain ⟨e1, e2, e3, e4, e5⟩ := e
  exact ⟨hok, by rw [e1]; exact h.kind, by rw [e1, e3]; exact h.per, by rw [e1, e2, e3]; exact h.noi, by rw [e4]; exact h.stp, by rw [e1, e4]; exact h.stp8, by rw [e5]; exact h.row⟩

theorem mute_target {t : Tone} (h : (!(tMute t)) = true) : tTarget t ≤ 2047 := by
  unfold tMute at h
  split at h
  · simp at h
  · simpa using h

theorem kind_le {t : Tone} (h : ¬ decide (t.kind > 1) = true) : t.kind ≠ 3 := by
  intro hc
  rw [hc] at h
  exact h (by decide)

theorem ite_ind {P : Tone → Prop} {c : Prop} [Decidable c] {a b : Tone} (ha : c → P a) (hb : ¬ c → P b) : P (if c then a else b) := by
  by_cases h : c
  · rw [if_pos h]; exact ha h
  · rw [if_neg h]; exact hb h

structure RowP (s : Tone) : Prop where
  lt : s.row < 32768

def HalfP (t s : Tone) : Prop := s.kind = t.kind ∧ s.reg = t.reg ∧ s.step = t.step ∧ s.row = t.row ∧ (s.period = t.period ∨ (t.kind ≠ 3 ∧ s.period ≤ 2047))

theorem half_p (t : Tone) : HalfP t (tHalf t) := by
  unfold tHalf
  repeat' (refine ite_ind (P := HalfP t) (fun _ => ?_) (fun _ => ?_))
  all_goals first
    | exact ⟨rfl, rfl, rfl, rfl, .inl rfl⟩
    | exact ⟨rfl, rfl, rfl, rfl, .inr ⟨kind_le (by assumption), mute_target (by assumption)⟩⟩

theorem inv_half {t : Tone} (h : Inv t) : Inv (tHalf t) := by
  have hok := tHalf_w t h.ok
  have e := half_p t
  unfold HalfP at e
  obtain ⟨e1, e2, e4, e5, e3⟩ := e
  refine ⟨hok, by rw [e1]; exact h.kind, ?_, ?_, by rw [e4]; exact h.stp, by rw [e1, e4]; exact h.stp8, by rw [e5]; exact h.row⟩
  · rw [e1]
    intro hk
    have := h.per hk
    rcases e3 with e3 | ⟨_, e3⟩ <;> omega
  · rw [e1, e2]
    intro hk
    rcases e3 with e3 | ⟨e3, _⟩
    · rw [e3]; exact h.noi hk
    · exact absurd hk e3

theorem inv_clock {t : Tone} (h : Inv t) : Inv (tClock t) := by
  have hok := tClock_w t h.ok
  have hs := h.ok.step
  have hw := h.ok.row
  unfold rng at hs hw
  have hst := h.stp
  have hrow := h.row
  have u2 : IntKind.u8.wrap (t.step + 1) = t.step + 1 := u8_in _ (by omega)
  have q32 : Int.tmod (t.step + 1) 32 = (t.step + 1) % 32 := Int.tmod_eq_emod_of_nonneg (by omega)
  have q8 : Int.tmod (t.step + 1) 8 = (t.step + 1) % 8 := Int.tmod_eq_emod_of_nonneg (by omega)
  have e : (tClock t).kind = t.kind ∧ (tClock t).reg = t.reg ∧ (tClock t).period = t.period := by
    unfold tClock; (repeat' split) <;> exact ⟨rfl, rfl, rfl⟩
  have es : (tClock t).step = t.step ∨ (t.kind = 2 ∧ (tClock t).step = (t.step + 1) % 32) ∨ (tClock t).step = (t.step + 1) % 8 := by
    unfold tClock
    rw [u2, q32, q8]
    by_cases h0 : decide (t.timer > 0) = true
    · rw [if_pos h0]; exact .inl rfl
    · rw [if_neg h0]
      by_cases k2 : (t.kind == 2) = true
      · rw [if_pos k2]
        have k2' : t.kind = 2 := by simpa using k2
        (repeat' split) <;> first | exact .inl rfl | exact .inr (.inl ⟨k2', rfl⟩)
      · rw [if_neg k2]
        (repeat' split) <;> first | exact .inl rfl | exact .inr (.inr rfl)
  have er : (tClock t).row < 32768 := by
    obtain ⟨r, hr⟩ := Int.eq_ofNat_of_zero_le hw.1
    have hr32 : r < 32768 := by omega
    have r1 := row_eq 1 (.inl rfl) r hr32
    have r6 := row_eq 6 (.inr rfl) r hr32
    rw [show ((1 : Nat) : Int) = 1 from rfl] at r1
    rw [show ((6 : Nat) : Int) = 6 from rfl] at r6
    have l1 := stp_lt (tap := 1) hr32
    have l6 := stp_lt (tap := 6) hr32
    have k1 : ((stp 1 r : Nat) : Int) < 32768 := by omega
    have k6 : ((stp 6 r : Nat) : Int) < 32768 := by omega
    rw [← r1, ← hr] at k1
    rw [← r6, ← hr] at k6
    have hP : RowP (tClock t) := by
      unfold tClock
      repeat' (refine ite_ind (P := RowP) (fun _ => ?_) (fun _ => ?_))
      · exact ⟨hrow⟩
      · exact ⟨hrow⟩
      · exact ⟨hrow⟩
      · exact ⟨hrow⟩
      · exact ⟨k6⟩
      · exact ⟨k1⟩
      · exact ⟨hrow⟩
    exact hP.lt
  obtain ⟨e1, e2, e3⟩ := e
  refine ⟨hok, by rw [e1]; exact h.kind, by rw [e1, e3]; exact h.per, by rw [e1, e2, e3]; exact h.noi, ?_, ?_, er⟩
  · rcases es with es | ⟨_, es⟩ | es <;> omega
  · rw [e1]
    intro hk
    have := h.stp8 hk
    rcases es with es | ⟨hc, _⟩ | es
    · omega
    · exact absurd hc hk
    · omega

theorem inv_clocks : ∀ (n : Nat) {t : Tone}, Inv t → Inv (clocks n t) := fun n t h => iterS_inv (p := Inv) (fun s hs => inv_clock hs) n t h

theorem inv_put {t : Tone} (h : Inv t) (reg b : Int) (hreg : 0 ≤ reg ∧ reg < 256) (hb : 0 ≤ b ∧ b < 256) : Inv (tPut t reg b) := by
  have hok := tPut_w t reg b h.ok hreg hb
  have hp := h.ok.period
  unfold rng at hp
  have w1 : IntKind.i64.wrap reg = reg := i64_in _ (by omega)
  have p2 := put2_eq t.period b (by omega) hb
  have p3 := put3_eq t.period b (by omega) hb
  have u2 : ∀ k, upd t.reg k b 2 = if k = 2 then b else t.reg 2 := by
    intro k
    unfold upd
    by_cases hk : k = 2
    · subst hk; rfl
    · have : Nat.beq 2 k = false := by cases hc : Nat.beq 2 k with | false => rfl | true => exact absurd (Nat.eq_of_beq_eq_true hc).symm hk
      rw [this, if_neg hk]; rfl
  have hb16 : bAnd .u8 b 15 = b % 16 := and8_15 ⟨hb.1, hb.2⟩
  have hsl := slow_alike (b % 16) (by omega)
  have hn : IntKind.u16.wrap ((noisesT (Int.toNat (b % 16))) - 1) = noisesT (b % 16).toNat - 1 := u16_in _ (by omega)
  by_cases h4 : 3 < reg
  · have : tPut t reg b = t := by
      unfold tPut
      rw [w1, if_pos (by simp; omega)]
    rw [this]; exact h
  · have e3 : reg = 0 ∨ reg = 1 ∨ reg = 2 ∨ reg = 3 := by omega
    have hk := h.kind
    have hs := h.stp
    have hs8 := h.stp8
    have hr := h.row
    rcases e3 with rfl | rfl | rfl | rfl
    · have e : tPut t 0 b = ({ t with reg := upd t.reg 0 b } : Tone) := rfl
      rw [e] at hok ⊢
      exact ⟨hok, hk, h.per, fun k3 => (h.noi k3), hs, hs8, hr⟩
    · have e : tPut t 1 b = ({ t with reg := upd t.reg 1 b, swept := true } : Tone) := rfl
      rw [e] at hok ⊢
      exact ⟨hok, hk, h.per, fun k3 => (h.noi k3), hs, hs8, hr⟩
    · by_cases k3 : t.kind = 3
      · have e : tPut t 2 b = ({ t with reg := upd t.reg 2 b, period := noisesT (b % 16).toNat - 1 } : Tone) := by
          unfold tPut
          rw [w1, hb16, hn, if_neg (by decide), if_neg (by decide), if_pos (by decide), if_pos (by simpa using k3)]; rfl
        rw [e] at hok ⊢
        exact ⟨hok, hk, fun hc => absurd k3 hc, fun _ => rfl, hs, hs8, hr⟩
      · have e : tPut t 2 b = ({ t with reg := upd t.reg 2 b, period := t.period / 256 * 256 + b } : Tone) := by
          unfold tPut
          rw [w1, p2, if_neg (by decide), if_neg (by decide), if_pos (by decide), if_neg (by simpa using k3)]; rfl
        rw [e] at hok ⊢
        have := h.per k3
        exact ⟨hok, hk, fun hc => by show t.period / 256 * 256 + b < 2048; omega, fun hc => absurd hc k3, hs, hs8, hr⟩
    · have e : tPut t 3 b = tHigh ({ t with reg := upd t.reg 3 b } : Tone) b := rfl
      rw [e] at hok ⊢
      have ek : (tHigh ({ t with reg := upd t.reg 3 b } : Tone) b).kind = t.kind ∧ (tHigh ({ t with reg := upd t.reg 3 b } : Tone) b).reg = upd t.reg 3 b ∧ (tHigh ({ t with reg := upd t.reg 3 b } : Tone) b).row = t.row ∧ ((tHigh ({ t with reg := upd t.reg 3 b } : Tone) b).step = t.step ∨ (tHigh ({ t with reg := upd t.reg 3 b } : Tone) b).step = 0) ∧ ((t.kind = 3 ∧ (tHigh ({ t with reg := upd t.reg 3 b } : Tone) b).period = t.period) ∨ (t.kind ≠ 3 ∧ (tHigh ({ t with reg := upd t.reg 3 b } : Tone) b).period = t.period % 256 + b % 8 * 256)) := by
        unfold tHigh
        simp only [p3]
        by_cases k3 : t.kind = 3
        · have c3 : (t.kind != 3) = false := by rw [k3]; rfl
          simp only [c3, Bool.false_eq_true, ↓reduceIte]
          (repeat' split) <;> first | exact ⟨rfl, rfl, rfl, .inr rfl, .inl ⟨k3, rfl⟩⟩ | exact ⟨rfl, rfl, rfl, .inl rfl, .inl ⟨k3, rfl⟩⟩
        · have c3 : (t.kind != 3) = true := by simpa using k3
          simp only [c3, ↓reduceIte]
          (repeat' split) <;> first | exact ⟨rfl, rfl, rfl, .inr rfl, .inr ⟨k3, rfl⟩⟩ | exact ⟨rfl, rfl, rfl, .inl rfl, .inr ⟨k3, rfl⟩⟩
      obtain ⟨e1, e2, e5, e4, ep⟩ := ek
      have hst0 := h.ok.step
      unfold rng at hst0
      refine ⟨hok, by rw [e1]; exact hk, ?_, ?_, ?_, ?_, by rw [e5]; exact hr⟩
      · rw [e1]
        intro hc
        rcases ep with ⟨k3, _⟩ | ⟨_, ep⟩
        · exact absurd k3 hc
        · rw [ep]; omega
      · rw [e1, e2]
        intro hc
        rcases ep with ⟨_, ep⟩ | ⟨k3, _⟩
        · rw [ep]; exact h.noi hc
        · exact absurd hc k3
      · rcases e4 with e4 | e4 <;> rw [e4] <;> omega
      · rw [e1]
        intro hc
        have := hs8 hc
        rcases e4 with e4 | e4 <;> rw [e4] <;> omega

-- ---------------------------------------------------------------- new ones

theorem new_0 : rNew_0 = emb tNew_0 ∧ Inv tNew_0 := by
  have e1 : CH tNew_0.reg = rNew_0.Reg := by
    funext j
    rfl
  have e2 : rowF tNew_0.row = rNew_0.Row := by
    funext j
    rfl
  refine ⟨?_, ⟨tNew_0_w, by decide, fun _ => by decide, fun h => absurd h (by decide), by decide, fun _ => by decide, by decide⟩⟩
  unfold emb
  rw [e1, e2]
  rfl

theorem new_1 : rNew_1 = emb tNew_1 ∧ Inv tNew_1 := by
  have e1 : CH tNew_1.reg = rNew_1.Reg := by
    funext j
    rfl
  have e2 : rowF tNew_1.row = rNew_1.Row := by
    funext j
    rfl
  refine ⟨?_, ⟨tNew_1_w, by decide, fun _ => by decide, fun h => absurd h (by decide), by decide, fun _ => by decide, by decide⟩⟩
  unfold emb
  rw [e1, e2]
  rfl

theorem new_2 : rNew_2 = emb tNew_2 ∧ Inv tNew_2 := by
  have e1 : CH tNew_2.reg = rNew_2.Reg := by
    funext j
    rfl
  have e2 : rowF tNew_2.row = rNew_2.Row := by
    funext j
    rfl
  refine ⟨?_, ⟨tNew_2_w, by decide, fun _ => by decide, fun h => absurd h (by decide), by decide, fun _ => by decide, by decide⟩⟩
  unfold emb
  rw [e1, e2]
  rfl

theorem new_3 : rNew_3 = emb tNew_3 ∧ Inv tNew_3 := by
  have e1 : CH tNew_3.reg = rNew_3.Reg := by
    funext j
    rfl
  have e2 : rowF tNew_3.row = rNew_3.Row := by
    funext j
    rfl
  refine ⟨?_, ⟨tNew_3_w, by decide, fun _ => by decide, fun h => by decide, by decide, fun _ => by decide, by decide⟩⟩
  unfold emb
  rw [e1, e2]
  rfl

end Go.Proofs.YtngeghiaakkdbaaDoor
