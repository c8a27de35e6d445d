/-
  Layer 12: what the voices' functions leave as it was. No condition.
-/
import Derived.Test.YtgpcfjokmonlgaaDoorSG
namespace Go.Proofs.YtgpcfjokmonlgaaDoor
open Go VX IntWalk
set_option maxRecDepth 100000
set_option linter.unusedSimpArgs false
set_option linter.unusedVariables false

theorem ite_ind {P : Tone → Prop} {c : Prop} [Decidable c] {a b : Tone} (ha : c → P a) (hb : ¬ c → P b) : P (if c then a else b) := by
  by_cases h : c
  · rw [if_pos h]; exact ha h
  · rw [if_neg h]; exact hb h

/-- What a quarter leaves. -/
def QuarterQ (t s : Tone) : Prop := s.kind = t.kind ∧ s.on = t.on ∧ s.reg = t.reg ∧ s.step = t.step ∧ s.row = t.row ∧ s.length = t.length ∧ (s.level = t.level ∨ s.level = 15 ∨ (0 < t.level ∧ s.level = IntKind.u8.wrap (t.level - 1)))
theorem quarter_q (t : Tone) : QuarterQ t (tQuarter t) := by
  unfold tQuarter
  repeat' (refine ite_ind (P := QuarterQ t) (fun _ => ?_) (fun _ => ?_))
  all_goals first
    | exact ⟨rfl, rfl, rfl, rfl, rfl, rfl, .inl rfl⟩
    | exact ⟨rfl, rfl, rfl, rfl, rfl, rfl, .inr (.inl rfl)⟩
    | (rename_i h; exact ⟨rfl, rfl, rfl, rfl, rfl, rfl, .inr (.inr ⟨by simpa using h, rfl⟩)⟩)

/-- What a half leaves; the length is one less, or what it was. -/
def HalfQ (t s : Tone) : Prop := s.kind = t.kind ∧ s.on = t.on ∧ s.reg = t.reg ∧ s.step = t.step ∧ s.row = t.row ∧ s.level = t.level ∧
  ((decide (t.length > 0) = true ∧ s.length = IntKind.u8.wrap (t.length - 1)) ∨ (s.length = t.length ∧ (¬ decide (t.length > 0) = true ∨ ¬ (bAnd .u8 (t.reg 0) 128 == 0) = true ∨ ¬ (bAnd .u8 (t.reg 0) 32 == 0) = true)))
theorem half_q (t : Tone) : HalfQ t (tHalf t) := by
  unfold tHalf
  repeat' (refine ite_ind (P := HalfQ t) (fun _ => ?_) (fun _ => ?_))
  all_goals first
    | exact ⟨rfl, rfl, rfl, rfl, rfl, rfl, .inl ⟨by assumption, rfl⟩⟩
    | exact ⟨rfl, rfl, rfl, rfl, rfl, rfl, .inr ⟨rfl, .inl (by assumption)⟩⟩
    | exact ⟨rfl, rfl, rfl, rfl, rfl, rfl, .inr ⟨rfl, .inr (.inl (by assumption))⟩⟩
    | exact ⟨rfl, rfl, rfl, rfl, rfl, rfl, .inr ⟨rfl, .inr (.inr (by assumption))⟩⟩

/-- What a cycle leaves. -/
def ClockQ (t s : Tone) : Prop := s.kind = t.kind ∧ s.on = t.on ∧ s.reg = t.reg ∧ s.length = t.length ∧ s.level = t.level ∧
  (s.step = t.step ∨ (t.kind = 2 ∧ 0 < t.length ∧ s.step = Int.tmod (IntKind.u8.wrap (t.step + 1)) 32) ∨ (t.kind ≠ 2 ∧ s.step = Int.tmod (IntKind.u8.wrap (t.step + 1)) 8))
theorem clock_q (t : Tone) : ClockQ t (tClock t) := by
  unfold tClock
  refine ite_ind (P := ClockQ t) (fun _ => ⟨rfl, rfl, rfl, rfl, rfl, .inl rfl⟩) (fun _ => ?_)
  refine ite_ind (P := ClockQ t) (fun hk => ?_) (fun hk => ?_)
  · have hk' : t.kind = 2 := by simpa using hk
    refine ite_ind (P := ClockQ t) (fun hl => ?_) (fun _ => ⟨rfl, rfl, rfl, rfl, rfl, .inl rfl⟩)
    have hl' : 0 < t.length := by simpa using hl
    exact ite_ind (P := ClockQ t) (fun _ => ⟨rfl, rfl, rfl, rfl, rfl, .inr (.inl ⟨hk', hl', rfl⟩)⟩) (fun _ => ⟨rfl, rfl, rfl, rfl, rfl, .inl rfl⟩)
  · have hk' : t.kind ≠ 2 := by simpa using hk
    refine ite_ind (P := ClockQ t) (fun _ => ?_) (fun _ => ⟨rfl, rfl, rfl, rfl, rfl, .inr (.inr ⟨hk', rfl⟩)⟩)
    exact ite_ind (P := ClockQ t) (fun _ => ⟨rfl, rfl, rfl, rfl, rfl, .inl rfl⟩) (fun _ => ⟨rfl, rfl, rfl, rfl, rfl, .inl rfl⟩)

theorem enable_q (t : Tone) (on : Bool) : (tEnable t on).kind = t.kind ∧ (tEnable t on).on = on ∧ (tEnable t on).reg = t.reg ∧ (tEnable t on).step = t.step ∧ (tEnable t on).row = t.row ∧ (tEnable t on).level = t.level ∧ (tEnable t on).length = if on = true then t.length else 0 := by
  unfold tEnable
  cases on <;> simp

/-- What a register leaves. -/
def HighQ (t s : Tone) (b : Int) : Prop := s.kind = t.kind ∧ s.on = t.on ∧ s.reg = t.reg ∧ s.row = t.row ∧ s.level = t.level ∧ (s.step = t.step ∨ s.step = 0) ∧ s.length = if t.on = true then lengthsT (Int.toNat (bShr .u8 b 3)) else t.length
theorem high_q (t : Tone) (b : Int) : HighQ t (tHigh t b) b := by
  unfold tHigh
  refine ite_ind (P := fun s => HighQ t s b) (fun ho => ?_) (fun ho => ?_)
  · repeat' (refine ite_ind (P := fun s => HighQ t s b) (fun _ => ?_) (fun _ => ?_))
    all_goals first
      | exact ⟨rfl, rfl, rfl, rfl, rfl, .inl rfl, by rw [if_pos ho]⟩
      | exact ⟨rfl, rfl, rfl, rfl, rfl, .inr rfl, by rw [if_pos ho]⟩
  · repeat' (refine ite_ind (P := fun s => HighQ t s b) (fun _ => ?_) (fun _ => ?_))
    all_goals first
      | exact ⟨rfl, rfl, rfl, rfl, rfl, .inl rfl, by rw [if_neg ho]⟩
      | exact ⟨rfl, rfl, rfl, rfl, rfl, .inr rfl, by rw [if_neg ho]⟩

def PutQ (t s : Tone) : Prop := s.kind = t.kind ∧ s.on = t.on ∧ s.level = t.level ∧ (s.step = t.step ∨ s.step = 0)
theorem put_q (r : Nat) (t : Tone) (b : Int) : PutQ t (tPutN r t b) := by
  unfold tPutN
  refine ite_ind (P := PutQ t) (fun _ => ⟨rfl, rfl, rfl, .inl rfl⟩) (fun _ => ?_)
  refine ite_ind (P := PutQ t) (fun _ => ⟨rfl, rfl, rfl, .inl rfl⟩) (fun _ => ?_)
  refine ite_ind (P := PutQ t) (fun _ => ?_) (fun _ => ?_)
  · unfold tPut_2
    exact ite_ind (P := PutQ t) (fun _ => ⟨rfl, rfl, rfl, .inl rfl⟩) (fun _ => ⟨rfl, rfl, rfl, .inl rfl⟩)
  · obtain ⟨h1, h2, _, _, h5, h6, _⟩ := high_q ({ t with reg := upd t.reg 3 b } : Tone) b
    exact ⟨h1, h2, h5, h6⟩

theorem putN_w {t : Tone} (h : Tone.ok t) (r : Nat) {b : Int} (hb : rng 256 b) : Tone.ok (tPutN r t b) := by
  unfold tPutN
  split
  · exact tPut_0_w t b h hb
  split
  · exact tPut_1_w t b h hb
  split
  · exact tPut_2_w t b h hb
  · exact tPut_3_w t b h hb

-- ---------------------------------------------------------------- bounds of what is put out

structure RInv (k : Int) (t : Tone) : Prop where
  ok : Tone.ok t
  kind : t.kind = k
  step : t.step < 32
  level : t.level ≤ 15

theorem rinv_cl : Cl RInv where
  ok _ _ h := h.ok
  q k t h := by
    obtain ⟨h1, _, _, h4, _, _, h7⟩ := quarter_q t
    have hl := h.ok.level
    have hl2 := h.level
    unfold rng at hl
    refine ⟨tQuarter_w t h.ok, h1.trans h.kind, by rw [h4]; exact h.step, ?_⟩
    rcases h7 with e | e | ⟨e0, e⟩
    · rw [e]; exact hl2
    · rw [e]; decide
    · rw [e, u8_in _ (by omega)]; omega
  h k t h := by
    obtain ⟨h1, _, _, h4, _, h6, _⟩ := half_q t
    exact ⟨tHalf_w t h.ok, h1.trans h.kind, by rw [h4]; exact h.step, by rw [h6]; exact h.level⟩
  c k t h := by
    obtain ⟨h1, _, _, _, h5, h6⟩ := clock_q t
    have hs := h.ok.step
    have hs2 := h.step
    unfold rng at hs
    refine ⟨tClock_w t h.ok, h1.trans h.kind, ?_, by rw [h5]; exact h.level⟩
    have u : IntKind.u8.wrap (t.step + 1) = t.step + 1 := u8_in _ (by omega)
    rcases h6 with e | ⟨_, _, e⟩ | ⟨_, e⟩
    · rw [e]; exact hs2
    · rw [e, u, Int.tmod_eq_emod_of_nonneg (by omega)]; omega
    · rw [e, u, Int.tmod_eq_emod_of_nonneg (by omega)]; omega
  put k t r b hr hb h := by
    obtain ⟨h1, _, h3, h4⟩ := put_q r t b
    refine ⟨putN_w h.ok r hb, h1.trans h.kind, ?_, by rw [h3]; exact h.level⟩
    rcases h4 with e | e <;> rw [e]
    · exact h.step
    · decide
  en k t on h := by
    obtain ⟨h1, _, _, h4, _, h6, _⟩ := enable_q t on
    exact ⟨tEnable_w t on h.ok, h1.trans h.kind, by rw [h4]; exact h.step, by rw [h6]; exact h.level⟩

theorem volume_le {k : Int} {t : Tone} (h : RInv k t) : 0 ≤ tVolume t ∧ tVolume t ≤ 15 := by
  have hr := h.ok.reg 0
  have hl := h.ok.level
  have hl2 := h.level
  unfold rng at hr hl
  unfold tVolume
  rw [and8_15 hr]
  split <;> omega

def In15 (x : Int) : Prop := 0 ≤ x ∧ x ≤ 15
theorem ite_in15 {c : Prop} [Decidable c] {a b : Int} (ha : c → In15 a) (hb : ¬ c → In15 b) : In15 (if c then a else b) := by
  by_cases h : c
  · rw [if_pos h]; exact ha h
  · rw [if_neg h]; exact hb h

theorem out_le {k : Int} {t : Tone} (h : RInv k t) : 0 ≤ tOut t ∧ tOut t ≤ 15 := by
  have hv := volume_le h
  have hs := h.ok.step
  have hs2 := h.step
  unfold rng at hs
  show In15 (tOut t)
  unfold tOut
  generalize tVolume t = v at hv ⊢
  refine ite_in15 (fun _ => ?_) (fun _ => ?_)
  · refine ite_in15 (fun hc => ?_) (fun hc => ?_)
    · have : t.step < 16 := by simpa using hc
      rw [u8_in _ (by omega)]; unfold In15; omega
    · have : ¬ t.step < 16 := by simpa using hc
      rw [u8_in _ (by omega)]; unfold In15; omega
  · repeat' (refine ite_in15 (fun _ => ?_) (fun _ => ?_))
    all_goals first | exact hv | exact ⟨by decide, by decide⟩

theorem sout_eq {s : Snd} (h : SInv RInv s) : sOut s = 752 * (tOut s.tones_0 + tOut s.tones_1) + 851 * tOut s.tones_2 + 494 * tOut s.tones_3 + 335 * s.sample.level := by
  have h0 := out_le h.t0
  have h1 := out_le h.t1
  have h2 := out_le h.t2
  have h3 := out_le h.t3
  have hl := h.m.level
  have hl2 := h.m.ok.level
  unfold rng at hl2
  unfold sOut sOut1_0 sOut1_1 sOut1_2 sOut1_3
  simp (disch := omega) only [i64_in]

theorem new_rinv : SInv RInv sNew :=
  ⟨⟨tNew_0_w, rfl, by decide, by decide⟩, ⟨tNew_1_w, rfl, by decide, by decide⟩, ⟨tNew_2_w, rfl, by decide, by decide⟩, ⟨tNew_3_w, rfl, by decide, by decide⟩, new_minv, new_cinv⟩

end Go.Proofs.YtgpcfjokmonlgaaDoor
