/-
  Layer 12: the plain law of samples. No condition.
-/
import Derived.Test.YtgpcfjokmonlgaaDoorST
import Derived.Test.YtgpcfjokmonlgaaDoorSSam
namespace Go.Proofs.YtgpcfjokmonlgaaDoor
open Go VX IntWalk
set_option maxRecDepth 100000
set_option linter.unusedSimpArgs false
set_option linter.unusedVariables false

/-- A voice that says nothing of its own. -/
structure QInv (k : Int) (t : Tone) : Prop where
  r : RInv k t
  len : t.length = 0
  stp : k = 2 → t.step = 0

theorem qinv_cl : ClC QInv where
  ok _ _ h := h.r.ok
  q k t h := by
    obtain ⟨_, _, _, h4, _, h6, _⟩ := quarter_q t
    exact ⟨rinv_cl.q k t h.r, h6.trans h.len, fun e => h4.trans (h.stp e)⟩
  h k t h := by
    obtain ⟨_, _, _, h4, _, _, h7⟩ := half_q t
    refine ⟨rinv_cl.h k t h.r, ?_, fun e => h4.trans (h.stp e)⟩
    rcases h7 with ⟨c, _⟩ | ⟨e, _⟩
    · rw [h.len] at c; simp at c
    · exact e.trans h.len
  c k t h := by
    obtain ⟨_, _, _, h4, _, h6⟩ := clock_q t
    refine ⟨rinv_cl.c k t h.r, h4.trans h.len, fun e => ?_⟩
    rcases h6 with e' | ⟨_, c, _⟩ | ⟨c, _⟩
    · exact e'.trans (h.stp e)
    · rw [h.len] at c; omega
    · exact absurd (h.r.kind.trans e) c

theorem q_out {k : Int} {t : Tone} (h : QInv k t) : tOut t = if k = 2 then 15 else 0 := by
  unfold tOut
  have hk := h.r.kind
  by_cases c : k = 2
  · have hs := h.stp c
    rw [hk, c, hs, if_pos (by decide), if_pos (by decide), if_pos rfl]; decide
  · rw [if_neg (by rw [hk]; simpa using c), if_pos (by simpa using h.len), if_neg c]

theorem q_sout {s : Snd} (h : SInv QInv s) : sOut s = 12765 + 335 * s.sample.level := by
  have hr : SInv RInv s := ⟨h.t0.r, h.t1.r, h.t2.r, h.t3.r, h.m, h.c⟩
  rw [sout_eq hr, q_out h.t0, q_out h.t1, q_out h.t2, q_out h.t3]
  simp

/-- What is known of a sample behind g of its steps. -/
def Ph (b g : Int) (m : Smp) : Prop :=
  (0 ≤ g ∧ g < 8 ∧ m.bits = 8 - g ∧ m.speaks = false ∧ m.waits = true ∧ m.next = b) ∨
  (8 ≤ g ∧ g < 16 ∧ m.bits = 16 - g ∧ m.speaks = true ∧ m.waits = false ∧ m.row = b / 2 ^ (g - 8).toNat) ∨ g = 16
structure Sam (b P g w tim : Int) (s : Snd) : Prop where
  inv : SInv QInv s
  lev : s.sample.level = w
  per : ratesT (s.sample.reg 0 % 16).toNat = P
  tim : s.sample.timer = tim
  ph : Ph b g s.sample

def upW (b g w : Int) : Int := if g < 8 then w else if b / 2 ^ (g - 8).toNat % 2 = 1 then (if w ≤ 125 then w + 2 else w) else (if 2 ≤ w then w - 2 else w)

theorem sam_idle {b P g w tim : Int} {s : Snd} (h : Sam b P g w tim s) (ht : 0 < tim) : Sam b P g w (tim - 1) (sClock s) := by
  obtain ⟨e, hi⟩ := sinv_clock qinv_cl h.inv
  have hs : (sClock s).sample = { s.sample with timer := tim - 1 } := by
    rw [e]
    show s.sample.clock = _
    unfold Smp.clock
    rw [h.tim, if_pos ht]
  refine ⟨hi, ?_, ?_, ?_, ?_⟩ <;> rw [hs]
  · exact h.lev
  · exact h.per
  · exact h.ph

theorem sam_fire {b P g w : Int} {s : Snd} (h : Sam b P g w 0 s) (hg : g < 16) : Sam b P (g + 1) (upW b g w) (P - 1) (sClock s) := by
  obtain ⟨e, hi⟩ := sinv_clock qinv_cl h.inv
  have hs : (sClock s).sample = s.sample.clock := by rw [e]; rfl
  obtain ⟨q1, q2, q3, q4, q5, q6, q7, q8, q9⟩ := bit_same s.sample
  have hl := h.lev
  rcases h.ph with ⟨g0, g8, hb, hsp, hw, hn⟩ | ⟨g8, g16, hb, hsp, hw, hr⟩ | g16
  · have ebit : s.sample.bit = s.sample := by unfold Smp.bit; rw [if_pos hsp]
    have eu : upW b g w = w := by unfold upW; rw [if_pos g8]
    rw [eu]
    by_cases c : 1 < s.sample.bits
    · have ec : s.sample.clock = { s.sample with timer := P - 1, bits := s.sample.bits - 1 } := by
        unfold Smp.clock
        rw [h.tim, if_neg (by decide), if_pos c, ebit, h.per]
      refine ⟨hi, ?_, ?_, ?_, ?_⟩ <;> rw [hs, ec]
      · exact hl
      · exact h.per
      · exact .inl ⟨by omega, by omega, by show s.sample.bits - 1 = _; omega, hsp, hw, hn⟩
    · have ec : s.sample.clock = { s.sample with timer := P - 1, bits := 8, speaks := true, row := s.sample.next, waits := false } := by
        unfold Smp.clock
        rw [h.tim, if_neg (by decide), if_neg c, if_pos hw, ebit, h.per]
      have e7 : g = 7 := by omega
      subst e7
      refine ⟨hi, ?_, ?_, ?_, ?_⟩ <;> rw [hs, ec]
      · exact hl
      · exact h.per
      · refine .inr (.inl ⟨by decide, by decide, rfl, rfl, rfl, ?_⟩)
        show s.sample.next = b / 2 ^ ((7 : Int) + 1 - 8).toNat
        rw [hn]; simp
  · have eu : upW b g w = if s.sample.row % 2 = 1 then (if w ≤ 125 then w + 2 else w) else (if 2 ≤ w then w - 2 else w) := by
      unfold upW; rw [if_neg (by omega), hr]
    have ebit : s.sample.bit = { s.sample with row := s.sample.row / 2, level := upW b g w } := by
      unfold Smp.bit; rw [if_neg (by rw [hsp]; decide), eu, hl]
    have hrow : s.sample.row / 2 = b / 2 ^ (g + 1 - 8).toNat := by
      rw [hr, Int.ediv_ediv_of_nonneg (Int.le_of_lt (Int.pow_pos (by decide))), ← Int.pow_succ]
      congr 2
      omega
    by_cases c : 1 < s.sample.bits
    · have ec : s.sample.clock = { s.sample with timer := P - 1, bits := s.sample.bits - 1, row := s.sample.row / 2, level := upW b g w } := by
        unfold Smp.clock
        rw [h.tim, if_neg (by decide), if_pos c, ebit, h.per]
      refine ⟨hi, ?_, ?_, ?_, ?_⟩ <;> rw [hs, ec]
      · exact h.per
      · exact .inr (.inl ⟨by omega, by omega, by show s.sample.bits - 1 = _; omega, hsp, hw, hrow⟩)
    · have ec : s.sample.clock = { s.sample with timer := P - 1, bits := 8, speaks := false, row := s.sample.row / 2, level := upW b g w } := by
        unfold Smp.clock
        rw [h.tim, if_neg (by decide), if_neg c, if_neg (by rw [hw]; decide), ebit, h.per]
      refine ⟨hi, ?_, ?_, ?_, ?_⟩ <;> rw [hs, ec]
      · exact h.per
      · exact .inr (.inr (by omega))
  · omega

theorem upW_rng (b g : Int) {w : Int} (hw : 0 ≤ w ∧ w ≤ 127) : 0 ≤ upW b g w ∧ upW b g w ≤ 127 := by
  unfold upW; repeat' split
  all_goals omega

abbrev SamS := Int × Int × Int × Bool × Snd

/-- The rounds of the law's loop, whatever their relation's name. -/
structure SamR (rel : SamS → SamS ⊕ (SamS ⊕ Bool) → Prop) (P b : Int) : Prop where
  idle : ∀ i st w s, decide (i < (IntKind.i64.wrap ((IntKind.i64.wrap ((IntKind.i64.wrap (16 * P)) - P)) + 1))) = true → Man s → P ≠ 0 → ((Int.tmod i P : Int) != 0) = true → rel (i, st, w, false, s) (.inl (IntKind.i64.wrap (i + 1), st, w, false, sClock s))
  up : ∀ i st w s, decide (i < (IntKind.i64.wrap ((IntKind.i64.wrap ((IntKind.i64.wrap (16 * P)) - P)) + 1))) = true → Man s → P ≠ 0 → ((Int.tmod i P : Int) != 0) = false → decide (st ≥ 8) = true → 0 ≤ IntKind.i64.wrap (st - 8) →
    ((bAnd .u8 (bShr .u8 b (IntKind.i64.wrap (st - 8))) 1 : Int) == 1) = true → decide (w ≤ 125) = true → Snd.ok s → ((sOut (sClock s) : Int) != (IntKind.i64.wrap (12765 + (IntKind.i64.wrap (335 * (IntKind.i64.wrap (w + 2))))))) = false →
    rel (i, st, w, false, s) (.inl (IntKind.i64.wrap (i + 1), IntKind.i64.wrap (st + 1), IntKind.i64.wrap (w + 2), false, sClock s))
  top : ∀ i st w s, decide (i < (IntKind.i64.wrap ((IntKind.i64.wrap ((IntKind.i64.wrap (16 * P)) - P)) + 1))) = true → Man s → P ≠ 0 → ((Int.tmod i P : Int) != 0) = false → decide (st ≥ 8) = true → 0 ≤ IntKind.i64.wrap (st - 8) →
    ((bAnd .u8 (bShr .u8 b (IntKind.i64.wrap (st - 8))) 1 : Int) == 1) = true → decide (w ≤ 125) = false → Snd.ok s → ((sOut (sClock s) : Int) != (IntKind.i64.wrap (12765 + (IntKind.i64.wrap (335 * w))))) = false →
    rel (i, st, w, false, s) (.inl (IntKind.i64.wrap (i + 1), IntKind.i64.wrap (st + 1), w, false, sClock s))
  down : ∀ i st w s, decide (i < (IntKind.i64.wrap ((IntKind.i64.wrap ((IntKind.i64.wrap (16 * P)) - P)) + 1))) = true → Man s → P ≠ 0 → ((Int.tmod i P : Int) != 0) = false → decide (st ≥ 8) = true → 0 ≤ IntKind.i64.wrap (st - 8) →
    ((bAnd .u8 (bShr .u8 b (IntKind.i64.wrap (st - 8))) 1 : Int) == 1) = false → ((bAnd .u8 (bShr .u8 b (IntKind.i64.wrap (st - 8))) 1 : Int) == 0) = true → decide (w ≥ 2) = true → Snd.ok s → ((sOut (sClock s) : Int) != (IntKind.i64.wrap (12765 + (IntKind.i64.wrap (335 * (IntKind.i64.wrap (w - 2))))))) = false →
    rel (i, st, w, false, s) (.inl (IntKind.i64.wrap (i + 1), IntKind.i64.wrap (st + 1), IntKind.i64.wrap (w - 2), false, sClock s))
  low : ∀ i st w s, decide (i < (IntKind.i64.wrap ((IntKind.i64.wrap ((IntKind.i64.wrap (16 * P)) - P)) + 1))) = true → Man s → P ≠ 0 → ((Int.tmod i P : Int) != 0) = false → decide (st ≥ 8) = true → 0 ≤ IntKind.i64.wrap (st - 8) →
    ((bAnd .u8 (bShr .u8 b (IntKind.i64.wrap (st - 8))) 1 : Int) == 1) = false → ((bAnd .u8 (bShr .u8 b (IntKind.i64.wrap (st - 8))) 1 : Int) == 0) = true → decide (w ≥ 2) = false → Snd.ok s → ((sOut (sClock s) : Int) != (IntKind.i64.wrap (12765 + (IntKind.i64.wrap (335 * w))))) = false →
    rel (i, st, w, false, s) (.inl (IntKind.i64.wrap (i + 1), IntKind.i64.wrap (st + 1), w, false, sClock s))
  still : ∀ i st w s, decide (i < (IntKind.i64.wrap ((IntKind.i64.wrap ((IntKind.i64.wrap (16 * P)) - P)) + 1))) = true → Man s → P ≠ 0 → ((Int.tmod i P : Int) != 0) = false → decide (st ≥ 8) = false → Snd.ok s → ((sOut (sClock s) : Int) != (IntKind.i64.wrap (12765 + (IntKind.i64.wrap (335 * w))))) = false →
    rel (i, st, w, false, s) (.inl (IntKind.i64.wrap (i + 1), IntKind.i64.wrap (st + 1), w, false, sClock s))
  out : ∀ i st w s, decide (i < (IntKind.i64.wrap ((IntKind.i64.wrap ((IntKind.i64.wrap (16 * P)) - P)) + 1))) = false → rel (i, st, w, false, s) (.inr (.inl (i, st, w, false, s)))

section
variable {rel : SamS → SamS ⊕ (SamS ⊕ Bool) → Prop} {P b : Int} (R : SamR rel P b) (hP : 54 ≤ P ∧ P ≤ 428) (hb : rng 256 b)
include R hP hb

theorem sam_round {g i w : Int} {s : Snd} (h : Sam b P g w 0 s) (hg : 0 ≤ g ∧ g < 16) (hi : i = P * g) (hiN : 0 ≤ i ∧ i < 15 * P + 1) (hw : 0 ≤ w ∧ w ≤ 127) :
    rel (i, g, w, false, s) (.inl (i + 1, g + 1, upW b g w, false, sClock s)) := by
  have hf := sam_fire h hg.2
  have eN : (IntKind.i64.wrap ((IntKind.i64.wrap ((IntKind.i64.wrap (16 * P)) - P)) + 1)) = 15 * P + 1 := by
    rw [i64_in (16 * P) (by omega), i64_in (16 * P - P) (by omega), i64_in _ (by omega)]; omega
  have c0 : decide (i < (IntKind.i64.wrap ((IntKind.i64.wrap ((IntKind.i64.wrap (16 * P)) - P)) + 1))) = true := by rw [eN]; simpa using hiN.2
  have hm := h.inv.c.1
  have hP0 : P ≠ 0 := by omega
  have em : ((Int.tmod i P : Int) != 0) = false := by
    rw [Int.tmod_eq_emod_of_nonneg hiN.1, hi, Int.mul_emod_right]; rfl
  have ei : IntKind.i64.wrap (i + 1) = i + 1 := i64_in _ (by omega)
  have eg : IntKind.i64.wrap (g + 1) = g + 1 := i64_in _ (by omega)
  have eg8 : 8 ≤ g → IntKind.i64.wrap (g - 8) = (((g - 8).toNat : Nat) : Int) := fun h8 => by rw [i64_in _ (by omega)]; omega
  have ho := q_sout hf.inv
  rw [hf.lev] at ho
  have hu := upW_rng b g hw
  have outc : ∀ x, x = upW b g w → ((sOut (sClock s) : Int) != (IntKind.i64.wrap (12765 + (IntKind.i64.wrap (335 * x))))) = false := by
    rintro x rfl
    rw [ho, i64_in (335 * upW b g w) (by omega), i64_in _ (by omega)]
    simp
  have hok := h.inv.ok qinv_cl
  by_cases c8 : 8 ≤ g
  · have d3 : decide (g ≥ 8) = true := by simpa using c8
    have w3 : 0 ≤ IntKind.i64.wrap (g - 8) := by rw [eg8 c8]; omega
    have hb' := hb
    unfold rng at hb'
    have hsh : bAnd .u8 (bShr .u8 b (IntKind.i64.wrap (g - 8))) 1 = b / 2 ^ (g - 8).toNat % 2 := by
      rw [eg8 c8, shr8 (k := .u8) (g - 8).toNat (by show _ ≤ 8; omega)]
      have h0 : 0 ≤ b / 2 ^ (g - 8).toNat := Int.ediv_nonneg hb'.1 (Int.le_of_lt (Int.pow_pos (by decide)))
      have h1 : b / 2 ^ (g - 8).toNat ≤ b := Int.ediv_le_self _ hb'.1
      exact and8_1 ⟨h0, by omega⟩
    have hu' : upW b g w = if b / 2 ^ (g - 8).toNat % 2 = 1 then (if w ≤ 125 then w + 2 else w) else (if 2 ≤ w then w - 2 else w) := by
      unfold upW; rw [if_neg (by omega)]
    by_cases cb : b / 2 ^ (g - 8).toNat % 2 = 1
    · rw [if_pos cb] at hu'
      have d4 : ((bAnd .u8 (bShr .u8 b (IntKind.i64.wrap (g - 8))) 1 : Int) == 1) = true := by rw [hsh, cb]; rfl
      by_cases cw : w ≤ 125
      · rw [if_pos cw] at hu'
        have ew : IntKind.i64.wrap (w + 2) = w + 2 := i64_in _ (by omega)
        have := R.up i g w s c0 hm hP0 em d3 w3 d4 (by simpa using cw) hok (outc _ (by rw [ew, hu']))
        rw [ei, eg, ew, ← hu'] at this; exact this
      · rw [if_neg cw] at hu'
        have := R.top i g w s c0 hm hP0 em d3 w3 d4 (by simpa using cw) hok (outc _ hu'.symm)
        rw [ei, eg] at this; rw [hu']; exact this
    · rw [if_neg cb] at hu'
      have cb0 : b / 2 ^ (g - 8).toNat % 2 = 0 := by omega
      have d4 : ((bAnd .u8 (bShr .u8 b (IntKind.i64.wrap (g - 8))) 1 : Int) == 1) = false := by rw [hsh, cb0]; rfl
      have d5 : ((bAnd .u8 (bShr .u8 b (IntKind.i64.wrap (g - 8))) 1 : Int) == 0) = true := by rw [hsh, cb0]; rfl
      by_cases cw : 2 ≤ w
      · rw [if_pos cw] at hu'
        have ew : IntKind.i64.wrap (w - 2) = w - 2 := i64_in _ (by omega)
        have := R.down i g w s c0 hm hP0 em d3 w3 d4 d5 (by simpa using cw) hok (outc _ (by rw [ew, hu']))
        rw [ei, eg, ew, ← hu'] at this; exact this
      · rw [if_neg cw] at hu'
        have := R.low i g w s c0 hm hP0 em d3 w3 d4 d5 (by simpa using cw) hok (outc _ hu'.symm)
        rw [ei, eg] at this; rw [hu']; exact this
  · have hu' : upW b g w = w := by unfold upW; rw [if_pos (by omega)]
    have := R.still i g w s c0 hm hP0 em (by simpa using c8) hok (outc _ hu'.symm)
    rw [ei, eg] at this; rw [hu']; exact this

theorem sam_all : ∀ (n : Nat) (g w : Int) (s : Snd), g + n = 15 → 0 ≤ g → 0 ≤ P * g → P * g + P * n = 15 * P → Sam b P g w 0 s → 0 ≤ w ∧ w ≤ 127 → ∃ r : SamS, r.2.1 = 16 ∧ LoopR rel (P * g, g, w, false, s) (.inl r)
  | 0, g, w, s, hn, g0, p0, p1, h, hw => by
    have e15 : g = 15 := by omega
    subst e15
    have st := sam_round R hP hb h ⟨by decide, by decide⟩ rfl ⟨p0, by omega⟩ hw
    have eN : (IntKind.i64.wrap ((IntKind.i64.wrap ((IntKind.i64.wrap (16 * P)) - P)) + 1)) = 15 * P + 1 := by
      rw [i64_in (16 * P) (by omega), i64_in (16 * P - P) (by omega), i64_in _ (by omega)]; omega
    refine ⟨(P * 15 + 1, 16, upW b 15 w, false, sClock s), rfl, .more st (.last ?_)⟩
    exact R.out _ _ _ _ (by rw [eN]; simp; omega)
  | n + 1, g, w, s, hn, g0, p0, p1, h, hw => by
    have e1 : P * (g + 1) = P * g + P := by rw [Int.mul_add, Int.mul_one]
    have e2 : P * ((n + 1 : Nat) : Int) = P * n + P := by rw [show ((n + 1 : Nat) : Int) = (n : Int) + 1 by omega, Int.mul_add, Int.mul_one]
    have pn : 0 ≤ P * (n : Int) := Int.mul_nonneg (by omega) (by omega)
    rw [e2] at p1
    have st := sam_round R hP hb h ⟨g0, by omega⟩ rfl ⟨p0, by omega⟩ hw
    have hf := sam_fire h (by omega)
    have ih := fun s' hs' => sam_all n (g + 1) (upW b g w) s' (by omega) (by omega) (by omega) (by omega) hs' (upW_rng b g hw)
    -- the end does not hang on the path: it is told state by state
    obtain ⟨s', hs', hr⟩ : ∃ s', Sam b P (g + 1) (upW b g w) 0 s' ∧ ∀ r, LoopR rel (P * g + P, g + 1, upW b g w, false, s') r → LoopR rel (P * g + 1, g + 1, upW b g w, false, sClock s) r := by
      refine ⟨iterS sClock (P - 1).toNat (sClock s), ?_, fun r hr => ?_⟩
      · have : ∀ (k : Nat) (s : Snd), Sam b P (g + 1) (upW b g w) k s → Sam b P (g + 1) (upW b g w) 0 (iterS sClock k s) := by
          intro k
          induction k with
          | zero => intro s h; exact h
          | succ k ih =>
            intro s h
            simp only [iterS]
            have h' := sam_idle h (by omega)
            have ek : ((k + 1 : Nat) : Int) - 1 = (k : Int) := by omega
            rw [ek] at h'
            exact ih _ h'
        refine this (P - 1).toNat _ ?_
        have ek : (((P - 1).toNat : Nat) : Int) = P - 1 := by omega
        rw [ek]; exact hf
      · have : ∀ (k : Nat) (j : Int) (s : Snd), Sam b P (g + 1) (upW b g w) k s → 1 ≤ j → j + k = P → LoopR rel (P * g + P, g + 1, upW b g w, false, iterS sClock k s) r → LoopR rel (P * g + j, g + 1, upW b g w, false, s) r := by
          intro k
          induction k with
          | zero => intro j s h hj hk L; have : j = P := by omega
                    subst this; exact L
          | succ k ih =>
            intro j s h hj hk L
            have eN : (IntKind.i64.wrap ((IntKind.i64.wrap ((IntKind.i64.wrap (16 * P)) - P)) + 1)) = 15 * P + 1 := by
              rw [i64_in (16 * P) (by omega), i64_in (16 * P - P) (by omega), i64_in _ (by omega)]; omega
            have em : ((Int.tmod (P * g + j) P : Int) != 0) = true := by
              rw [Int.tmod_eq_emod_of_nonneg (by omega), Int.add_comm, Int.add_mul_emod_self_left, Int.emod_eq_of_lt (by omega) (by omega)]
              simp; omega
            have ei : IntKind.i64.wrap (P * g + j + 1) = P * g + (j + 1) := by rw [i64_in _ (by omega)]; omega
            have st := R.idle (P * g + j) (g + 1) (upW b g w) s (by rw [eN]; simp; omega) h.inv.c.1 (by omega) em
            rw [ei] at st
            have h' := sam_idle h (by omega)
            have ek : ((k + 1 : Nat) : Int) - 1 = (k : Int) := by omega
            rw [ek] at h'
            exact .more st (ih (j + 1) _ h' (by omega) (by omega) L)
        have ek : (((P - 1).toNat : Nat) : Int) = P - 1 := by omega
        refine this (P - 1).toNat 1 (sClock s) (by rw [ek]; exact hf) (by decide) (by omega) hr
    obtain ⟨r, h16, L⟩ := ih s' hs'
    rw [e1] at L
    exact ⟨r, h16, .more st (hr _ L)⟩
end

theorem reg0 (rate end_ : Int) (hr : rng 256 rate) (he : rng 256 end_) :
    rng 256 (bOr .u8 (bAnd .u8 rate 15) (bAnd .u8 end_ 192)) ∧ bOr .u8 (bAnd .u8 rate 15) (bAnd .u8 end_ 192) % 16 = rate % 16 ∧ bOr .u8 (bAnd .u8 rate 15) (bAnd .u8 end_ 192) / 64 % 2 = end_ / 64 % 2 ∧
      bOr .u8 (bAnd .u8 rate 15) (bAnd .u8 end_ 192) / 128 % 2 = end_ / 128 % 2 := by
  have hr' := hr
  have he' := he
  unfold rng at hr' he'
  have e1 : bAnd .u8 rate 15 = ((rate % 16).toNat : Int) := by rw [and8_15 hr]; omega
  have e2 : bAnd .u8 end_ 192 = ((end_ / 64).toNat * 64 : Nat) := by
    have h := allN_int (k := 8) (f := fun i => decide (bAnd .u8 (i : Int) 192 = ((((i : Int) / 64).toNat * 64 : Nat) : Int))) (by decide +kernel) end_ he'.1 (by omega)
    have e : ((end_.toNat : Nat) : Int) = end_ := by omega
    simpa [e] using h
  have hall : ∀ (x : Fin 16) (y : Fin 4), bOr .u8 ((x.val : Nat) : Int) ((y.val * 64 : Nat) : Int) % 16 = x.val ∧ bOr .u8 ((x.val : Nat) : Int) ((y.val * 64 : Nat) : Int) / 64 = y.val := by decide +kernel
  have h := hall ⟨(rate % 16).toNat, by omega⟩ ⟨(end_ / 64).toNat, by omega⟩
  simp only at h
  rw [e1, e2]
  obtain ⟨h1, h2⟩ := h
  refine ⟨rng_bOr_u8 _ _, by omega, by omega, by omega⟩

theorem get16 (x0 x1 x2 x3 x4 x5 x6 : Bool) : bAnd .u8 (getF [x0, x1, x2, x3, x4, false, x5, x6]) 16 = if x4 then 16 else 0 := by
  revert x0 x1 x2 x3 x4 x5 x6; decide +kernel

theorem en_off {k : Int} {t : Tone} (h : RInv k t) (hs : k = 2 → t.step = 0) : QInv k (tEnable t false) := by
  obtain ⟨h1, _, _, h4, _, h6, h7⟩ := enable_q t false
  exact ⟨rinv_cl.en k t false h, h7, fun e => h4.trans (hs e)⟩

/-- The sample behind its registers, enabled. -/
def m0 (v level place : Int) : Smp := ((((sNew.sample.put 0 v).put 1 level).put 2 place).put 3 0).enable true

theorem sam_true (rate place level end_ : Int) (N d : Nat) (bytes : Nat → Int) (hr : rng 256 rate) (hp : rng 256 place) (hl : rng 256 level) (he : rng 256 end_) (hby : ∀ j, rng 256 (bytes j)) :
    FnSpec Tryd.prog 8 1001 [.int .u8 rate, .int .u8 place, .int .u8 level, .int .u8 end_, .slice (some ⟨1000, 0, (some d)⟩) N 0] [tb0, tb1, tb2, tb3, tb4, (1000, ⟨[.gap d, .ints .u8 N bytes], 5, true⟩)] (.bool true) [] := by
  obtain ⟨hv, v16, v64, v128⟩ := reg0 rate end_ hr he
  have hr' := hr
  have hp' := hp
  have hl' := hl
  have he' := he
  unfold rng at hr' hp' hl' he'
  have PG := lawSam_p1 rate place level end_ N d bytes hr hp hl he hby awake_t
  have PH := lawSam_p3 rate place level end_ N d bytes hr hp hl he hby awake_t
  have wid : ∀ {v : Value}, FnSpec Tryd.prog 8 1001 [.int .u8 rate, .int .u8 place, .int .u8 level, .int .u8 end_, .slice (some ⟨1000, 0, (some d)⟩) N 0] [tb0, tb1, tb2, tb3, (1000, ⟨[.gap d, .ints .u8 N bytes], 5, true⟩)] v [] →
      FnSpec Tryd.prog 8 1001 [.int .u8 rate, .int .u8 place, .int .u8 level, .int .u8 end_, .slice (some ⟨1000, 0, (some d)⟩) N 0] [tb0, tb1, tb2, tb3, tb4, (1000, ⟨[.gap d, .ints .u8 N bytes], 5, true⟩)] v [] :=
    fun h => h.wid _ ⟨rfl, rfl, rfl, rfl, rfl, trivial⟩
  generalize hvv : bOr .u8 (bAnd .u8 rate 15) (bAnd .u8 end_ 192) = v at *
  -- the state behind the registers
  have es : sPut_21 (sPut_19 (sPut_18 (sPut_17 (sPut_16 sNew v) level) place) 0) 16 = { enS sNew 16 with sample := m0 v level place } := by
    have e1 : sPut_16 sNew v = { sNew with sample := sNew.sample.put 0 v } := (mput_eq sNew v hv).1
    have i1 := mput_inv new_minv 0 hv
    have e2 : sPut_17 (sPut_16 sNew v) level = { sNew with sample := (sNew.sample.put 0 v).put 1 level } := by rw [e1]; exact (mput_eq _ level hl).2.1
    have i2 := mput_inv i1 1 hl
    have e3 : sPut_18 (sPut_17 (sPut_16 sNew v) level) place = { sNew with sample := ((sNew.sample.put 0 v).put 1 level).put 2 place } := by rw [e2]; exact (mput_eq _ place hp).2.2.1
    have i3 := mput_inv i2 2 hp
    have e4 : sPut_19 (sPut_18 (sPut_17 (sPut_16 sNew v) level) place) 0 = { sNew with sample := (((sNew.sample.put 0 v).put 1 level).put 2 place).put 3 0 } := by rw [e3]; exact (mput_eq _ 0 (by decide)).2.2.2
    have i4 := mput_inv i3 3 (b := 0) (by decide)
    rw [e4]
    exact (en_eq _ 16 i4 (by decide)).trans rfl
  have im : MInv (m0 v level place) := enable_inv (mput_inv (mput_inv (mput_inv (mput_inv new_minv 0 hv) 1 hl) 2 hp) 3 (by decide)) true
  have qs : SInv QInv ({ enS sNew 16 with sample := m0 v level place } : Snd) := by
    refine ⟨?_, ?_, ?_, ?_, im, new_cinv⟩
    · exact en_off (k := 0) ⟨tNew_0_w, rfl, by decide, by decide⟩ (fun h => by cases h)
    · exact en_off (k := 1) ⟨tNew_1_w, rfl, by decide, by decide⟩ (fun h => by cases h)
    · exact en_off (k := 2) ⟨tNew_2_w, rfl, by decide, by decide⟩ (fun h => rfl)
    · exact en_off (k := 3) ⟨tNew_3_w, rfl, by decide, by decide⟩ (fun h => by cases h)
  rw [es] at PG PH
  generalize hS : ({ enS sNew 16 with sample := m0 v level place } : Snd) = S at *
  have hSm : S.sample = m0 v level place := by rw [← hS]
  have hirq : S.irq = false := by rw [← hS]; rfl
  have f1 : S.sample.waits = false := by rw [hSm]; rfl
  have f2 : S.sample.left = 1 := by rw [hSm]; rfl
  have f3 : S.sample.at_ = 49152 + 64 * place := by rw [hSm]; rfl
  have f4 : S.sample.reg 0 = v := by rw [hSm]; rfl
  have f5 : S.sample.irq = false := by rw [hSm]; rfl
  have f6 : S.sample.level = level % 128 := by rw [hSm]; rfl
  have f7 : S.sample.bits = 8 := by rw [hSm]; rfl
  have f8 : S.sample.speaks = false := by rw [hSm]; rfl
  have f9 : S.sample.timer = 0 := by rw [hSm]; rfl
  have a0 : sAsks S = (49152 + 64 * place, true) := by
    unfold sAsks
    rw [asks_eq, f1, f2, f3]; rfl
  have eu : (IntKind.u16.wrap (49152 + (IntKind.u16.wrap (64 * (IntKind.u16.wrap place))))) = 49152 + 64 * place := by
    rw [u16_in place (by omega), u16_in (64 * place) (by omega), u16_in _ (by omega)]
  have c2 : (!((sAsks S).2)) = false := by rw [a0]; rfl
  have c3 : (((sAsks S).1 : Int) != (IntKind.u16.wrap (49152 + (IntKind.u16.wrap (64 * (IntKind.u16.wrap place)))))) = false := by rw [a0, eu]; simp
  have e127 : bAnd .u8 level 127 = level % 128 := and8_127 hl
  have el : IntKind.i64.wrap (bAnd .u8 level 127) = level % 128 := by rw [e127, i64_in _ (by omega)]
  have eP : (List.getD ([428, 380, 340, 320, 286, 254, 226, 214, 190, 160, 142, 128, 106, 84, 72, 54] : List Int) (Int.toNat (bAnd .u8 rate 15)) 0) = ratesT (rate % 16).toNat := by rw [and8_15 hr]; rfl
  have hP := rates_pos (rate % 16).toNat (by omega)
  rw [el] at PG PH
  -- behind the byte
  have given : ∀ b : Int, rng 256 b → (sAsks (sGive S b)).2 = false ∧ (((sAsks (sGive S b)).1 : Int) != 0) = false ∧ (!((sIRQ (sGive S b)) == (((bAnd .u8 end_ 192) : Int) == 128))) = false ∧
      (((bAnd .u8 ((sGet (sGive S b)).2) 16) : Int) != (bShr .u8 (bAnd .u8 end_ 64) 2)) = false ∧ Sam b (ratesT (rate % 16).toNat) 0 (level % 128) 0 ((sGet (sGive S b)).1) := by
    intro b hb
    have eg := give_eq S b qs.m hb
    have hi : SInv QInv (sGive S b) := sinv_give qs hb
    have ec : S.sample.give b = (if end_ / 64 % 2 = 1 then { S.sample with next := b, waits := true, at_ := 49152 + 64 * S.sample.reg 2, left := 16 * S.sample.reg 3 + 1 }
        else if end_ / 128 % 2 = 1 then { S.sample with next := b, waits := true, at_ := if S.sample.at_ = 65535 then 32768 else S.sample.at_ + 1, left := 0, irq := true }
        else { S.sample with next := b, waits := true, at_ := if S.sample.at_ = 65535 then 32768 else S.sample.at_ + 1, left := 0 }) := by
      unfold Smp.give
      rw [if_neg (by rw [f1, f2]; simp), if_neg (by rw [f2]; decide), f4, v64, v128]
    have g1 : (sGive S b).sample.waits = true ∧ (sGive S b).sample.next = b ∧ (sGive S b).sample.level = level % 128 ∧ (sGive S b).sample.reg = S.sample.reg ∧ (sGive S b).sample.bits = 8 ∧ (sGive S b).sample.speaks = false ∧ (sGive S b).sample.timer = 0 := by
      rw [eg]
      show (S.sample.give b).waits = true ∧ (S.sample.give b).next = b ∧ (S.sample.give b).level = level % 128 ∧ (S.sample.give b).reg = S.sample.reg ∧ (S.sample.give b).bits = 8 ∧ (S.sample.give b).speaks = false ∧ (S.sample.give b).timer = 0
      rw [ec]
      (repeat' split) <;> exact ⟨rfl, rfl, f6, rfl, f7, f8, f9⟩
    have hS3 : S.sample.reg 3 = 0 := by rw [hSm]; rfl
    have g2 : decide (0 < (sGive S b).sample.left) = decide (end_ / 64 % 2 = 1) ∧ (sGive S b).sample.irq = (decide (end_ / 128 % 2 = 1) && !decide (end_ / 64 % 2 = 1)) ∧ (sGive S b).irq = false := by
      rw [eg]
      show decide (0 < (S.sample.give b).left) = decide (end_ / 64 % 2 = 1) ∧ (S.sample.give b).irq = (decide (end_ / 128 % 2 = 1) && !decide (end_ / 64 % 2 = 1)) ∧ S.irq = false
      rw [ec]
      by_cases q1 : end_ / 64 % 2 = 1
      · rw [if_pos q1, hS3]; simp [q1, f5, hirq]
      · rw [if_neg q1]
        by_cases q2 : end_ / 128 % 2 = 1
        · rw [if_pos q2]; simp [q1, q2, hirq]
        · rw [if_neg q2]; simp [q1, q2, f5, hirq]
    have a1 : sAsks (sGive S b) = (0, false) := by
      unfold sAsks
      rw [asks_eq, g1.1]; rfl
    refine ⟨by rw [a1], by rw [a1]; rfl, ?_, ?_, ?_⟩
    · unfold sIRQ
      rw [g2.2.2, g2.2.1]
      have h := allN_int (k := 8) (f := fun i => ((bAnd .u8 (i : Int) 192 : Int) == 128) == (decide ((i : Int) / 128 % 2 = 1) && !decide ((i : Int) / 64 % 2 = 1))) (by decide +kernel) end_ he'.1 (by omega)
      have e : ((end_.toNat : Nat) : Int) = end_ := by omega
      simp only [e] at h
      simp only [Bool.false_eq_true, if_false]
      rw [eq_of_beq h]; simp
    · show ((bAnd .u8 (getF (sLives (sGive S b))) 16 : Int) != _) = false
      unfold sLives
      rw [get16]
      have hd : decide ((sGive S b).sample.left > 0) = decide (end_ / 64 % 2 = 1) := g2.1
      rw [hd, and8_64 he]
      by_cases q1 : end_ / 64 % 2 = 1
      · rw [q1]; decide
      · have q0 : end_ / 64 % 2 = 0 := by omega
        rw [q0]; decide
    · refine ⟨sinv_get hi, g1.2.2.1, ?_, g1.2.2.2.2.2.2, .inl ⟨by decide, by decide, g1.2.2.2.2.1, g1.2.2.2.2.2.1, g1.1, g1.2.1⟩⟩
      show ratesT ((sGive S b).sample.reg 0 % 16).toNat = _
      rw [g1.2.2.2.1, f4, v16]
  have outs : ∀ {s : Snd} {b P : Int}, Sam b P 0 (level % 128) 0 s → (((sOut s) : Int) != (IntKind.i64.wrap (12765 + (IntKind.i64.wrap (335 * (level % 128)))))) = false := by
    intro s b P h
    rw [q_sout h.inv, h.lev, i64_in (335 * (level % 128)) (by omega), i64_in _ (by omega)]
    simp
  rcases bt (decide ((((N : Nat) : Int) : Int) > 0)) with c4 | c4
  · obtain ⟨k1, k2, k3, k4, k5⟩ := given (bytes 0) (hby 0)
    have R : SamR (lawSam_L1nnnynnnnn rate place level end_ N d bytes) (List.getD ([428, 380, 340, 320, 286, 254, 226, 214, 190, 160, 142, 128, 106, 84, 72, 54] : List Int) (Int.toNat (bAnd .u8 rate 15)) 0) (bytes 0) :=
      ⟨fun _ _ _ _ h1 h2 h3 h4 => .p1 h1 h2 h3 h4, fun _ _ _ _ h1 h2 h3 h4 h5 h6 h7 h8 h9 h10 => .p3 h1 h2 h3 h4 h5 h6 h7 h8 h9 h10, fun _ _ _ _ h1 h2 h3 h4 h5 h6 h7 h8 h9 h10 => .p5 h1 h2 h3 h4 h5 h6 h7 h8 h9 h10,
        fun _ _ _ _ h1 h2 h3 h4 h5 h6 h7 h8 h9 h10 h11 => .p7 h1 h2 h3 h4 h5 h6 h7 h8 h9 h10 h11, fun _ _ _ _ h1 h2 h3 h4 h5 h6 h7 h8 h9 h10 h11 => .p9 h1 h2 h3 h4 h5 h6 h7 h8 h9 h10 h11, fun _ _ _ _ h1 h2 h3 h4 h5 h6 h7 => .p13 h1 h2 h3 h4 h5 h6 h7, fun _ _ _ _ h1 => .p14 h1⟩
    rw [eP] at R
    obtain ⟨r, r16, L⟩ := sam_all R hP (hby 0) 15 0 (level % 128) _ (by decide) (by decide) (by simp) (by simp; omega) k5 (by omega)
    have := PG c2 c3 c4 k1 k2 k3 k4 (outs k5) r (by rw [Int.mul_zero] at L; exact L)
    rw [r16] at this
    exact wid this
  · obtain ⟨k1, k2, k3, k4, k5⟩ := given 85 (by decide)
    have R : SamR (lawSam_L1nnnnnnnnn rate place level end_ N d bytes) (List.getD ([428, 380, 340, 320, 286, 254, 226, 214, 190, 160, 142, 128, 106, 84, 72, 54] : List Int) (Int.toNat (bAnd .u8 rate 15)) 0) 85 :=
      ⟨fun _ _ _ _ h1 h2 h3 h4 => .p1 h1 h2 h3 h4, fun _ _ _ _ h1 h2 h3 h4 h5 h6 h7 h8 h9 h10 => .p3 h1 h2 h3 h4 h5 h6 h7 h8 h9 h10, fun _ _ _ _ h1 h2 h3 h4 h5 h6 h7 h8 h9 h10 => .p5 h1 h2 h3 h4 h5 h6 h7 h8 h9 h10,
        fun _ _ _ _ h1 h2 h3 h4 h5 h6 h7 h8 h9 h10 h11 => .p7 h1 h2 h3 h4 h5 h6 h7 h8 h9 h10 h11, fun _ _ _ _ h1 h2 h3 h4 h5 h6 h7 h8 h9 h10 h11 => .p9 h1 h2 h3 h4 h5 h6 h7 h8 h9 h10 h11, fun _ _ _ _ h1 h2 h3 h4 h5 h6 h7 => .p13 h1 h2 h3 h4 h5 h6 h7, fun _ _ _ _ h1 => .p14 h1⟩
    rw [eP] at R
    obtain ⟨r, r16, L⟩ := sam_all R hP (by decide) 15 0 (level % 128) _ (by decide) (by decide) (by simp) (by simp; omega) k5 (by omega)
    have := PH c2 c3 c4 k1 k2 k3 k4 (outs k5) r (by rw [Int.mul_zero] at L; exact L)
    rw [r16] at this
    exact wid this

end Go.Proofs.YtgpcfjokmonlgaaDoor
