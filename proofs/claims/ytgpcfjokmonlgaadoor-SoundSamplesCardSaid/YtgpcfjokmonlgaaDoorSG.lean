/-
  Layer 12: what holds of all voices, the sample and the count, whatever is done. No condition.
-/
import Derived.Test.YtgpcfjokmonlgaaDoorSF
namespace Go.Proofs.YtgpcfjokmonlgaaDoor
open Go VX IntWalk
set_option maxRecDepth 100000
set_option linter.unusedSimpArgs false
set_option linter.unusedVariables false

def tPutN (r : Nat) (t : Tone) (b : Int) : Tone := if r = 0 then tPut_0 t b else if r = 1 then tPut_1 t b else if r = 2 then tPut_2 t b else tPut_3 t b
def enS (s : Snd) (b : Int) : Snd :=
  { s with tones_0 := tEnable s.tones_0 (decide (b % 2 = 1)), tones_1 := tEnable s.tones_1 (decide (b / 2 % 2 = 1)), tones_2 := tEnable s.tones_2 (decide (b / 4 % 2 = 1)), tones_3 := tEnable s.tones_3 (decide (b / 8 % 2 = 1)),
           sample := s.sample.enable (decide (b / 16 % 2 = 1)) }
def reT (b : Int) (t : Tone) : Tone := if b / 128 % 2 = 1 then tHalf (tQuarter t) else t
def reS (s : Snd) (b : Int) : Snd :=
  { s with tones_0 := reT b s.tones_0, tones_1 := reT b s.tones_1, tones_2 := reT b s.tones_2, tones_3 := reT b s.tones_3,
           count := 0, manner := if b / 128 % 2 = 1 then 1 else 0, bars := decide (b / 64 % 2 = 1), irq := s.irq && !decide (b / 64 % 2 = 1) }

theorem bitd (x : Int) (m : Int) (hm : m ≠ 0) : ((x % 2 * m : Int) != 0) = decide (x % 2 = 1) := by
  by_cases c : x % 2 = 1
  · rw [c]; simp [hm]
  · have : x % 2 = 0 := by omega
    rw [this]; simp

theorem restart_eq (s : Snd) (b : Int) (hb : rng 256 b) : sRestart s b = reS s b := by
  unfold sRestart reS reT
  rw [and8_128 hb, and8_64 hb, bitd (b / 64) 64 (by decide), bitd (b / 128) 128 (by decide)]
  by_cases c : b / 128 % 2 = 1
  · cases hi : s.irq <;> simp [c]
  · cases hi : s.irq <;> simp [c]

theorem shb (b : Int) (hb : rng 256 b) (k : Nat) (hk : k < 8) : ((bAnd .u8 (bShr .u8 b (k : Int)) 1 : Int) != 0) = decide (b / 2 ^ k % 2 = 1) := by
  have h : bShr .u8 b (k : Int) = b / 2 ^ k := shr8 (k := .u8) k (by show k ≤ 8; omega)
  have h0 : 0 ≤ b / 2 ^ k := Int.ediv_nonneg hb.1 (Int.le_of_lt (Int.pow_pos (by decide)))
  have h1 : b / 2 ^ k ≤ b := Int.ediv_le_self _ hb.1
  have hb2 := hb.2
  rw [h, and8_1 ⟨h0, by omega⟩]
  have := bitd (b / 2 ^ k) 1 (by decide)
  rw [Int.mul_one] at this
  exact this

theorem en_eq (s : Snd) (b : Int) (h : MInv s.sample) (hb : rng 256 b) : sPut_21 s b = enS s b := by
  unfold sPut_21 enS
  have e0 := shb b hb 0 (by decide)
  have e1 := shb b hb 1 (by decide)
  have e2 := shb b hb 2 (by decide)
  have e3 := shb b hb 3 (by decide)
  simp only [Int.pow_zero, Int.ediv_one, Int.cast_ofNat_Int] at e0 e1 e2 e3
  rw [show (2 : Int) ^ 1 = 2 by decide] at e1
  rw [show (2 : Int) ^ 2 = 4 by decide] at e2
  rw [show (2 : Int) ^ 3 = 8 by decide] at e3
  rw [e0, e1, e2, e3, and8_16 hb, bitd (b / 16) 16 (by decide)]
  refine (enable_eq _ _ ?_).trans ?_
  · exact h
  · rfl

/-- A register: which of the things that there are is done. -/
theorem put_ind {P : Snd → Prop} (s : Snd) (at_ b : Int) (hm : MInv s.sample) (hb : rng 256 b)
    (no : (at_ < 16384 ∨ 16407 < at_ ∨ at_ = 16404 ∨ at_ = 16406) → P s)
    (t0 : ∀ r : Nat, r < 4 → at_ = 16384 + r → P { s with tones_0 := tPutN r s.tones_0 b })
    (t1 : ∀ r : Nat, r < 4 → at_ = 16388 + r → P { s with tones_1 := tPutN r s.tones_1 b })
    (t2 : ∀ r : Nat, r < 4 → at_ = 16392 + r → P { s with tones_2 := tPutN r s.tones_2 b })
    (t3 : ∀ r : Nat, r < 4 → at_ = 16396 + r → P { s with tones_3 := tPutN r s.tones_3 b })
    (m : ∀ r : Nat, r < 4 → at_ = 16400 + r → P { s with sample := s.sample.put r b })
    (en : at_ = 16405 → P (enS s b)) (re : at_ = 16407 → P (reS s b)) : P (sPut s at_ b) := by
  have hmp := mput_eq s b hb
  unfold sPut
  split
  · rename_i h
    obtain h | h | h | h | h | h | h | h | h | h | h | h | h | h | h | h | h | h | h | h | h | h | h | h := (show at_ = 16384 ∨ at_ = 16385 ∨ at_ = 16386 ∨ at_ = 16387 ∨ at_ = 16388 ∨ at_ = 16389 ∨ at_ = 16390 ∨ at_ = 16391 ∨ at_ = 16392 ∨ at_ = 16393 ∨ at_ = 16394 ∨ at_ = 16395 ∨ at_ = 16396 ∨ at_ = 16397 ∨ at_ = 16398 ∨ at_ = 16399 ∨ at_ = 16400 ∨ at_ = 16401 ∨ at_ = 16402 ∨ at_ = 16403 ∨ at_ = 16404 ∨ at_ = 16405 ∨ at_ = 16406 ∨ at_ = 16407 by omega)
    · have := t0 0 (by decide) (by omega); subst h; exact this
    · have := t0 1 (by decide) (by omega); subst h; exact this
    · have := t0 2 (by decide) (by omega); subst h; exact this
    · have := t0 3 (by decide) (by omega); subst h; exact this
    · have := t1 0 (by decide) (by omega); subst h; exact this
    · have := t1 1 (by decide) (by omega); subst h; exact this
    · have := t1 2 (by decide) (by omega); subst h; exact this
    · have := t1 3 (by decide) (by omega); subst h; exact this
    · have := t2 0 (by decide) (by omega); subst h; exact this
    · have := t2 1 (by decide) (by omega); subst h; exact this
    · have := t2 2 (by decide) (by omega); subst h; exact this
    · have := t2 3 (by decide) (by omega); subst h; exact this
    · have := t3 0 (by decide) (by omega); subst h; exact this
    · have := t3 1 (by decide) (by omega); subst h; exact this
    · have := t3 2 (by decide) (by omega); subst h; exact this
    · have := t3 3 (by decide) (by omega); subst h; exact this
    · have := m 0 (by decide) (by omega); subst h; show P (mPut_0 s b); rw [hmp.1]; exact this
    · have := m 1 (by decide) (by omega); subst h; show P (mPut_1 s b); rw [hmp.2.1]; exact this
    · have := m 2 (by decide) (by omega); subst h; show P (mPut_2 s b); rw [hmp.2.2.1]; exact this
    · have := m 3 (by decide) (by omega); subst h; show P (mPut_3 s b); rw [hmp.2.2.2]; exact this
    · have := no (by omega); subst h; exact this
    · have := en h; subst h; show P (sPut_21 s b); rw [en_eq s b hm hb]; exact this
    · have := no (by omega); subst h; exact this
    · have := re h; subst h; show P (sRestart s b); rw [restart_eq s b hb]; exact this
  · exact no (by omega)

-- ---------------------------------------------------------------- what holds at all times

/-- What a cycle leaves. -/
structure ClC (p : Int → Tone → Prop) : Prop where
  ok : ∀ k t, p k t → Tone.ok t
  q : ∀ k t, p k t → p k (tQuarter t)
  h : ∀ k t, p k t → p k (tHalf t)
  c : ∀ k t, p k t → p k (tClock t)
structure Cl (p : Int → Tone → Prop) : Prop extends ClC p where
  put : ∀ k t r b, r < 4 → rng 256 b → p k t → p k (tPutN r t b)
  en : ∀ k t on, p k t → p k (tEnable t on)

def CInv (s : Snd) : Prop := Man s ∧ 0 ≤ s.count ∧ s.count ≤ lastC s
structure SInv (p : Int → Tone → Prop) (s : Snd) : Prop where
  t0 : p 0 s.tones_0
  t1 : p 1 s.tones_1
  t2 : p 2 s.tones_2
  t3 : p 3 s.tones_3
  m : MInv s.sample
  c : CInv s

theorem SInv.ok {p : Int → Tone → Prop} (cl : ClC p) {s : Snd} (h : SInv p s) : Snd.ok s := ⟨cl.ok _ _ h.t0, cl.ok _ _ h.t1, cl.ok _ _ h.t2, cl.ok _ _ h.t3, h.m.ok⟩

theorem man_cases {s : Snd} (h : Man s) : (s.manner = 0 ∧ lastC s = 29829) ∨ (s.manner = 1 ∧ lastC s = 37281) := by
  rcases h with h | h
  · exact .inl ⟨h, by unfold lastC; rw [if_neg (by omega)]⟩
  · exact .inr ⟨h, by unfold lastC; rw [if_pos h]⟩

theorem cinv_clock {s : Snd} (h : CInv s) : CInv (clockS s) := by
  obtain ⟨hm, h0, h1⟩ := h
  have hl : 29829 ≤ lastC s := by rcases man_cases hm with ⟨_, e⟩ | ⟨_, e⟩ <;> rw [e] <;> decide
  refine ⟨hm, ?_, ?_⟩
  · show 0 ≤ if s.count + 1 > lastC s then 0 else s.count + 1
    split <;> omega
  · show (if s.count + 1 > lastC s then 0 else s.count + 1) ≤ lastC s
    split <;> omega

theorem beat_p {p : Int → Tone → Prop} (cl : ClC p) (s : Snd) (k : Int) (t : Tone) (h : p k t) : p k (beat s t) := by
  unfold beat
  split
  · exact cl.h _ _ (cl.q _ _ h)
  split
  · exact cl.q _ _ h
  · exact h

theorem sinv_clock {p : Int → Tone → Prop} (cl : ClC p) {s : Snd} (h : SInv p s) : sClock s = clockS s ∧ SInv p (sClock s) := by
  have e := clock_eq s h.c.1 h.c.2 h.m
  refine ⟨e, ?_⟩
  rw [e]
  refine ⟨?_, ?_, cl.c _ _ (beat_p cl s _ _ h.t2), cl.c _ _ (beat_p cl s _ _ h.t3), mclk_inv h.m, cinv_clock h.c⟩
  · show p 0 (if s.even = true then tClock (beat s s.tones_0) else beat s s.tones_0)
    split
    · exact cl.c _ _ (beat_p cl s _ _ h.t0)
    · exact beat_p cl s _ _ h.t0
  · show p 1 (if s.even = true then tClock (beat s s.tones_1) else beat s s.tones_1)
    split
    · exact cl.c _ _ (beat_p cl s _ _ h.t1)
    · exact beat_p cl s _ _ h.t1

theorem cinv_re (s : Snd) (b : Int) : CInv (reS s b) := by
  unfold CInv Man lastC reS
  by_cases c : b / 128 % 2 = 1 <;> simp [c]

theorem re_p {p : Int → Tone → Prop} (cl : ClC p) (b : Int) (k : Int) (t : Tone) (h : p k t) : p k (reT b t) := by
  unfold reT
  split
  · exact cl.h _ _ (cl.q _ _ h)
  · exact h

theorem sinv_re {p : Int → Tone → Prop} (cl : ClC p) {s : Snd} (h : SInv p s) (b : Int) : SInv p (reS s b) :=
  ⟨re_p cl b _ _ h.t0, re_p cl b _ _ h.t1, re_p cl b _ _ h.t2, re_p cl b _ _ h.t3, h.m, cinv_re s b⟩

theorem sinv_give {p : Int → Tone → Prop} {s : Snd} (h : SInv p s) {b : Int} (hb : rng 256 b) : SInv p (sGive s b) := by
  rw [give_eq s b h.m hb]
  exact ⟨h.t0, h.t1, h.t2, h.t3, give_inv h.m hb, h.c⟩

theorem sinv_get {p : Int → Tone → Prop} {s : Snd} (h : SInv p s) : SInv p (sGet s).1 := ⟨h.t0, h.t1, h.t2, h.t3, h.m, h.c⟩

theorem sinv_put {p : Int → Tone → Prop} (cl : Cl p) {s : Snd} (h : SInv p s) (at_ : Int) {b : Int} (hb : rng 256 b) : SInv p (sPut s at_ b) := by
  refine put_ind s at_ b h.m hb (fun _ => h) (fun r hr _ => ?_) (fun r hr _ => ?_) (fun r hr _ => ?_) (fun r hr _ => ?_) (fun r hr _ => ?_) (fun _ => ?_) (fun _ => ?_)
  · exact ⟨cl.put _ _ _ _ hr hb h.t0, h.t1, h.t2, h.t3, h.m, h.c⟩
  · exact ⟨h.t0, cl.put _ _ _ _ hr hb h.t1, h.t2, h.t3, h.m, h.c⟩
  · exact ⟨h.t0, h.t1, cl.put _ _ _ _ hr hb h.t2, h.t3, h.m, h.c⟩
  · exact ⟨h.t0, h.t1, h.t2, cl.put _ _ _ _ hr hb h.t3, h.m, h.c⟩
  · exact ⟨h.t0, h.t1, h.t2, h.t3, mput_inv h.m r hb, h.c⟩
  · exact ⟨cl.en _ _ _ h.t0, cl.en _ _ _ h.t1, cl.en _ _ _ h.t2, cl.en _ _ _ h.t3, enable_inv h.m _, h.c⟩
  · exact sinv_re cl.toClC h b

theorem new_minv : MInv sNew.sample := ⟨sNew_w.sample, by decide, by decide, by decide⟩
theorem new_cinv : CInv sNew := ⟨.inl rfl, by decide, by decide⟩

end Go.Proofs.YtgpcfjokmonlgaaDoor
