/-
  Layer 12: the plain law of lengths. No condition.
-/
import Derived.Test.YtgpcfjokmonlgaaDoorST
import Derived.Test.YtgpcfjokmonlgaaDoorSLen
namespace Go.Proofs.YtgpcfjokmonlgaaDoor
open Go VX IntWalk
set_option maxRecDepth 100000
set_option linter.unusedSimpArgs false
set_option linter.unusedVariables false

theorem length_alike (n : Int) (hn : 0 ≤ n ∧ n < 32) : rLength n = lengthsT n.toNat := by
  have h := allN_int (k := 5) (f := fun i => decide (rLength (i : Int) = lengthsT i)) (by decide +kernel) n hn.1 (by omega)
  have e : ((n.toNat : Nat) : Int) = n := by omega
  simpa [e] using h

/-- A voice that may have a length (o), without a hold: n halves are left. -/
structure Lv (o : Bool) (n : Int) (t : Tone) : Prop where
  ok : Tone.ok t
  on : t.on = o
  reg : t.reg 0 = 0
  len : t.length = if o = true then n else 0

theorem lv_put {o : Bool} {t : Tone} (h : Lv o 0 t) {b : Int} (hb : rng 256 b) : Lv o (lengthsT (b / 8).toNat) (tPut_3 t b) := by
  obtain ⟨_, h2, h3, _, _, _, h7⟩ := high_q ({ t with reg := upd t.reg 3 b } : Tone) b
  rw [shr8_3] at h7
  refine ⟨tPut_3_w t b h.ok hb, h2.trans h.on, ?_, ?_⟩
  · show (tHigh ({ t with reg := upd t.reg 3 b } : Tone) b).reg 0 = 0
    rw [h3]; exact h.reg
  · show (tHigh ({ t with reg := upd t.reg 3 b } : Tone) b).length = _
    rw [h7]
    show (if t.on = true then _ else t.length) = _
    have hl := h.len
    rw [h.on]
    cases o with
    | true => rfl
    | false => simpa using hl

theorem lv_beat {o : Bool} {n : Int} (hn : 0 ≤ n) {t : Tone} (h : Lv o n t) : Lv o (max (n - 1) 0) (tHalf (tQuarter t)) := by
  obtain ⟨_, q2, q3, _, _, q6, _⟩ := quarter_q t
  obtain ⟨_, h2, h3, _, _, _, h7⟩ := half_q (tQuarter t)
  have hok := tQuarter_w t h.ok
  have hl := hok.length
  have hlen := h.len
  unfold rng at hl
  refine ⟨tHalf_w _ hok, by rw [h2, q2]; exact h.on, by rw [h3, q3]; exact h.reg, ?_⟩
  rw [q3, h.reg] at h7
  rw [q6] at hl h7
  rcases h7 with ⟨c, e⟩ | ⟨e, c⟩
  · have c' : 0 < t.length := by simpa using c
    rw [e, u8_in _ (by omega)]
    cases o with
    | true => simp only [if_true] at hlen ⊢; omega
    | false => simp at hlen; omega
  · rw [e]
    rcases c with c | c | c
    · have c' : ¬ 0 < t.length := by simpa using c
      cases o with
      | true => simp only [if_true] at hlen ⊢; omega
      | false => simpa using hlen
    · exact absurd (by decide) c
    · exact absurd (by decide) c

def b0 (on : Int) : Bool := decide (on % 2 = 1)
def b1 (on : Int) : Bool := decide (on / 2 % 2 = 1)
def b2 (on : Int) : Bool := decide (on / 4 % 2 = 1)
def b3 (on : Int) : Bool := decide (on / 8 % 2 = 1)

structure LvS (on n : Int) (s : Snd) : Prop where
  t0 : Lv (b0 on) n s.tones_0
  t1 : Lv (b1 on) n s.tones_1
  t2 : Lv (b2 on) n s.tones_2
  t3 : Lv (b3 on) n s.tones_3

theorem lv_live {o : Bool} {n : Int} {t : Tone} (h : Lv o n t) : tLive t = (o && decide (0 < n)) := by
  unfold tLive
  rw [h.len]
  cases o <;> simp

theorem get15 (x0 x1 x2 x3 x4 x5 x6 : Bool) : bAnd .u8 (getF [x0, x1, x2, x3, x4, false, x5, x6]) 15 = (if x0 then 1 else 0) + (if x1 then 2 else 0) + (if x2 then 4 else 0) + (if x3 then 8 else 0) := by
  revert x0 x1 x2 x3 x4 x5 x6; decide +kernel

theorem lv_get {on n : Int} {s : Snd} (h : LvS on n s) (hon : rng 256 on) : bAnd .u8 (sGet s).2 15 = if 0 < n then on % 16 else 0 := by
  show bAnd .u8 (getF (sLives s)) 15 = _
  unfold sLives
  rw [get15, lv_live h.t0, lv_live h.t1, lv_live h.t2, lv_live h.t3]
  unfold rng at hon
  by_cases hn : 0 < n
  · simp only [hn, decide_true, Bool.and_true, if_true]
    unfold b0 b1 b2 b3
    simp only [decide_eq_true_eq]
    (repeat' split) <;> omega
  · simp [hn]

theorem lv_en (on : Int) (k : Tone) (hk : Tone.ok k) (h0 : k.reg 0 = 0) (hl : k.length = 0) (o : Bool) : Lv o 0 (tEnable k o) := by
  obtain ⟨_, h2, h3, _, _, _, h7⟩ := enable_q k o
  refine ⟨tEnable_w k o hk, h2, by rw [h3]; exact h0, ?_⟩
  rw [h7, hl]

theorem len_true (on number frames : Int) (hon : rng 256 on) (hnum : rng 256 number) (hfr : rng 256 frames) : FnSpec Tryd.prog 3 1000 [.int .u8 on, .int .u8 number, .int .u8 frames] [tb0, tb3, tb4] (.bool true) [] := by
  have hon' := hon
  unfold rng at hnum hfr hon'
  have eb : bShl .u8 number 3 = number * 8 % 256 := by
    unfold bShl
    have : (2 : Int) ^ (min (3 : Int).toNat IntKind.u8.bits) = 8 := by decide
    rw [this, IntKind.wrap_u8]
  have ebr : rng 256 (bShl .u8 number 3) := rng_bShl_u8 _ _
  have em : Int.tmod number 32 = number % 32 := Int.tmod_eq_emod_of_nonneg hnum.1
  have ef : Int.tmod frames 20 = frames % 20 := Int.tmod_eq_emod_of_nonneg hfr.1
  have e8 : bShl .u8 number 3 / 8 = number % 32 := by rw [eb]; omega
  have ew : IntKind.i64.wrap (Int.tmod number 32) = number % 32 := by rw [em, i64_in _ (by omega)]
  have hF : IntKind.i64.wrap (Int.tmod frames 20) = frames % 20 := by rw [ef, i64_in _ (by omega)]
  have hW : 0 < lengthsT (number % 32).toNat := by
    have : ∀ i : Fin 32, 0 < lengthsT i.val := by decide +kernel
    exact this ⟨(number % 32).toNat, by omega⟩
  -- the state behind the first register
  have s0 : sPut_21 sNew on = enS sNew on := en_eq sNew on new_minv hon
  have ok0 : Snd.ok (sPut_21 sNew on) := sPut_21_w sNew on sNew_w hon
  have l0 : LvS on 0 (sPut_21 sNew on) := by
    rw [s0]
    exact ⟨lv_en on _ tNew_0_w rfl rfl _, lv_en on _ tNew_1_w rfl rfl _, lv_en on _ tNew_2_w rfl rfl _, lv_en on _ tNew_3_w rfl rfl _⟩
  have LP1 := lawLen_p1 on number frames awake_t
  have LP2 := lawLen_p2 on number frames awake_t
  generalize sPut_21 sNew on = s at *
  generalize hbb : bShl .u8 number 3 = b at *
  have p3 : ∀ s, sPut s 16387 b = { s with tones_0 := tPut_3 s.tones_0 b } := fun s => rfl
  have p7 : ∀ s, sPut s 16391 b = { s with tones_1 := tPut_3 s.tones_1 b } := fun s => rfl
  have p11 : ∀ s, sPut s 16395 b = { s with tones_2 := tPut_3 s.tones_2 b } := fun s => rfl
  have p15 : ∀ s, sPut s 16399 b = { s with tones_3 := tPut_3 s.tones_3 b } := fun s => rfl
  have w : ∀ (s : Snd) (a : Int), Snd.ok s → rng 65536 a → Snd.ok (sPut s a b) := fun s a h ha => sPut_w s a b h ha ebr
  have L1 : LoopR (lawLen_L1n on number frames) (0, s) (4, sPut (sPut (sPut (sPut s 16387 b) 16391 b) 16395 b) 16399 b) := by
    have k0 : ∀ s, Snd.ok s → lawLen_L1n on number frames (0, s) (.inl (1, sPut s 16387 b)) := fun s h => by rw [← hbb]; exact .p1 (xd := (0, s)) rfl h
    have k1 : ∀ s, Snd.ok s → lawLen_L1n on number frames (1, s) (.inl (2, sPut s 16391 b)) := fun s h => by rw [← hbb]; exact .p1 (xd := (1, s)) rfl h
    have k2 : ∀ s, Snd.ok s → lawLen_L1n on number frames (2, s) (.inl (3, sPut s 16395 b)) := fun s h => by rw [← hbb]; exact .p1 (xd := (2, s)) rfl h
    have k3 : ∀ s, Snd.ok s → lawLen_L1n on number frames (3, s) (.inl (4, sPut s 16399 b)) := fun s h => by rw [← hbb]; exact .p1 (xd := (3, s)) rfl h
    have o1 := w s 16387 ok0 (by decide)
    have o2 := w _ 16391 o1 (by decide)
    have o3 := w _ 16395 o2 (by decide)
    exact .more (k0 _ ok0) (.more (k1 _ o1) (.more (k2 _ o2) (.more (k3 _ o3) (.last (.p2 (xd := (4, _)) rfl)))))
  have l1 : LvS on (lengthsT (number % 32).toNat) (sPut (sPut (sPut (sPut s 16387 b) 16391 b) 16395 b) 16399 b) := by
    rw [p15, p11, p7, p3, ← e8]
    exact ⟨lv_put l0.t0 ebr, lv_put l0.t1 ebr, lv_put l0.t2 ebr, lv_put l0.t3 ebr⟩
  generalize sPut (sPut (sPut (sPut s 16387 b) 16391 b) 16395 b) 16399 b = s1 at *
  generalize hW' : lengthsT (number % 32).toNat = want at *
  have re : ∀ (s : Snd) (n : Int), 0 ≤ n → LvS on n s → LvS on (max (n - 1) 0) (sPut_23 s 192) := by
    intro s n hn h
    have e : sPut_23 s 192 = reS s 192 := restart_eq s 192 (by decide)
    rw [e]
    exact ⟨lv_beat hn h.t0, lv_beat hn h.t1, lv_beat hn h.t2, lv_beat hn h.t3⟩
  have its : ∀ k : Nat, LvS on (max (want - k) 0) (iterS (fun s => sPut_23 s 192) k s1) := by
    intro k
    induction k with
    | zero => have e : max (want - ((0 : Nat) : Int)) 0 = want := by omega
              rw [e]; exact l1
    | succ k ih =>
      rw [iterS_succ]
      have := re _ _ (by omega) ih
      have e : max (max (want - (k : Int)) 0 - 1) 0 = max (want - ((k + 1 : Nat) : Int)) 0 := by omega
      rw [e] at this; exact this
  have L2 : iter (lawLen_L2n on number frames (4, s1)) ((frames % 20).toNat + 1) (0, s1) = some (frames % 20, iterS (fun s => sPut_23 s 192) (frames % 20).toNat s1) := by
    refine iter_for (fun s => sPut_23 s 192) _ (frames % 20) IntKind.i64.wrap (fun i i0 iN => i64_in _ (by omega)) (fun s => (frames % 20, s)) (fun i s i0 iN => ?_) (fun s => ?_) (frames % 20).toNat 0 s1 (by decide) (by omega)
    · unfold lawLen_L2n
      rw [hF, if_pos (by simpa using iN)]
    · unfold lawLen_L2n
      rw [hF, if_neg (by simp)]
  have hend := its (frames % 20).toNat
  have eN : (((frames % 20).toNat : Nat) : Int) = frames % 20 := by omega
  rw [eN] at hend
  have hg := lv_get hend hon
  have h15 : bAnd .u8 on 15 = on % 16 := and8_15 hon
  have hrl : rLength (number % 32) = want := by rw [length_alike _ (by omega), hW']
  rcases bt (decide (((IntKind.i64.wrap (Int.tmod frames 20)) : Int) < (rLength (IntKind.i64.wrap (Int.tmod number 32))))) with c | c
  · have := LP1 _ L1 (by rw [ew]; omega) _ _ L2 c
    rw [hF, ew, hrl] at c
    have c' : frames % 20 < want := by simpa using c
    simp only at this
    rw [hg, h15, if_pos (by omega), beq_self_eq_true] at this
    exact this
  · have := LP2 _ L1 (by rw [ew]; omega) _ _ L2 c
    rw [hF, ew, hrl] at c
    have c' : ¬ frames % 20 < want := by simpa using c
    simp only at this
    rw [hg, if_neg (by omega), beq_self_eq_true] at this
    exact this

end Go.Proofs.YtgpcfjokmonlgaaDoor
