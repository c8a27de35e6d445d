/-
  Layer 12: the plain law of a nil sound and of copies. No condition.
-/
import Derived.Test.YtgpcfjokmonlgaaDoorST
import Derived.Test.YtgpcfjokmonlgaaDoorSNil
namespace Go.Proofs.YtgpcfjokmonlgaaDoor
open Go VX IntWalk
set_option maxRecDepth 100000
set_option linter.unusedSimpArgs false
set_option linter.unusedVariables false

/-- A sound whose third voice lives, a few cycles behind a new count. -/
structure Few (i : Nat) (s : Snd) : Prop where
  inv : SInv RInv s
  cnt : s.count = i
  len : 0 < s.tones_2.length

theorem few_clock {i : Nat} {s : Snd} (h : Few i s) (hi : i < 300) : Few (i + 1) (sClock s) := by
  obtain ⟨e, hs⟩ := sinv_clock rinv_cl.toClC h.inv
  have hl : 29829 ≤ lastC s := by rcases man_cases h.inv.c.1 with ⟨_, e⟩ | ⟨_, e⟩ <;> rw [e] <;> decide
  have hc := h.cnt
  have hb : ∀ t, beat s t = t := by
    intro t
    unfold beat
    rw [if_neg (by omega), if_neg (by omega)]
  obtain ⟨_, _, _, q, _⟩ := clock_q s.tones_2
  refine ⟨hs, ?_, ?_⟩ <;> rw [e]
  · show (if s.count + 1 > lastC s then 0 else s.count + 1) = _
    rw [if_neg (by omega)]; omega
  · show 0 < (tClock (beat s s.tones_2)).length
    rw [hb, q]; exact h.len

theorem copy_rinv {k : Int} {t : Tone} (h : RInv k t) : RInv k (tCopy t) :=
  ⟨tCopy_w t h.ok, h.kind, h.step, h.level⟩

theorem get4 (x0 x1 x2 x3 x4 x5 x6 : Bool) : ((bAnd .u8 (getF [x0, x1, x2, x3, x4, false, x5, x6]) 4 : Int) != 0) = x2 := by
  revert x0 x1 x2 x3 x4 x5 x6; decide +kernel

theorem few_get {i : Nat} {s : Snd} (h : Few i s) : ((bAnd .u8 (sGet s).2 4 : Int) != 0) = true := by
  show ((bAnd .u8 (getF (sLives s)) 4 : Int) != 0) = true
  unfold sLives
  rw [get4]
  unfold tLive
  simpa using h.len

theorem start_few (b : Int) (hb : rng 256 b) : Few 0 (sPut_11 (sPut_21 (sPut_17 (sCopy (sPut_17 sNew 5)) b) 31) b) := by
  have h1 : SInv RInv (sPut_17 sNew 5) := by
    have e : sPut_17 sNew 5 = sPut sNew 16401 5 := rfl
    rw [e]; exact sinv_put rinv_cl new_rinv 16401 (by decide)
  have hreg : ∀ j, rng 256 ((sCopy (sPut_17 sNew 5)).sample.reg j) := by
    have := (sCopy_w (sPut_17 sNew 5) (h1.ok rinv_cl.toClC)).sample.reg
    exact this
  have hok := (sCopy_w (sPut_17 sNew 5) (h1.ok rinv_cl.toClC)).sample
  have h2 : SInv RInv (sCopy (sPut_17 sNew 5)) := ⟨copy_rinv h1.t0, copy_rinv h1.t1, copy_rinv h1.t2, copy_rinv h1.t3, ⟨hok, h1.m.bits, h1.m.level, h1.m.left⟩, h1.c⟩
  have h3 : SInv RInv (sPut_17 (sCopy (sPut_17 sNew 5)) b) := by
    have e : sPut_17 (sCopy (sPut_17 sNew 5)) b = sPut (sCopy (sPut_17 sNew 5)) 16401 b := rfl
    rw [e]; exact sinv_put rinv_cl h2 16401 hb
  have h4 : SInv RInv (sPut_21 (sPut_17 (sCopy (sPut_17 sNew 5)) b) 31) := by
    have e : sPut_21 (sPut_17 (sCopy (sPut_17 sNew 5)) b) 31 = sPut (sPut_17 (sCopy (sPut_17 sNew 5)) b) 16405 31 := rfl
    rw [e]; exact sinv_put rinv_cl h3 16405 (by decide)
  have h5 : SInv RInv (sPut_11 (sPut_21 (sPut_17 (sCopy (sPut_17 sNew 5)) b) 31) b) := by
    have e : sPut_11 (sPut_21 (sPut_17 (sCopy (sPut_17 sNew 5)) b) 31) b = sPut (sPut_21 (sPut_17 (sCopy (sPut_17 sNew 5)) b) 31) 16395 b := rfl
    rw [e]; exact sinv_put rinv_cl h4 16395 hb
  have e21 : sPut_21 (sPut_17 (sCopy (sPut_17 sNew 5)) b) 31 = enS (sPut_17 (sCopy (sPut_17 sNew 5)) b) 31 := en_eq _ 31 h3.m (by decide)
  refine ⟨h5, ?_, ?_⟩
  · show (sPut_21 (sPut_17 (sCopy (sPut_17 sNew 5)) b) 31).count = 0
    rw [e21]; rfl
  · show 0 < (tPut_3 (sPut_21 (sPut_17 (sCopy (sPut_17 sNew 5)) b) 31).tones_2 b).length
    obtain ⟨_, _, _, _, _, _, h7⟩ := high_q ({ (sPut_21 (sPut_17 (sCopy (sPut_17 sNew 5)) b) 31).tones_2 with reg := upd (sPut_21 (sPut_17 (sCopy (sPut_17 sNew 5)) b) 31).tones_2.reg 3 b } : Tone) b
    show 0 < (tHigh ({ (sPut_21 (sPut_17 (sCopy (sPut_17 sNew 5)) b) 31).tones_2 with reg := upd (sPut_21 (sPut_17 (sCopy (sPut_17 sNew 5)) b) 31).tones_2.reg 3 b } : Tone) b).length
    rw [h7]
    have eo : (sPut_21 (sPut_17 (sCopy (sPut_17 sNew 5)) b) 31).tones_2.on = true := by rw [e21]; rfl
    have hW : ∀ i : Fin 32, 0 < lengthsT i.val := by decide +kernel
    have hb' := hb
    unfold rng at hb'
    show 0 < if (sPut_21 (sPut_17 (sCopy (sPut_17 sNew 5)) b) 31).tones_2.on = true then lengthsT (Int.toNat (bShr .u8 b 3)) else _
    rw [if_pos eo, shr8_3]
    exact hW ⟨(b / 8).toNat, by omega⟩

theorem nil_true (at_ b n : Int) (ha : rng 65536 at_) (hb : rng 256 b) (hn : rng 256 n) : FnSpec Tryd.prog 9 1000 [.int .u16 at_, .int .u8 b, .int .u8 n] [tb0, tb1, tb2, tb3, tb4] (.bool true) [] := by
  have hn' := hn
  unfold rng at hn'
  have hF := start_few b hb
  have g1 : (((sOut (sPut_17 sNew 5)) : Int) == 14440) = true := by decide +kernel
  have g2 : (((sGet (sPut_17 sNew 5)).2 : Int) == 0) = true := by decide +kernel
  have put : (at_ < 16384 ∨ 16407 < at_ ∨ at_ = 16404 ∨ at_ = 16406) → sPut (sPut_17 sNew 5) at_ b = sPut_17 sNew 5 := by
    rintro (h | h | h | h)
    · unfold sPut; rw [if_neg (by omega)]
    · unfold sPut; rw [if_neg (by omega)]
    · subst h; rfl
    · subst h; rfl
  have P1 := lawNil_p1 at_ b n ha hb awake_t
  have P2 := lawNil_p2 at_ b n ha hb awake_t
  have P3 := lawNil_p3 at_ b n ha hb awake_t
  have P4 := lawNil_p4 at_ b n ha hb awake_t
  have P5 := lawNil_p5 at_ b n ha hb awake_t
  generalize sPut_11 (sPut_21 (sPut_17 (sCopy (sPut_17 sNew 5)) b) 31) b = s0 at *
  have go : ∀ {rel : Int × Snd → (Int × Snd) ⊕ (Int × Snd) → Prop} (f : ∀ (i : Int) (s : Snd), decide ((i : Int) < n) = true → Man s → rel (i, s) (.inl (IntKind.u8.wrap (i + 1), sClock s))) (o : ∀ s : Snd, decide ((n : Int) < n) = false → rel (n, s) (.inr (n, s))),
      ∃ s', Few n.toNat s' ∧ LoopR rel (0, s0) (n, s') := by
    intro rel f o
    have : ∀ (k i : Nat) (s : Snd), i + k = n.toNat → Few i s → ∃ s', Few n.toNat s' ∧ LoopR rel ((i : Int), s) (n, s') := by
      intro k
      induction k with
      | zero =>
        intro i s hi h
        have e : i = n.toNat := by omega
        subst e
        have e2 : ((n.toNat : Nat) : Int) = n := by omega
        rw [e2]
        exact ⟨s, h, .last (o s (by simp))⟩
      | succ k ih =>
        intro i s hi h
        obtain ⟨s', h', L⟩ := ih (i + 1) _ (by omega) (few_clock h (by omega))
        refine ⟨s', h', .more ?_ L⟩
        have := f i s (by simp; omega) h.inv.c.1
        rw [u8_in _ (by omega)] at this
        exact this
    exact this n.toNat 0 s0 (by omega) hF
  rcases bt (decide ((at_ : Int) < 16384)) with c1 | c1
  · have e := put (.inl (by simpa using c1))
    obtain ⟨s', h', L⟩ := go (rel := lawNil_L1ny at_ b n) (fun i s h1 h2 => .p1 h1 h2) (fun s h => .p2 h)
    have := P1 c1 _ L (by rw [e]; exact g1) (by rw [e]; exact g2)
    rw [few_get h'] at this; exact this
  rcases bt (decide ((at_ : Int) > 16407)) with c2 | c2
  · have e := put (.inr (.inl (by simpa using c2)))
    obtain ⟨s', h', L⟩ := go (rel := lawNil_L1ny at_ b n) (fun i s h1 h2 => .p1 h1 h2) (fun s h => .p2 h)
    have := P2 c1 c2 _ L (by rw [e]; exact g1) (by rw [e]; exact g2)
    rw [few_get h'] at this; exact this
  rcases bt ((at_ : Int) == 16404) with c3 | c3
  · have e := put (.inr (.inr (.inl (by simpa using c3))))
    obtain ⟨s', h', L⟩ := go (rel := lawNil_L1ny at_ b n) (fun i s h1 h2 => .p1 h1 h2) (fun s h => .p2 h)
    have := P3 c1 c2 c3 _ L (by rw [e]; exact g1) (by rw [e]; exact g2)
    rw [few_get h'] at this; exact this
  rcases bt ((at_ : Int) == 16406) with c4 | c4
  · have e := put (.inr (.inr (.inr (by simpa using c4))))
    obtain ⟨s', h', L⟩ := go (rel := lawNil_L1ny at_ b n) (fun i s h1 h2 => .p1 h1 h2) (fun s h => .p2 h)
    have := P4 c1 c2 c3 c4 _ L (by rw [e]; exact g1) (by rw [e]; exact g2)
    rw [few_get h'] at this; exact this
  · obtain ⟨s', h', L⟩ := go (rel := lawNil_L1ny at_ b n) (fun i s h1 h2 => .p1 h1 h2) (fun s h => .p2 h)
    have := P5 c1 c2 c3 c4 _ L g1 g2
    rw [few_get h'] at this; exact this

end Go.Proofs.YtgpcfjokmonlgaaDoor
