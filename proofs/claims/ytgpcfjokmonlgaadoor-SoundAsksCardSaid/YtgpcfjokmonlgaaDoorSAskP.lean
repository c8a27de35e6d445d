/-
  Layer 12: the plain law of asking. No condition.
-/
import Derived.Test.YtgpcfjokmonlgaaDoorST
import Derived.Test.YtgpcfjokmonlgaaDoorSAsk
namespace Go.Proofs.YtgpcfjokmonlgaaDoor
open Go VX IntWalk
set_option maxRecDepth 100000
set_option linter.unusedSimpArgs false
set_option linter.unusedVariables false

/-- How the count stands behind i cycles. -/
structure Cnt (m : Int) (bars : Bool) (c : Int) (q : Bool) (s : Snd) : Prop where
  inv : SInv RInv s
  man : s.manner = m
  bar : s.bars = bars
  cnt : s.count = c
  irq : s.irq = q
  sirq : s.sample.irq = false

theorem clk_irq (m : Smp) : m.clock.irq = m.irq := by
  obtain ⟨_, _, _, _, _, _, _, _, h⟩ := bit_same m
  unfold Smp.clock
  repeat' split
  all_goals first | rfl | exact h

theorem cnt_clock {m : Int} {bars : Bool} {c : Int} {q : Bool} {s : Snd} (h : Cnt m bars c q s) :
    Cnt m bars (if c + 1 > (if m = 1 then 37281 else 29829) then 0 else c + 1) (q || (decide (c + 1 = 29829) && decide (m = 0) && !bars)) (sClock s) := by
  obtain ⟨e, hi⟩ := sinv_clock rinv_cl.toClC h.inv
  refine ⟨hi, ?_, ?_, ?_, ?_, ?_⟩ <;> rw [e]
  · exact h.man
  · exact h.bar
  · show (if s.count + 1 > lastC s then 0 else s.count + 1) = _
    unfold lastC
    rw [h.cnt, h.man]
  · show (s.irq || (decide (s.count + 1 = 29829) && decide (s.manner = 0) && !s.bars)) = _
    rw [h.irq, h.cnt, h.man, h.bar]
  · show s.sample.clock.irq = false
    rw [clk_irq, h.sirq]

theorem cnt_irq {m : Int} {bars : Bool} {c : Int} {q : Bool} {s : Snd} (h : Cnt m bars c q s) : sIRQ s = q := by
  unfold sIRQ
  rw [h.irq, h.sirq]
  cases q <;> simp

theorem get64 (x0 x1 x2 x3 x4 x5 x6 : Bool) : ((bAnd .u8 (getF [x0, x1, x2, x3, x4, false, x5, x6]) 64 : Int) == 0) = !x5 := by
  revert x0 x1 x2 x3 x4 x5 x6; decide +kernel

theorem cnt_get {m : Int} {bars : Bool} {c : Int} {q : Bool} {s : Snd} (h : Cnt m bars c q s) : ((bAnd .u8 (sGet s).2 64 : Int) == 0) = !q ∧ Cnt m bars c false (sGet s).1 := by
  refine ⟨?_, sinv_get h.inv, h.man, h.bar, h.cnt, rfl, h.sirq⟩
  show ((bAnd .u8 (getF (sLives s)) 64 : Int) == 0) = _
  unfold sLives
  rw [get64, h.irq]

theorem ask_new (b : Int) (hb : rng 256 b) : Cnt (if b / 128 % 2 = 1 then 1 else 0) (decide (b / 64 % 2 = 1)) 0 false (sPut_23 sNew b) := by
  have e : sPut_23 sNew b = reS sNew b := restart_eq sNew b hb
  rw [e]
  exact ⟨sinv_re rinv_cl.toClC new_rinv b, rfl, rfl, rfl, rfl, rfl⟩

theorem ask_true (b n : Int) (look : Bool) (hb : rng 256 b) (hn : rng 65536 n) : FnSpec Tryd.prog 4 1000 [.int .u8 b, .int .u16 n, .bool look] [tb0, tb1, tb2, tb3, tb4] (.bool true) [] := by
  have hb' := hb
  unfold rng at hn hb'
  have eN : IntKind.i64.wrap (IntKind.i64.wrap n + 1) = n + 1 := by rw [i64_in n (by omega), i64_in _ (by omega)]
  have eN2 : IntKind.i64.wrap (n + 1 + 1) = n + 2 := by rw [i64_in _ (by omega)]; omega
  have eW : (IntKind.i64.wrap (Int.tdiv (IntKind.i64.wrap ((IntKind.i64.wrap ((IntKind.i64.wrap n) + 1)) + 1)) 29830)) = (n + 2) / 29830 := by
    rw [eN, eN2, Int.tdiv_eq_ediv_of_nonneg (by omega), i64_in _ (by omega)]
  have H0 := ask_new b hb
  have LP1 := lawAsk_p1 b n look awake_t
  have LP2 := lawAsk_p2 b n look awake_t
  have LP3 := lawAsk_p3 b n look awake_t
  have LP4 := lawAsk_p4 b n look awake_t
  rw [eW] at LP3 LP4
  generalize sPut_23 sNew b = s0 at *
  have wid : ∀ {v : Value}, FnSpec Tryd.prog 4 1000 [.int .u8 b, .int .u16 n, .bool look] [tb0, tb1, tb2, tb3] v [] → FnSpec Tryd.prog 4 1000 [.int .u8 b, .int .u16 n, .bool look] [tb0, tb1, tb2, tb3, tb4] v [] :=
    fun h => h.wid [tb0, tb1, tb2, tb3, tb4] ⟨rfl, rfl, rfl, rfl, trivial⟩
  have man : ∀ {m : Int} {bars : Bool} {c : Int} {q : Bool} {s : Snd}, Cnt m bars c q s → Man s := fun h => h.inv.c.1
  by_cases hz : b / 128 % 2 = 1 ∨ b / 64 % 2 = 1
  · -- it never asks
    have hc : ((bAnd .u8 b 192 : Int) != 0) = true := by
      have h := allN_int (k := 8) (f := fun i => !(decide ((i : Int) / 128 % 2 = 1) || decide ((i : Int) / 64 % 2 = 1)) || ((bAnd .u8 (i : Int) 192 : Int) != 0)) (by decide +kernel) b hb'.1 (by omega)
      have e : ((b.toNat : Nat) : Int) = b := by omega
      simp only [e] at h
      rcases hz with hz | hz <;> simpa [hz] using h
    have never : ∀ (k : Nat) (i c : Int) (s : Snd), i + k = n + 2 → 1 ≤ i → Cnt (if b / 128 % 2 = 1 then 1 else 0) (decide (b / 64 % 2 = 1)) c false s →
        ∃ c' s', Cnt (if b / 128 % 2 = 1 then 1 else 0) (decide (b / 64 % 2 = 1)) c' false s' ∧ LoopR (lawAsk_L1n b n look) (i, 0, false, s) (.inl (n + 2, 0, false, s')) := by
      intro k
      induction k with
      | zero =>
        intro i c s hi _ h
        have : i = n + 2 := by omega
        subst this
        exact ⟨c, s, h, .last (.p6 (xd := (n + 2, 0, false, s)) (by rw [eN]; simp))⟩
      | succ k ih =>
        intro i c s hi h1 h
        have hs := cnt_clock h
        have hq : (false || (decide (c + 1 = 29829) && decide ((if b / 128 % 2 = 1 then (1 : Int) else 0) = 0) && !decide (b / 64 % 2 = 1))) = false := by
          rcases hz with hz | hz <;> simp [hz]
        rw [hq] at hs
        obtain ⟨c', s', h', L⟩ := ih (i + 1) _ _ (by omega) (by omega) hs
        refine ⟨c', s', h', .more ?_ L⟩
        have c1 : (decide ((i : Int) ≤ (IntKind.i64.wrap ((IntKind.i64.wrap n) + 1)))) = true := by rw [eN]; simp; omega
        have ei : IntKind.i64.wrap (i + 1) = i + 1 := i64_in _ (by omega)
        cases hl : look with
        | true => have := lawAsk_L1n.p4 (b := b) (n := n) (look := true) (xd := (i, 0, false, s)) c1 (man h) rfl (cnt_irq hs); rw [ei] at this; exact this
        | false => have := lawAsk_L1n.p5 (b := b) (n := n) (look := false) (xd := (i, 0, false, s)) c1 (man h) rfl; rw [ei] at this; exact this
    obtain ⟨c', s', h', L⟩ := never (n + 1).toNat 1 0 s0 (by omega) (by omega) H0
    have hirq := cnt_irq h'
    cases hl : look with
    | true =>
      subst hl
      have := LP1 _ L hc rfl rfl
      simp only [hirq] at this
      exact wid this
    | false =>
      subst hl
      have := LP2 _ L hc rfl
      simp only [hirq] at this
      exact wid this
  · have hz1 : ¬ b / 128 % 2 = 1 := fun h => hz (.inl h)
    have hz2 : ¬ b / 64 % 2 = 1 := fun h => hz (.inr h)
    have hc : ((bAnd .u8 b 192 : Int) != 0) = false := by
      have h := allN_int (k := 8) (f := fun i => (decide ((i : Int) / 128 % 2 = 1) || decide ((i : Int) / 64 % 2 = 1)) || !((bAnd .u8 (i : Int) 192 : Int) != 0)) (by decide +kernel) b hb'.1 (by omega)
      have e : ((b.toNat : Nat) : Int) = b := by omega
      simp only [e] at h
      simpa [hz1, hz2] using h
    rw [if_neg hz1] at H0
    have hd : decide (b / 64 % 2 = 1) = false := by simpa using hz2
    rw [hd] at H0
    -- behind i - 1 cycles the count is (i - 1) % 29830, and it asked i / 29830 times
    have step : ∀ {i : Int} {q : Bool} {s : Snd}, 1 ≤ i → i ≤ 70000 → Cnt 0 false ((i - 1) % 29830) q s → Cnt 0 false (i % 29830) (q || decide (i % 29830 = 29829)) (sClock s) := by
      intro i q s h1 h2 h
      have hs := cnt_clock h
      have e1 : (if (i - 1) % 29830 + 1 > (if (0 : Int) = 1 then 37281 else 29829) then 0 else (i - 1) % 29830 + 1) = i % 29830 := by
        rw [if_neg (by decide : ¬ (0 : Int) = 1)]
        split <;> omega
      have e2 : decide ((i - 1) % 29830 + 1 = 29829) = decide (i % 29830 = 29829) := by
        by_cases c : i % 29830 = 29829
        · rw [decide_eq_true c, decide_eq_true (by omega)]
        · rw [decide_eq_false c, decide_eq_false (by omega)]
      rw [e1, e2] at hs
      simpa using hs
    have ei : ∀ {i : Int}, 1 ≤ i → i ≤ 70000 → IntKind.i64.wrap (i + 1) = i + 1 := fun h1 h2 => i64_in _ (by omega)
    have c1 : ∀ {i : Int}, i ≤ n + 1 → (decide ((i : Int) ≤ (IntKind.i64.wrap ((IntKind.i64.wrap n) + 1)))) = true := fun h => by rw [eN]; simpa using h
    cases hl : look with
    | true =>
      subst hl
      have go : ∀ (k : Nat) (i : Int) (s : Snd), i + k = n + 2 → 1 ≤ i → Cnt 0 false ((i - 1) % 29830) false s →
          ∃ s', Cnt 0 false ((n + 1) % 29830) false s' ∧ LoopR (lawAsk_L1n b n true) (i, i / 29830, false, s) (.inl (n + 2, (n + 2) / 29830, false, s')) := by
        intro k
        induction k with
        | zero =>
          intro i s hi _ h
          have : i = n + 2 := by omega
          subst this
          have e : n + 2 - 1 = n + 1 := by omega
          rw [e] at h
          exact ⟨s, h, .last (.p6 (xd := (n + 2, (n + 2) / 29830, false, s)) (by rw [eN]; simp))⟩
        | succ k ih =>
          intro i s hi h1 h
          have hs := step h1 (by omega) h
          by_cases c : i % 29830 = 29829
          · have hq : (false || decide (i % 29830 = 29829)) = true := by rw [decide_eq_true c]; rfl
            rw [hq] at hs
            obtain ⟨g1, g2⟩ := cnt_get hs
            have em : ((Int.tmod i 29830 : Int) != 29829) = false := by rw [Int.tmod_eq_emod_of_nonneg (by omega), c]; decide
            have st := lawAsk_L1n.p3 (b := b) (n := n) (look := true) (xd := (i, i / 29830, false, s)) (c1 (by omega)) (man h) rfl (cnt_irq hs) g1 em
            rw [ei h1 (by omega)] at st
            have ek : IntKind.i64.wrap (i / 29830 + 1) = (i + 1) / 29830 := by rw [i64_in _ (by omega)]; omega
            simp only [ek] at st
            have e' : (i + 1 - 1) % 29830 = i % 29830 := by omega
            obtain ⟨s', h', L⟩ := ih (i + 1) _ (by omega) (by omega) (by rw [e']; exact g2)
            exact ⟨s', h', .more st L⟩
          · have hq : (false || decide (i % 29830 = 29829)) = false := by rw [decide_eq_false c]; rfl
            rw [hq] at hs
            have st := lawAsk_L1n.p4 (b := b) (n := n) (look := true) (xd := (i, i / 29830, false, s)) (c1 (by omega)) (man h) rfl (cnt_irq hs)
            rw [ei h1 (by omega)] at st
            have ek : i / 29830 = (i + 1) / 29830 := by omega
            simp only at st
            have e' : (i + 1 - 1) % 29830 = i % 29830 := by omega
            obtain ⟨s', h', L⟩ := ih (i + 1) _ (by omega) (by omega) (by rw [e']; exact hs)
            rw [← ek] at L
            exact ⟨s', h', .more st L⟩
      obtain ⟨s', h', L⟩ := go (n + 1).toNat 1 s0 (by omega) (by omega) H0
      have := LP3 _ L hc rfl (by simp)
      simp only [cnt_irq h'] at this
      exact wid this
    | false =>
      subst hl
      have go : ∀ (k : Nat) (i : Int) (s : Snd), i + k = n + 2 → 1 ≤ i → Cnt 0 false ((i - 1) % 29830) (decide (0 < i / 29830)) s →
          ∃ s', Cnt 0 false ((n + 1) % 29830) (decide (0 < (n + 2) / 29830)) s' ∧ LoopR (lawAsk_L1n b n false) (i, 0, false, s) (.inl (n + 2, 0, false, s')) := by
        intro k
        induction k with
        | zero =>
          intro i s hi _ h
          have : i = n + 2 := by omega
          subst this
          have e : n + 2 - 1 = n + 1 := by omega
          rw [e] at h
          exact ⟨s, h, .last (.p6 (xd := (n + 2, 0, false, s)) (by rw [eN]; simp))⟩
        | succ k ih =>
          intro i s hi h1 h
          have hs := step h1 (by omega) h
          have hq : (decide (0 < i / 29830) || decide (i % 29830 = 29829)) = decide (0 < (i + 1) / 29830) := by
            by_cases c : 0 < (i + 1) / 29830
            · rw [decide_eq_true c]
              by_cases c2 : 0 < i / 29830
              · rw [decide_eq_true c2]; rfl
              · rw [decide_eq_true (show i % 29830 = 29829 by omega)]; simp
            · rw [decide_eq_false c, decide_eq_false (by omega), decide_eq_false (by omega)]; rfl
          rw [hq] at hs
          have st := lawAsk_L1n.p5 (b := b) (n := n) (look := false) (xd := (i, 0, false, s)) (c1 (by omega)) (man h) rfl
          rw [ei h1 (by omega)] at st
          have e' : (i + 1 - 1) % 29830 = i % 29830 := by omega
          obtain ⟨s', h', L⟩ := ih (i + 1) _ (by omega) (by omega) (by rw [e']; exact hs)
          exact ⟨s', h', .more st L⟩
      obtain ⟨s', h', L⟩ := go (n + 1).toNat 1 s0 (by omega) (by omega) H0
      have := LP4 _ L hc rfl
      simp only [cnt_irq h'] at this
      have e : (decide (0 < (n + 2) / 29830) == decide ((n + 2) / 29830 > 0)) = true := by simp
      rw [e] at this
      exact wid this

end Go.Proofs.YtgpcfjokmonlgaaDoor
