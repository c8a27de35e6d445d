/-
  Layer 11: the plain law of ends: how long a voice lives. Written by gen_endp.py. No condition.
-/
import Derived.Test.YtngeghiaakkdbaaDoorTM
import Derived.Test.YtngeghiaakkdbaaDoorTH
namespace Go.Proofs.YtngeghiaakkdbaaDoor
open Go VX IntWalk
set_option maxRecDepth 100000
set_option linter.unusedSimpArgs false
set_option linter.unusedVariables false

/-- What the length's law looks at. -/
structure Keep (k r0 x : Int) (t : Tone) : Prop where
  kind : t.kind = k
  reg0 : t.reg 0 = r0
  length : t.length = x

theorem quarter_keep {k r0 x : Int} {t : Tone} (h : Keep k r0 x t) : Keep k r0 x (tQuarter t) := by
  obtain ⟨h1, h2, h3⟩ := h
  have : (tQuarter t).kind = t.kind ∧ (tQuarter t).reg = t.reg ∧ (tQuarter t).length = t.length := by
    unfold tQuarter; (repeat' split) <;> exact ⟨rfl, rfl, rfl⟩
  exact ⟨this.1.trans h1, by rw [this.2.1]; exact h2, this.2.2.trans h3⟩
theorem clock_keep {k r0 x : Int} {t : Tone} (h : Keep k r0 x t) : Keep k r0 x (tClock t) := by
  obtain ⟨h1, h2, h3⟩ := h
  have : (tClock t).kind = t.kind ∧ (tClock t).reg = t.reg ∧ (tClock t).length = t.length := by
    unfold tClock; (repeat' split) <;> exact ⟨rfl, rfl, rfl⟩
  exact ⟨this.1.trans h1, by rw [this.2.1]; exact h2, this.2.2.trans h3⟩
theorem put1_keep {k r0 x : Int} {t : Tone} (b : Int) (h : Keep k r0 x t) : Keep k r0 x (tPut_1 t b) := ⟨h.kind, h.reg0, h.length⟩
theorem put2_keep {k r0 x : Int} {t : Tone} (b : Int) (h : Keep k r0 x t) : Keep k r0 x (tPut_2 t b) := by
  unfold tPut_2
  split <;> exact ⟨h.kind, h.reg0, h.length⟩

theorem half_len (t : Tone) (hx : 0 ≤ t.length ∧ t.length < 256) (hr : t.reg 0 = 0 ∨ t.reg 0 = 160) :
    (tHalf t).kind = t.kind ∧ (tHalf t).reg = t.reg ∧ (tHalf t).length = if t.reg 0 = 160 then t.length else if 0 < t.length then t.length - 1 else t.length := by
  have ew : 0 < t.length → IntKind.u8.wrap (t.length - 1) = t.length - 1 := fun h => u8_in _ (by omega)
  rcases hr with h | h
  · have e1 : (((bAnd .u8 (t.reg 0) 128) : Int) == 0) = true := by rw [h]; decide
    have e2 : (((bAnd .u8 (t.reg 0) 32) : Int) == 0) = true := by rw [h]; decide
    rw [if_neg (show ¬ t.reg 0 = 160 by rw [h]; decide)]
    unfold tHalf
    simp only [e1, e2, if_true, decide_eq_true_eq]
    by_cases hl : 0 < t.length
    · have ew' := ew hl
      simp only [hl, if_true, ew']
      (repeat' split) <;> exact ⟨rfl, rfl, rfl⟩
    · simp only [hl, if_false]
      (repeat' split) <;> exact ⟨rfl, rfl, rfl⟩
  · have e1 : (((bAnd .u8 (t.reg 0) 128) : Int) == 0) = false := by rw [h]; decide
    have e2 : (((bAnd .u8 (t.reg 0) 32) : Int) == 0) = false := by rw [h]; decide
    rw [if_pos h]
    unfold tHalf
    simp only [e1, e2, decide_eq_true_eq, Bool.false_eq_true, if_false]
    (repeat' split) <;> exact ⟨rfl, rfl, rfl⟩

theorem half_keep {k r0 x : Int} {t : Tone} (hx : 0 ≤ x ∧ x < 256) (hr : r0 = 0 ∨ r0 = 160) (h : Keep k r0 x t) : Keep k r0 (if r0 = 160 then x else if 0 < x then x - 1 else x) (tHalf t) := by
  obtain ⟨h1, h2, h3⟩ := h
  have := half_len t (by rw [h3]; exact hx) (by rw [h2]; exact hr)
  rw [h2, h3] at this
  exact ⟨this.1.trans h1, by rw [this.2.1]; exact h2, this.2.2⟩

/-- How long it still lives after so many halves. -/
def lenAt (on held : Bool) (l0 i : Int) : Int := if on then (if held then l0 else if i < l0 then l0 - i else 0) else 0

theorem lenAt_next (on held : Bool) (l0 i : Int) (h0 : 0 < l0 ∧ l0 < 256) (hi : 0 ≤ i) (r0 : Int) (hr : r0 = if held then 160 else 0) :
    (if r0 = 160 then lenAt on held l0 i else if 0 < lenAt on held l0 i then lenAt on held l0 i - 1 else lenAt on held l0 i) = lenAt on held l0 (i + 1) := by
  subst hr
  unfold lenAt
  cases on <;> cases held <;> simp
  split <;> split <;> omega

theorem live_keep {k r0 : Int} {on held : Bool} {l0 i : Int} (h0 : 0 < l0) {t : Tone} (h : Keep k r0 (lenAt on held l0 i) t) : tLive t = (on && (held || decide (i < l0))) := by
  unfold tLive
  rw [h.length]
  unfold lenAt
  cases on <;> cases held <;> simp
  · split <;> simp <;> omega
  · exact h0

/-- A half, or a round with an act before the half. -/
def Acted (t t' : Tone) : Prop := t' = t ∨ ∃ b, t' = tPut_2 (tPut_1 (tClock (tQuarter t)) b) b

theorem acted_keep {k r0 x : Int} {t t' : Tone} (h : Keep k r0 x t) (ha : Acted t t') : Keep k r0 x t' := by
  rcases ha with rfl | ⟨b, rfl⟩
  · exact h
  · exact put2_keep b (put1_keep b (clock_keep (quarter_keep h)))

theorem ends_loop {rel : Int × Bool × Tone → (Int × Bool × Tone) ⊕ ((Int × Bool × Tone) ⊕ Bool) → Prop} {k r0 l0 : Int} {on held : Bool} (h0 : 0 < l0 ∧ l0 < 256) (hr : r0 = if held then 160 else 0)
    (next : ∀ (i : Int) (t : Tone), 0 ≤ i → i < 300 → tLive t = (on && (held || decide (i < l0))) → ∃ t', Acted t t' ∧ rel (i, false, t) (.inl (i + 1, false, tHalf t')))
    (stop : ∀ t : Tone, rel (300, false, t) (.inr (.inl (300, false, t)))) :
    ∀ (n : Nat) (i : Int) (t : Tone), 0 ≤ i → i + n = 300 → Keep k r0 (lenAt on held l0 i) t → ∃ t', LoopR rel (i, false, t) (.inl (300, false, t'))
  | 0, i, t, hi, hn, h => by
    have : i = 300 := by simpa using hn
    subst this
    exact ⟨t, .last (stop t)⟩
  | n + 1, i, t, hi, hn, h => by
    obtain ⟨t', ha, hrel⟩ := next i t hi (by omega) (live_keep h0.1 h)
    have hb : 0 ≤ lenAt on held l0 i ∧ lenAt on held l0 i < 256 := by
      unfold lenAt; cases on <;> cases held <;> simp <;> omega
    have hk := half_keep hb (by rw [hr]; cases held <;> simp) (acted_keep h ha)
    rw [lenAt_next on held l0 i h0 hi r0 hr] at hk
    obtain ⟨t2, hL⟩ := ends_loop h0 hr next stop n (i + 1) (tHalf t') (by omega) (by omega) hk
    exact ⟨t2, .more hrel hL⟩

theorem length_same (n : Int) (hn : 0 ≤ n ∧ n < 32) : rLength n = lengthsT n.toNat ∧ 0 < rLength n ∧ rLength n < 256 := by
  have : ∀ m : Fin 32, rLength (m.val : Int) = lengthsT (m.val : Int).toNat ∧ 0 < rLength (m.val : Int) ∧ rLength (m.val : Int) < 256 := by decide +kernel
  have := this ⟨n.toNat, by omega⟩
  simp only at this
  rwa [Int.toNat_of_nonneg hn.1] at this

theorem number_bits (number : Int) (h : rng 256 number) : bShr .u8 (bShl .u8 number 3) 3 = number % 32 := by
  obtain ⟨h0, h1⟩ := h
  rw [shr8_3]
  have : bShl .u8 number 3 = number * 8 % 256 := by
    unfold bShl
    have : (2 : Int) ^ (min (3 : Int).toNat IntKind.u8.bits) = 8 := by decide
    rw [this, IntKind.wrap_u8]
  rw [this]; omega

theorem ends0_held (kind number : Int) (on : Bool) (N d : Nat) (acts : Nat → Act) (hn : rng 256 number) : ∃ t, LoopR (lawEnds0_L1ny kind number on true N d acts) (0, false, tPut_3 (tPut_0 (tEnable tNew_0 on) 160) (bShl .u8 number 3)) (.inl (300, false, t)) := by
  obtain ⟨n0, n1⟩ := hn
  have en : IntKind.i64.wrap (Int.tmod number 32) = number % 32 := by rw [Int.tmod_eq_emod_of_nonneg n0, i64_in _ (by omega)]
  obtain ⟨hs, hp, hq⟩ := length_same (number % 32) (by omega)
  have hb := number_bits number ⟨n0, n1⟩
  have start : Keep 0 (if true then 160 else 0) (lenAt on true (rLength (number % 32)) 0) (tPut_3 (tPut_0 (tEnable tNew_0 on) 160) (bShl .u8 number 3)) := by
    rw [hs]
    unfold lenAt
    cases on <;> constructor <;> simp [tPut_3, tHigh, tPut_0, tEnable, tNew_0, hb] <;> first | rfl | (intro hc; omega) | (rw [← hs]; omega)
  refine ends_loop (on := on) (held := true) ⟨hp, hq⟩ rfl (fun i t i0 i1 hl => ?_) (fun t => .p9 (show decide ((300 : Int) < 300) = false by decide)) 300 0 _ (by decide) (by decide) start
  have c1 : (decide ((i : Int) < 300)) = true := by simpa using i1
  have ei : IntKind.i64.wrap (i + 1) = i + 1 := i64_in _ (by omega)
  cases on
  · by_cases hN : i < (N : Int)
    · have c4 : (decide ((i : Int) < ((N : Nat) : Int))) = true := by simpa using hN
      rcases bt (((Int.tmod ((acts (Int.toNat i)).Do) 2) : Int) == 0) with c5 | c5
      · have := lawEnds0_L1ny.p6 (kind := kind) (number := number) (on := false) (held := true) (N_acts := N) (d_acts := d) (acts := acts) (xd := (i, false, t)) c1 rfl (by rw [hl]; rfl) c4 i0 c5
        rw [ei] at this
        exact ⟨_, .inr ⟨(acts (Int.toNat i)).B, rfl⟩, this⟩
      · have := lawEnds0_L1ny.p7 (kind := kind) (number := number) (on := false) (held := true) (N_acts := N) (d_acts := d) (acts := acts) (xd := (i, false, t)) c1 rfl (by rw [hl]; rfl) c4 i0 c5
        rw [ei] at this
        exact ⟨_, .inl rfl, this⟩
    · have c4 : (decide ((i : Int) < ((N : Nat) : Int))) = false := by simpa using hN
      have := lawEnds0_L1ny.p8 (kind := kind) (number := number) (on := false) (held := true) (N_acts := N) (d_acts := d) (acts := acts) (xd := (i, false, t)) c1 rfl (by rw [hl]; rfl) c4
      rw [ei] at this
      exact ⟨_, .inl rfl, this⟩
  · by_cases hN : i < (N : Int)
    · have c4 : (decide ((i : Int) < ((N : Nat) : Int))) = true := by simpa using hN
      rcases bt (((Int.tmod ((acts (Int.toNat i)).Do) 2) : Int) == 0) with c5 | c5
      · have := lawEnds0_L1ny.p2 (kind := kind) (number := number) (on := true) (held := true) (N_acts := N) (d_acts := d) (acts := acts) (xd := (i, false, t)) c1 rfl (by rw [hl]; rfl) c4 i0 c5
        rw [ei] at this
        exact ⟨_, .inr ⟨(acts (Int.toNat i)).B, rfl⟩, this⟩
      · have := lawEnds0_L1ny.p3 (kind := kind) (number := number) (on := true) (held := true) (N_acts := N) (d_acts := d) (acts := acts) (xd := (i, false, t)) c1 rfl (by rw [hl]; rfl) c4 i0 c5
        rw [ei] at this
        exact ⟨_, .inl rfl, this⟩
    · have c4 : (decide ((i : Int) < ((N : Nat) : Int))) = false := by simpa using hN
      have := lawEnds0_L1ny.p4 (kind := kind) (number := number) (on := true) (held := true) (N_acts := N) (d_acts := d) (acts := acts) (xd := (i, false, t)) c1 rfl (by rw [hl]; rfl) c4
      rw [ei] at this
      exact ⟨_, .inl rfl, this⟩

theorem ends0_free (kind number : Int) (on : Bool) (N d : Nat) (acts : Nat → Act) (hn : rng 256 number) : ∃ t, LoopR (lawEnds0_L1nn kind number on false N d acts) (0, false, tPut_3 (tEnable tNew_0 on) (bShl .u8 number 3)) (.inl (300, false, t)) := by
  obtain ⟨n0, n1⟩ := hn
  have en : IntKind.i64.wrap (Int.tmod number 32) = number % 32 := by rw [Int.tmod_eq_emod_of_nonneg n0, i64_in _ (by omega)]
  obtain ⟨hs, hp, hq⟩ := length_same (number % 32) (by omega)
  have hb := number_bits number ⟨n0, n1⟩
  have start : Keep 0 (if false then 160 else 0) (lenAt on false (rLength (number % 32)) 0) (tPut_3 (tEnable tNew_0 on) (bShl .u8 number 3)) := by
    rw [hs]
    unfold lenAt
    cases on <;> constructor <;> simp [tPut_3, tHigh, tPut_0, tEnable, tNew_0, hb] <;> first | rfl | (intro hc; omega) | (rw [← hs]; omega)
  refine ends_loop (on := on) (held := false) ⟨hp, hq⟩ rfl (fun i t i0 i1 hl => ?_) (fun t => .p9 (show decide ((300 : Int) < 300) = false by decide)) 300 0 _ (by decide) (by decide) start
  have c1 : (decide ((i : Int) < 300)) = true := by simpa using i1
  have ei : IntKind.i64.wrap (i + 1) = i + 1 := i64_in _ (by omega)
  cases on
  · by_cases hN : i < (N : Int)
    · have c4 : (decide ((i : Int) < ((N : Nat) : Int))) = true := by simpa using hN
      rcases bt (((Int.tmod ((acts (Int.toNat i)).Do) 2) : Int) == 0) with c5 | c5
      · have := lawEnds0_L1nn.p6 (kind := kind) (number := number) (on := false) (held := false) (N_acts := N) (d_acts := d) (acts := acts) (xd := (i, false, t)) c1 rfl (by rw [hl]; rfl) c4 i0 c5
        rw [ei] at this
        exact ⟨_, .inr ⟨(acts (Int.toNat i)).B, rfl⟩, this⟩
      · have := lawEnds0_L1nn.p7 (kind := kind) (number := number) (on := false) (held := false) (N_acts := N) (d_acts := d) (acts := acts) (xd := (i, false, t)) c1 rfl (by rw [hl]; rfl) c4 i0 c5
        rw [ei] at this
        exact ⟨_, .inl rfl, this⟩
    · have c4 : (decide ((i : Int) < ((N : Nat) : Int))) = false := by simpa using hN
      have := lawEnds0_L1nn.p8 (kind := kind) (number := number) (on := false) (held := false) (N_acts := N) (d_acts := d) (acts := acts) (xd := (i, false, t)) c1 rfl (by rw [hl]; rfl) c4
      rw [ei] at this
      exact ⟨_, .inl rfl, this⟩
  · by_cases hN : i < (N : Int)
    · have c4 : (decide ((i : Int) < ((N : Nat) : Int))) = true := by simpa using hN
      rcases bt (((Int.tmod ((acts (Int.toNat i)).Do) 2) : Int) == 0) with c5 | c5
      · have := lawEnds0_L1nn.p2 (kind := kind) (number := number) (on := true) (held := false) (N_acts := N) (d_acts := d) (acts := acts) (xd := (i, false, t)) c1 rfl (by rw [hl, en]; simp) c4 i0 c5
        rw [ei] at this
        exact ⟨_, .inr ⟨(acts (Int.toNat i)).B, rfl⟩, this⟩
      · have := lawEnds0_L1nn.p3 (kind := kind) (number := number) (on := true) (held := false) (N_acts := N) (d_acts := d) (acts := acts) (xd := (i, false, t)) c1 rfl (by rw [hl, en]; simp) c4 i0 c5
        rw [ei] at this
        exact ⟨_, .inl rfl, this⟩
    · have c4 : (decide ((i : Int) < ((N : Nat) : Int))) = false := by simpa using hN
      have := lawEnds0_L1nn.p4 (kind := kind) (number := number) (on := true) (held := false) (N_acts := N) (d_acts := d) (acts := acts) (xd := (i, false, t)) c1 rfl (by rw [hl, en]; simp) c4
      rw [ei] at this
      exact ⟨_, .inl rfl, this⟩

theorem ends1_held (kind number : Int) (on : Bool) (N d : Nat) (acts : Nat → Act) (hn : rng 256 number) : ∃ t, LoopR (lawEnds1_L1ny kind number on true N d acts) (0, false, tPut_3 (tPut_0 (tEnable tNew_1 on) 160) (bShl .u8 number 3)) (.inl (300, false, t)) := by
  obtain ⟨n0, n1⟩ := hn
  have en : IntKind.i64.wrap (Int.tmod number 32) = number % 32 := by rw [Int.tmod_eq_emod_of_nonneg n0, i64_in _ (by omega)]
  obtain ⟨hs, hp, hq⟩ := length_same (number % 32) (by omega)
  have hb := number_bits number ⟨n0, n1⟩
  have start : Keep 1 (if true then 160 else 0) (lenAt on true (rLength (number % 32)) 0) (tPut_3 (tPut_0 (tEnable tNew_1 on) 160) (bShl .u8 number 3)) := by
    rw [hs]
    unfold lenAt
    cases on <;> constructor <;> simp [tPut_3, tHigh, tPut_0, tEnable, tNew_1, hb] <;> first | rfl | (intro hc; omega) | (rw [← hs]; omega)
  refine ends_loop (on := on) (held := true) ⟨hp, hq⟩ rfl (fun i t i0 i1 hl => ?_) (fun t => .p9 (show decide ((300 : Int) < 300) = false by decide)) 300 0 _ (by decide) (by decide) start
  have c1 : (decide ((i : Int) < 300)) = true := by simpa using i1
  have ei : IntKind.i64.wrap (i + 1) = i + 1 := i64_in _ (by omega)
  cases on
  · by_cases hN : i < (N : Int)
    · have c4 : (decide ((i : Int) < ((N : Nat) : Int))) = true := by simpa using hN
      rcases bt (((Int.tmod ((acts (Int.toNat i)).Do) 2) : Int) == 0) with c5 | c5
      · have := lawEnds1_L1ny.p6 (kind := kind) (number := number) (on := false) (held := true) (N_acts := N) (d_acts := d) (acts := acts) (xd := (i, false, t)) c1 rfl (by rw [hl]; rfl) c4 i0 c5
        rw [ei] at this
        exact ⟨_, .inr ⟨(acts (Int.toNat i)).B, rfl⟩, this⟩
      · have := lawEnds1_L1ny.p7 (kind := kind) (number := number) (on := false) (held := true) (N_acts := N) (d_acts := d) (acts := acts) (xd := (i, false, t)) c1 rfl (by rw [hl]; rfl) c4 i0 c5
        rw [ei] at this
        exact ⟨_, .inl rfl, this⟩
    · have c4 : (decide ((i : Int) < ((N : Nat) : Int))) = false := by simpa using hN
      have := lawEnds1_L1ny.p8 (kind := kind) (number := number) (on := false) (held := true) (N_acts := N) (d_acts := d) (acts := acts) (xd := (i, false, t)) c1 rfl (by rw [hl]; rfl) c4
      rw [ei] at this
      exact ⟨_, .inl rfl, this⟩
  · by_cases hN : i < (N : Int)
    · have c4 : (decide ((i : Int) < ((N : Nat) : Int))) = true := by simpa using hN
      rcases bt (((Int.tmod ((acts (Int.toNat i)).Do) 2) : Int) == 0) with c5 | c5
      · have := lawEnds1_L1ny.p2 (kind := kind) (number := number) (on := true) (held := true) (N_acts := N) (d_acts := d) (acts := acts) (xd := (i, false, t)) c1 rfl (by rw [hl]; rfl) c4 i0 c5
        rw [ei] at this
        exact ⟨_, .inr ⟨(acts (Int.toNat i)).B, rfl⟩, this⟩
      · have := lawEnds1_L1ny.p3 (kind := kind) (number := number) (on := true) (held := true) (N_acts := N) (d_acts := d) (acts := acts) (xd := (i, false, t)) c1 rfl (by rw [hl]; rfl) c4 i0 c5
        rw [ei] at this
        exact ⟨_, .inl rfl, this⟩
    · have c4 : (decide ((i : Int) < ((N : Nat) : Int))) = false := by simpa using hN
      have := lawEnds1_L1ny.p4 (kind := kind) (number := number) (on := true) (held := true) (N_acts := N) (d_acts := d) (acts := acts) (xd := (i, false, t)) c1 rfl (by rw [hl]; rfl) c4
      rw [ei] at this
      exact ⟨_, .inl rfl, this⟩

theorem ends1_free (kind number : Int) (on : Bool) (N d : Nat) (acts : Nat → Act) (hn : rng 256 number) : ∃ t, LoopR (lawEnds1_L1nn kind number on false N d acts) (0, false, tPut_3 (tEnable tNew_1 on) (bShl .u8 number 3)) (.inl (300, false, t)) := by
  obtain ⟨n0, n1⟩ := hn
  have en : IntKind.i64.wrap (Int.tmod number 32) = number % 32 := by rw [Int.tmod_eq_emod_of_nonneg n0, i64_in _ (by omega)]
  obtain ⟨hs, hp, hq⟩ := length_same (number % 32) (by omega)
  have hb := number_bits number ⟨n0, n1⟩
  have start : Keep 1 (if false then 160 else 0) (lenAt on false (rLength (number % 32)) 0) (tPut_3 (tEnable tNew_1 on) (bShl .u8 number 3)) := by
    rw [hs]
    unfold lenAt
    cases on <;> constructor <;> simp [tPut_3, tHigh, tPut_0, tEnable, tNew_1, hb] <;> first | rfl | (intro hc; omega) | (rw [← hs]; omega)
  refine ends_loop (on := on) (held := false) ⟨hp, hq⟩ rfl (fun i t i0 i1 hl => ?_) (fun t => .p9 (show decide ((300 : Int) < 300) = false by decide)) 300 0 _ (by decide) (by decide) start
  have c1 : (decide ((i : Int) < 300)) = true := by simpa using i1
  have ei : IntKind.i64.wrap (i + 1) = i + 1 := i64_in _ (by omega)
  cases on
  · by_cases hN : i < (N : Int)
    · have c4 : (decide ((i : Int) < ((N : Nat) : Int))) = true := by simpa using hN
      rcases bt (((Int.tmod ((acts (Int.toNat i)).Do) 2) : Int) == 0) with c5 | c5
      · have := lawEnds1_L1nn.p6 (kind := kind) (number := number) (on := false) (held := false) (N_acts := N) (d_acts := d) (acts := acts) (xd := (i, false, t)) c1 rfl (by rw [hl]; rfl) c4 i0 c5
        rw [ei] at this
        exact ⟨_, .inr ⟨(acts (Int.toNat i)).B, rfl⟩, this⟩
      · have := lawEnds1_L1nn.p7 (kind := kind) (number := number) (on := false) (held := false) (N_acts := N) (d_acts := d) (acts := acts) (xd := (i, false, t)) c1 rfl (by rw [hl]; rfl) c4 i0 c5
        rw [ei] at this
        exact ⟨_, .inl rfl, this⟩
    · have c4 : (decide ((i : Int) < ((N : Nat) : Int))) = false := by simpa using hN
      have := lawEnds1_L1nn.p8 (kind := kind) (number := number) (on := false) (held := false) (N_acts := N) (d_acts := d) (acts := acts) (xd := (i, false, t)) c1 rfl (by rw [hl]; rfl) c4
      rw [ei] at this
      exact ⟨_, .inl rfl, this⟩
  · by_cases hN : i < (N : Int)
    · have c4 : (decide ((i : Int) < ((N : Nat) : Int))) = true := by simpa using hN
      rcases bt (((Int.tmod ((acts (Int.toNat i)).Do) 2) : Int) == 0) with c5 | c5
      · have := lawEnds1_L1nn.p2 (kind := kind) (number := number) (on := true) (held := false) (N_acts := N) (d_acts := d) (acts := acts) (xd := (i, false, t)) c1 rfl (by rw [hl, en]; simp) c4 i0 c5
        rw [ei] at this
        exact ⟨_, .inr ⟨(acts (Int.toNat i)).B, rfl⟩, this⟩
      · have := lawEnds1_L1nn.p3 (kind := kind) (number := number) (on := true) (held := false) (N_acts := N) (d_acts := d) (acts := acts) (xd := (i, false, t)) c1 rfl (by rw [hl, en]; simp) c4 i0 c5
        rw [ei] at this
        exact ⟨_, .inl rfl, this⟩
    · have c4 : (decide ((i : Int) < ((N : Nat) : Int))) = false := by simpa using hN
      have := lawEnds1_L1nn.p4 (kind := kind) (number := number) (on := true) (held := false) (N_acts := N) (d_acts := d) (acts := acts) (xd := (i, false, t)) c1 rfl (by rw [hl, en]; simp) c4
      rw [ei] at this
      exact ⟨_, .inl rfl, this⟩

theorem ends2_held (kind number : Int) (on : Bool) (N d : Nat) (acts : Nat → Act) (hn : rng 256 number) : ∃ t, LoopR (lawEnds2_L1ny kind number on true N d acts) (0, false, tPut_3 (tPut_0 (tEnable tNew_2 on) 160) (bShl .u8 number 3)) (.inl (300, false, t)) := by
  obtain ⟨n0, n1⟩ := hn
  have en : IntKind.i64.wrap (Int.tmod number 32) = number % 32 := by rw [Int.tmod_eq_emod_of_nonneg n0, i64_in _ (by omega)]
  obtain ⟨hs, hp, hq⟩ := length_same (number % 32) (by omega)
  have hb := number_bits number ⟨n0, n1⟩
  have start : Keep 2 (if true then 160 else 0) (lenAt on true (rLength (number % 32)) 0) (tPut_3 (tPut_0 (tEnable tNew_2 on) 160) (bShl .u8 number 3)) := by
    rw [hs]
    unfold lenAt
    cases on <;> constructor <;> simp [tPut_3, tHigh, tPut_0, tEnable, tNew_2, hb] <;> first | rfl | (intro hc; omega) | (rw [← hs]; omega)
  refine ends_loop (on := on) (held := true) ⟨hp, hq⟩ rfl (fun i t i0 i1 hl => ?_) (fun t => .p9 (show decide ((300 : Int) < 300) = false by decide)) 300 0 _ (by decide) (by decide) start
  have c1 : (decide ((i : Int) < 300)) = true := by simpa using i1
  have ei : IntKind.i64.wrap (i + 1) = i + 1 := i64_in _ (by omega)
  cases on
  · by_cases hN : i < (N : Int)
    · have c4 : (decide ((i : Int) < ((N : Nat) : Int))) = true := by simpa using hN
      rcases bt (((Int.tmod ((acts (Int.toNat i)).Do) 2) : Int) == 0) with c5 | c5
      · have := lawEnds2_L1ny.p6 (kind := kind) (number := number) (on := false) (held := true) (N_acts := N) (d_acts := d) (acts := acts) (xd := (i, false, t)) c1 rfl (by rw [hl]; rfl) c4 i0 c5
        rw [ei] at this
        exact ⟨_, .inr ⟨(acts (Int.toNat i)).B, rfl⟩, this⟩
      · have := lawEnds2_L1ny.p7 (kind := kind) (number := number) (on := false) (held := true) (N_acts := N) (d_acts := d) (acts := acts) (xd := (i, false, t)) c1 rfl (by rw [hl]; rfl) c4 i0 c5
        rw [ei] at this
        exact ⟨_, .inl rfl, this⟩
    · have c4 : (decide ((i : Int) < ((N : Nat) : Int))) = false := by simpa using hN
      have := lawEnds2_L1ny.p8 (kind := kind) (number := number) (on := false) (held := true) (N_acts := N) (d_acts := d) (acts := acts) (xd := (i, false, t)) c1 rfl (by rw [hl]; rfl) c4
      rw [ei] at this
      exact ⟨_, .inl rfl, this⟩
  · by_cases hN : i < (N : Int)
    · have c4 : (decide ((i : Int) < ((N : Nat) : Int))) = true := by simpa using hN
      rcases bt (((Int.tmod ((acts (Int.toNat i)).Do) 2) : Int) == 0) with c5 | c5
      · have := lawEnds2_L1ny.p2 (kind := kind) (number := number) (on := true) (held := true) (N_acts := N) (d_acts := d) (acts := acts) (xd := (i, false, t)) c1 rfl (by rw [hl]; rfl) c4 i0 c5
        rw [ei] at this
        exact ⟨_, .inr ⟨(acts (Int.toNat i)).B, rfl⟩, this⟩
      · have := lawEnds2_L1ny.p3 (kind := kind) (number := number) (on := true) (held := true) (N_acts := N) (d_acts := d) (acts := acts) (xd := (i, false, t)) c1 rfl (by rw [hl]; rfl) c4 i0 c5
        rw [ei] at this
        exact ⟨_, .inl rfl, this⟩
    · have c4 : (decide ((i : Int) < ((N : Nat) : Int))) = false := by simpa using hN
      have := lawEnds2_L1ny.p4 (kind := kind) (number := number) (on := true) (held := true) (N_acts := N) (d_acts := d) (acts := acts) (xd := (i, false, t)) c1 rfl (by rw [hl]; rfl) c4
      rw [ei] at this
      exact ⟨_, .inl rfl, this⟩

theorem ends2_free (kind number : Int) (on : Bool) (N d : Nat) (acts : Nat → Act) (hn : rng 256 number) : ∃ t, LoopR (lawEnds2_L1nn kind number on false N d acts) (0, false, tPut_3 (tEnable tNew_2 on) (bShl .u8 number 3)) (.inl (300, false, t)) := by
  obtain ⟨n0, n1⟩ := hn
  have en : IntKind.i64.wrap (Int.tmod number 32) = number % 32 := by rw [Int.tmod_eq_emod_of_nonneg n0, i64_in _ (by omega)]
  obtain ⟨hs, hp, hq⟩ := length_same (number % 32) (by omega)
  have hb := number_bits number ⟨n0, n1⟩
  have start : Keep 2 (if false then 160 else 0) (lenAt on false (rLength (number % 32)) 0) (tPut_3 (tEnable tNew_2 on) (bShl .u8 number 3)) := by
    rw [hs]
    unfold lenAt
    cases on <;> constructor <;> simp [tPut_3, tHigh, tPut_0, tEnable, tNew_2, hb] <;> first | rfl | (intro hc; omega) | (rw [← hs]; omega)
  refine ends_loop (on := on) (held := false) ⟨hp, hq⟩ rfl (fun i t i0 i1 hl => ?_) (fun t => .p9 (show decide ((300 : Int) < 300) = false by decide)) 300 0 _ (by decide) (by decide) start
  have c1 : (decide ((i : Int) < 300)) = true := by simpa using i1
  have ei : IntKind.i64.wrap (i + 1) = i + 1 := i64_in _ (by omega)
  cases on
  · by_cases hN : i < (N : Int)
    · have c4 : (decide ((i : Int) < ((N : Nat) : Int))) = true := by simpa using hN
      rcases bt (((Int.tmod ((acts (Int.toNat i)).Do) 2) : Int) == 0) with c5 | c5
      · have := lawEnds2_L1nn.p6 (kind := kind) (number := number) (on := false) (held := false) (N_acts := N) (d_acts := d) (acts := acts) (xd := (i, false, t)) c1 rfl (by rw [hl]; rfl) c4 i0 c5
        rw [ei] at this
        exact ⟨_, .inr ⟨(acts (Int.toNat i)).B, rfl⟩, this⟩
      · have := lawEnds2_L1nn.p7 (kind := kind) (number := number) (on := false) (held := false) (N_acts := N) (d_acts := d) (acts := acts) (xd := (i, false, t)) c1 rfl (by rw [hl]; rfl) c4 i0 c5
        rw [ei] at this
        exact ⟨_, .inl rfl, this⟩
    · have c4 : (decide ((i : Int) < ((N : Nat) : Int))) = false := by simpa using hN
      have := lawEnds2_L1nn.p8 (kind := kind) (number := number) (on := false) (held := false) (N_acts := N) (d_acts := d) (acts := acts) (xd := (i, false, t)) c1 rfl (by rw [hl]; rfl) c4
      rw [ei] at this
      exact ⟨_, .inl rfl, this⟩
  · by_cases hN : i < (N : Int)
    · have c4 : (decide ((i : Int) < ((N : Nat) : Int))) = true := by simpa using hN
      rcases bt (((Int.tmod ((acts (Int.toNat i)).Do) 2) : Int) == 0) with c5 | c5
      · have := lawEnds2_L1nn.p2 (kind := kind) (number := number) (on := true) (held := false) (N_acts := N) (d_acts := d) (acts := acts) (xd := (i, false, t)) c1 rfl (by rw [hl, en]; simp) c4 i0 c5
        rw [ei] at this
        exact ⟨_, .inr ⟨(acts (Int.toNat i)).B, rfl⟩, this⟩
      · have := lawEnds2_L1nn.p3 (kind := kind) (number := number) (on := true) (held := false) (N_acts := N) (d_acts := d) (acts := acts) (xd := (i, false, t)) c1 rfl (by rw [hl, en]; simp) c4 i0 c5
        rw [ei] at this
        exact ⟨_, .inl rfl, this⟩
    · have c4 : (decide ((i : Int) < ((N : Nat) : Int))) = false := by simpa using hN
      have := lawEnds2_L1nn.p4 (kind := kind) (number := number) (on := true) (held := false) (N_acts := N) (d_acts := d) (acts := acts) (xd := (i, false, t)) c1 rfl (by rw [hl, en]; simp) c4
      rw [ei] at this
      exact ⟨_, .inl rfl, this⟩

theorem ends3_held (kind number : Int) (on : Bool) (N d : Nat) (acts : Nat → Act) (hn : rng 256 number) : ∃ t, LoopR (lawEnds3_L1ny kind number on true N d acts) (0, false, tPut_3 (tPut_0 (tEnable tNew_3 on) 160) (bShl .u8 number 3)) (.inl (300, false, t)) := by
  obtain ⟨n0, n1⟩ := hn
  have en : IntKind.i64.wrap (Int.tmod number 32) = number % 32 := by rw [Int.tmod_eq_emod_of_nonneg n0, i64_in _ (by omega)]
  obtain ⟨hs, hp, hq⟩ := length_same (number % 32) (by omega)
  have hb := number_bits number ⟨n0, n1⟩
  have start : Keep 3 (if true then 160 else 0) (lenAt on true (rLength (number % 32)) 0) (tPut_3 (tPut_0 (tEnable tNew_3 on) 160) (bShl .u8 number 3)) := by
    rw [hs]
    unfold lenAt
    cases on <;> constructor <;> simp [tPut_3, tHigh, tPut_0, tEnable, tNew_3, hb] <;> first | rfl | (intro hc; omega) | (rw [← hs]; omega)
  refine ends_loop (on := on) (held := true) ⟨hp, hq⟩ rfl (fun i t i0 i1 hl => ?_) (fun t => .p9 (show decide ((300 : Int) < 300) = false by decide)) 300 0 _ (by decide) (by decide) start
  have c1 : (decide ((i : Int) < 300)) = true := by simpa using i1
  have ei : IntKind.i64.wrap (i + 1) = i + 1 := i64_in _ (by omega)
  cases on
  · by_cases hN : i < (N : Int)
    · have c4 : (decide ((i : Int) < ((N : Nat) : Int))) = true := by simpa using hN
      rcases bt (((Int.tmod ((acts (Int.toNat i)).Do) 2) : Int) == 0) with c5 | c5
      · have := lawEnds3_L1ny.p6 (kind := kind) (number := number) (on := false) (held := true) (N_acts := N) (d_acts := d) (acts := acts) (xd := (i, false, t)) c1 rfl (by rw [hl]; rfl) c4 i0 c5
        rw [ei] at this
        exact ⟨_, .inr ⟨(acts (Int.toNat i)).B, rfl⟩, this⟩
      · have := lawEnds3_L1ny.p7 (kind := kind) (number := number) (on := false) (held := true) (N_acts := N) (d_acts := d) (acts := acts) (xd := (i, false, t)) c1 rfl (by rw [hl]; rfl) c4 i0 c5
        rw [ei] at this
        exact ⟨_, .inl rfl, this⟩
    · have c4 : (decide ((i : Int) < ((N : Nat) : Int))) = false := by simpa using hN
      have := lawEnds3_L1ny.p8 (kind := kind) (number := number) (on := false) (held := true) (N_acts := N) (d_acts := d) (acts := acts) (xd := (i, false, t)) c1 rfl (by rw [hl]; rfl) c4
      rw [ei] at this
      exact ⟨_, .inl rfl, this⟩
  · by_cases hN : i < (N : Int)
    · have c4 : (decide ((i : Int) < ((N : Nat) : Int))) = true := by simpa using hN
      rcases bt (((Int.tmod ((acts (Int.toNat i)).Do) 2) : Int) == 0) with c5 | c5
      · have := lawEnds3_L1ny.p2 (kind := kind) (number := number) (on := true) (held := true) (N_acts := N) (d_acts := d) (acts := acts) (xd := (i, false, t)) c1 rfl (by rw [hl]; rfl) c4 i0 c5
        rw [ei] at this
        exact ⟨_, .inr ⟨(acts (Int.toNat i)).B, rfl⟩, this⟩
      · have := lawEnds3_L1ny.p3 (kind := kind) (number := number) (on := true) (held := true) (N_acts := N) (d_acts := d) (acts := acts) (xd := (i, false, t)) c1 rfl (by rw [hl]; rfl) c4 i0 c5
        rw [ei] at this
        exact ⟨_, .inl rfl, this⟩
    · have c4 : (decide ((i : Int) < ((N : Nat) : Int))) = false := by simpa using hN
      have := lawEnds3_L1ny.p4 (kind := kind) (number := number) (on := true) (held := true) (N_acts := N) (d_acts := d) (acts := acts) (xd := (i, false, t)) c1 rfl (by rw [hl]; rfl) c4
      rw [ei] at this
      exact ⟨_, .inl rfl, this⟩

theorem ends3_free (kind number : Int) (on : Bool) (N d : Nat) (acts : Nat → Act) (hn : rng 256 number) : ∃ t, LoopR (lawEnds3_L1nn kind number on false N d acts) (0, false, tPut_3 (tEnable tNew_3 on) (bShl .u8 number 3)) (.inl (300, false, t)) := by
  obtain ⟨n0, n1⟩ := hn
  have en : IntKind.i64.wrap (Int.tmod number 32) = number % 32 := by rw [Int.tmod_eq_emod_of_nonneg n0, i64_in _ (by omega)]
  obtain ⟨hs, hp, hq⟩ := length_same (number % 32) (by omega)
  have hb := number_bits number ⟨n0, n1⟩
  have start : Keep 3 (if false then 160 else 0) (lenAt on false (rLength (number % 32)) 0) (tPut_3 (tEnable tNew_3 on) (bShl .u8 number 3)) := by
    rw [hs]
    unfold lenAt
    cases on <;> constructor <;> simp [tPut_3, tHigh, tPut_0, tEnable, tNew_3, hb] <;> first | rfl | (intro hc; omega) | (rw [← hs]; omega)
  refine ends_loop (on := on) (held := false) ⟨hp, hq⟩ rfl (fun i t i0 i1 hl => ?_) (fun t => .p9 (show decide ((300 : Int) < 300) = false by decide)) 300 0 _ (by decide) (by decide) start
  have c1 : (decide ((i : Int) < 300)) = true := by simpa using i1
  have ei : IntKind.i64.wrap (i + 1) = i + 1 := i64_in _ (by omega)
  cases on
  · by_cases hN : i < (N : Int)
    · have c4 : (decide ((i : Int) < ((N : Nat) : Int))) = true := by simpa using hN
      rcases bt (((Int.tmod ((acts (Int.toNat i)).Do) 2) : Int) == 0) with c5 | c5
      · have := lawEnds3_L1nn.p6 (kind := kind) (number := number) (on := false) (held := false) (N_acts := N) (d_acts := d) (acts := acts) (xd := (i, false, t)) c1 rfl (by rw [hl]; rfl) c4 i0 c5
        rw [ei] at this
        exact ⟨_, .inr ⟨(acts (Int.toNat i)).B, rfl⟩, this⟩
      · have := lawEnds3_L1nn.p7 (kind := kind) (number := number) (on := false) (held := false) (N_acts := N) (d_acts := d) (acts := acts) (xd := (i, false, t)) c1 rfl (by rw [hl]; rfl) c4 i0 c5
        rw [ei] at this
        exact ⟨_, .inl rfl, this⟩
    · have c4 : (decide ((i : Int) < ((N : Nat) : Int))) = false := by simpa using hN
      have := lawEnds3_L1nn.p8 (kind := kind) (number := number) (on := false) (held := false) (N_acts := N) (d_acts := d) (acts := acts) (xd := (i, false, t)) c1 rfl (by rw [hl]; rfl) c4
      rw [ei] at this
      exact ⟨_, .inl rfl, this⟩
  · by_cases hN : i < (N : Int)
    · have c4 : (decide ((i : Int) < ((N : Nat) : Int))) = true := by simpa using hN
      rcases bt (((Int.tmod ((acts (Int.toNat i)).Do) 2) : Int) == 0) with c5 | c5
      · have := lawEnds3_L1nn.p2 (kind := kind) (number := number) (on := true) (held := false) (N_acts := N) (d_acts := d) (acts := acts) (xd := (i, false, t)) c1 rfl (by rw [hl, en]; simp) c4 i0 c5
        rw [ei] at this
        exact ⟨_, .inr ⟨(acts (Int.toNat i)).B, rfl⟩, this⟩
      · have := lawEnds3_L1nn.p3 (kind := kind) (number := number) (on := true) (held := false) (N_acts := N) (d_acts := d) (acts := acts) (xd := (i, false, t)) c1 rfl (by rw [hl, en]; simp) c4 i0 c5
        rw [ei] at this
        exact ⟨_, .inl rfl, this⟩
    · have c4 : (decide ((i : Int) < ((N : Nat) : Int))) = false := by simpa using hN
      have := lawEnds3_L1nn.p4 (kind := kind) (number := number) (on := true) (held := false) (N_acts := N) (d_acts := d) (acts := acts) (xd := (i, false, t)) c1 rfl (by rw [hl, en]; simp) c4
      rw [ei] at this
      exact ⟨_, .inl rfl, this⟩

theorem ends_true (kind number : Int) (on held : Bool) (N d : Nat) (acts : Nat → Act) (hk : rng 256 kind) (hn : rng 256 number) (wa : ∀ j, Act.ok (acts j)) :
    FnSpec Tryd.prog 9 1001 [.int .u8 kind, .int .u8 number, .bool on, .bool held, .slice (some ⟨1000, 0, (some d)⟩) N 0] [(0, ⟨[.ints .u16 16 noisesT], 60, true⟩), (1, ⟨[.ints .u8 4 dutiesT], 39, true⟩), (2, ⟨[.ints .u8 32 lengthsT], 64, true⟩), (1000, ⟨[.gap d, .rows N 4 (fun i => Act.cells (acts i))], 51, true⟩)] (.bool true) [] := by
  have hn' := hn
  obtain ⟨k0, k1⟩ := hk
  obtain ⟨n0, n1⟩ := hn
  have aw := awake_t
  have ek : Int.tmod kind 4 = kind % 4 := Int.tmod_eq_emod_of_nonneg k0
  have wl : 0 ≤ (IntKind.i64.wrap (Int.tmod number 32)) ∧ (IntKind.i64.wrap (Int.tmod number 32)) < 32 := by rw [Int.tmod_eq_emod_of_nonneg n0, i64_in _ (by omega)]; omega
  have dead : ∀ t : Tone, (!(tLive (tEnable t false))) = true := by
    intro t; unfold tLive tEnable; simp
  obtain h | h | h | h : Int.tmod kind 4 = 0 ∨ Int.tmod kind 4 = 1 ∨ Int.tmod kind 4 = 2 ∨ Int.tmod kind 4 = 3 := by rw [ek]; omega
  · cases held
    · obtain ⟨t, L⟩ := ends0_free kind number on N d acts hn'
      have := lawEnds0_p3 kind number on false N d acts h aw rfl wl _ L
      rw [dead] at this
      exact this
    · obtain ⟨t, L⟩ := ends0_held kind number on N d acts hn'
      have := lawEnds0_p1 kind number on true N d acts h aw rfl wl _ L
      rw [dead] at this
      exact this
  · cases held
    · obtain ⟨t, L⟩ := ends1_free kind number on N d acts hn'
      have := lawEnds1_p3 kind number on false N d acts h aw rfl wl _ L
      rw [dead] at this
      exact this
    · obtain ⟨t, L⟩ := ends1_held kind number on N d acts hn'
      have := lawEnds1_p1 kind number on true N d acts h aw rfl wl _ L
      rw [dead] at this
      exact this
  · cases held
    · obtain ⟨t, L⟩ := ends2_free kind number on N d acts hn'
      have := lawEnds2_p3 kind number on false N d acts h aw rfl wl _ L
      rw [dead] at this
      exact this
    · obtain ⟨t, L⟩ := ends2_held kind number on N d acts hn'
      have := lawEnds2_p1 kind number on true N d acts h aw rfl wl _ L
      rw [dead] at this
      exact this
  · cases held
    · obtain ⟨t, L⟩ := ends3_free kind number on N d acts hn'
      have := lawEnds3_p3 kind number on false N d acts h aw rfl wl _ L
      rw [dead] at this
      exact this
    · obtain ⟨t, L⟩ := ends3_held kind number on N d acts hn'
      have := lawEnds3_p1 kind number on true N d acts h aw rfl wl _ L
      rw [dead] at this
      exact this

end Go.Proofs.YtngeghiaakkdbaaDoor
