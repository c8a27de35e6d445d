/-
  Layer 11: the plain law of what a pulse puts out. No condition.
-/
import Derived.Test.YtngeghiaakkdbaaDoorTF
import Derived.Test.YtngeghiaakkdbaaDoorTH
namespace Go.Proofs.YtngeghiaakkdbaaDoor
open Go VX IntWalk
set_option maxRecDepth 100000
set_option linter.unusedSimpArgs false
set_option linter.unusedVariables false

/-- A pulse at its i-th step. -/
def stepped (T : Tone) (i : Nat) : Tone := { T with step := (i % 8 : Nat) }

theorem stepped_ok {T : Tone} (h : Tone.ok T) (i : Nat) : Tone.ok (stepped T i) :=
  ⟨h.kind, h.reg, h.length, h.period, h.timer, ⟨by simp [stepped]; omega, by simp [stepped]; omega⟩, h.level, h.count, h.sweep, h.line, h.row⟩

theorem stepped_next {T : Tone} (h : Tone.ok T) (hk : T.kind = 0 ∨ T.kind = 1) (ht : T.timer = 0) (i : Nat) : clocks (T.period.toNat + 1) (stepped T i) = stepped T (i + 1) := by
  have := clocks_round (stepped T i) (stepped_ok h i) ht
  have e : (stepped T i).period = T.period := rfl
  rw [e] at this
  rw [this]
  unfold tFire
  have k2 : ¬ (stepped T i).kind = 2 := by show ¬ T.kind = 2; omega
  have k3 : ¬ (stepped T i).kind = 3 := by show ¬ T.kind = 3; omega
  rw [if_neg k2, if_neg k3]
  have es : Int.tmod (IntKind.u8.wrap ((stepped T i).step + 1)) 8 = ((i + 1) % 8 : Nat) := by
    show Int.tmod (IntKind.u8.wrap (((i % 8 : Nat) : Int) + 1)) 8 = _
    rw [u8_in _ (by omega), Int.tmod_eq_emod_of_nonneg (by omega)]; omega
  rw [es]
  simp [stepped, ht]

theorem clk_iter {f : Int × Tone → (Int × Tone) ⊕ (Int × Tone)} {e : Int} (N : Nat) (he : e = N) (hN : N < 100000) (hf : ∀ s, f s = if (decide ((s.1 : Int) < e)) = true then .inl ((IntKind.i64.wrap (s.1 + 1)), (tClock s.2)) else .inr (s.1, s.2)) (t : Tone) : iter f (N + 1) (0, t) = some ((N : Int), clocks N t) :=
  iter_for tClock f N IntKind.i64.wrap (fun i h0 h1 => i64_in _ (by omega)) (fun s => ((N : Int), s)) (fun i s h0 h1 => by rw [hf, if_pos (by rw [he]; simpa using h1)]) (fun s => by rw [hf, if_neg (by rw [he]; simp)]) N 0 t (by omega) (by omega)

/-- How many of the first steps are heard. -/
def heard (T : Tone) : Nat → Int
  | 0 => 0
  | i + 1 => heard T i + (if tOut (stepped T i) = 0 then 0 else 1)

theorem heard_b (T : Tone) : ∀ i : Nat, 0 ≤ heard T i ∧ heard T i ≤ i
  | 0 => by simp [heard]
  | i + 1 => by have := heard_b T i; simp only [heard]; split <;> omega

theorem mutes_loop {rel : Int × Int × Bool × Tone → (Int × Int × Bool × Tone) ⊕ ((Int × Int × Bool × Tone) ⊕ Bool) → Prop} {T : Tone} {v : Int} (hT : Tone.ok T) (hk : T.kind = 0 ∨ T.kind = 1) (ht : T.timer = 0) (hv : ∀ i, tOut (stepped T i) = 0 ∨ tOut (stepped T i) = v)
    (h2 : ∀ (i l : Int) (t t' : Tone), (decide ((i : Int) < 8)) = true → Tone.ok t → (((tOut t) : Int) != 0) = true → (((tOut t) : Int) != v) = false → clocks (T.period.toNat + 1) t = t' → rel (i, l, false, t) (.inl (IntKind.i64.wrap (i + 1), IntKind.i64.wrap (l + 1), false, t')))
    (h3 : ∀ (i l : Int) (t t' : Tone), (decide ((i : Int) < 8)) = true → Tone.ok t → (((tOut t) : Int) != 0) = false → clocks (T.period.toNat + 1) t = t' → rel (i, l, false, t) (.inl (IntKind.i64.wrap (i + 1), l, false, t')))
    (h4 : ∀ (i l : Int) (t : Tone), (decide ((i : Int) < 8)) = false → rel (i, l, false, t) (.inr (.inl (i, l, false, t)))) (h0 : T.step = 0) :
    LoopR rel (0, 0, false, T) (.inl (8, heard T 8, false, stepped T 8)) := by
  have e0 : (((0 : Nat) : Int), heard T 0, false, stepped T 0) = ((0 : Int), (0 : Int), false, T) := by
    have : stepped T 0 = T := by unfold stepped; cases T; simp at h0 ⊢; exact h0.symm
    rw [this]; rfl
  rw [← e0]
  refine loop_seq (fun i => (((i : Nat) : Int), heard T i, false, stepped T i)) 8 _ (fun i hi => ?_) (h4 8 _ _ (by decide))
  have hb := heard_b T i
  have ei : IntKind.i64.wrap ((i : Int) + 1) = ((i + 1 : Nat) : Int) := by rw [i64_in _ (by omega)]; omega
  by_cases ho : tOut (stepped T i) = 0
  · have := h3 i (heard T i) (stepped T i) _ (by simp; omega) (stepped_ok hT i) (by simp [ho]) (stepped_next hT hk ht i)
    rw [ei] at this
    have eh : heard T (i + 1) = heard T i := by simp [heard, ho]
    rw [eh]; exact this
  · have := h2 i (heard T i) (stepped T i) _ (by simp; omega) (stepped_ok hT i) (by simp [ho]) (by rcases hv i with h | h; exact absurd h ho; simp [h]) (stepped_next hT hk ht i)
    rw [ei, i64_in (heard T i + 1) (by omega)] at this
    have eh : heard T (i + 1) = heard T i + 1 := by simp [heard, ho]
    rw [eh]; exact this

theorem reg0_eq (duty volume : Int) (hd : rng 256 duty) (hv : rng 256 volume) : bOr .u8 (bOr .u8 (bShl .u8 duty 6) 48) (bAnd .u8 volume 15) = duty % 4 * 64 + 48 + volume % 16 := by
  obtain ⟨d0, d1⟩ := hd
  obtain ⟨v0, v1⟩ := hv
  have e1 : bShl .u8 duty 6 = duty % 4 * 64 := by
    unfold bShl
    have : (2 : Int) ^ (min (6 : Int).toNat IntKind.u8.bits) = 64 := by decide
    rw [this, IntKind.wrap_u8]; omega
  have e2 : bOr .u8 (duty % 4 * 64) 48 = duty % 4 * 64 + 48 := bOr_low (k := .u8) rfl 6 (by omega) (by show _ < ((256 : Nat) : Int); omega) (by omega) (by show _ < ((64 : Nat) : Int); omega) (by show _ % ((64 : Nat) : Int) = 0; omega) (by decide)
  rw [e1, e2, and8_15 ⟨v0, v1⟩]
  exact bOr_low (k := .u8) rfl 4 (by omega) (by show _ < ((256 : Nat) : Int); omega) (by omega) (by show _ < ((16 : Nat) : Int); omega) (by show _ % ((16 : Nat) : Int) = 0; omega) (by decide)

theorem dbits (d : Int) (hd : 0 ≤ d ∧ d < 4) : ((if dbit d 0 then 1 else 0) + (if dbit d 1 then 1 else 0) + (if dbit d 2 then 1 else 0) + (if dbit d 3 then 1 else 0) + (if dbit d 4 then 1 else 0) + (if dbit d 5 then 1 else 0) + (if dbit d 6 then 1 else 0) + (if dbit d 7 then 1 else 0) : Int) = List.getD ([1, 2, 4, 6] : List Int) d.toNat 0 := by
  obtain rfl | rfl | rfl | rfl : d = 0 ∨ d = 1 ∨ d = 2 ∨ d = 3 := by omega
  all_goals decide +kernel

/-- What a pulse that is laid so puts out at its i-th step. -/
theorem pulse_out (k duty volume sweep p l : Int) (hk : k = 0 ∨ k = 1) (hd : rng 256 duty) (hv : rng 256 volume) (hs : rng 256 sweep) (hp : 0 ≤ p ∧ p < 2048) (hl : 0 < l ∧ l < 256) (i : Nat) :
    tOut (stepped (pulse k (bOr .u8 (bOr .u8 (bShl .u8 duty 6) 48) (bAnd .u8 volume 15)) (bAnd .u8 sweep 127) p l) i) = if p < 8 ∨ (sweep / 8 % 2 = 0 ∧ p + p / 2 ^ (sweep % 8).toNat > 2047) then 0 else if dbit (duty % 4) (i % 8 : Nat) then volume % 16 else 0 := by
  rw [reg0_eq duty volume hd hv, and8_127 hs]
  obtain ⟨d0, d1⟩ := hd
  obtain ⟨v0, v1⟩ := hv
  obtain ⟨s0, s1⟩ := hs
  generalize hr0 : duty % 4 * 64 + 48 + volume % 16 = r0
  have hR0 : (stepped (pulse k r0 (sweep % 128) p l) i).reg 0 = r0 := rfl
  have hR1 : (stepped (pulse k r0 (sweep % 128) p l) i).reg 1 = sweep % 128 := rfl
  have hok : Tone.ok (stepped (pulse k r0 (sweep % 128) p l) i) := by
    refine stepped_ok ?_ i
    refine ⟨⟨by simp [pulse]; omega, by simp [pulse]; omega⟩, ?_, ⟨by simp [pulse]; omega, by simp [pulse]; omega⟩, ⟨by simp [pulse]; omega, by simp [pulse]; omega⟩, ⟨by simp [pulse], by simp [pulse]⟩, ⟨by simp [pulse], by simp [pulse]⟩, ⟨by simp [pulse], by simp [pulse]⟩, ⟨by simp [pulse], by simp [pulse]⟩, ⟨by simp [pulse], by simp [pulse]⟩, ⟨by simp [pulse], by simp [pulse]⟩, ⟨by simp [pulse], by simp [pulse]⟩⟩
    exact rng_upd (rng_upd (rng_upd (rng_upd (rng_list (by decide) [0, 0, 0, 0] ⟨by decide, by decide, by decide, by decide, trivial⟩) 0 ⟨by omega, by omega⟩) 1 ⟨by omega, by omega⟩) 2 ⟨by omega, by omega⟩) 3 ⟨by omega, by omega⟩
  rw [out_pulse _ hk (by exact hl.1), hR0]
  have hsh : bShr .u8 r0 6 = duty % 4 := by rw [shr8_6]; omega
  have hvol : tVolume (stepped (pulse k r0 (sweep % 128) p l) i) = volume % 16 := by
    unfold tVolume
    rw [hR0, if_pos (by rw [and8_16 (by omega)]; simp; omega), and8_15 (by omega)]
    omega
  have htg := target_eq _ hok (show (stepped (pulse k r0 (sweep % 128) p l) i).period < 2048 from hp.2)
  rw [hR1] at htg
  have e8 : sweep % 128 % 8 = sweep % 8 := by omega
  have e9 : sweep % 128 / 8 % 2 = sweep / 8 % 2 := by omega
  rw [e8, e9] at htg
  have hper : (stepped (pulse k r0 (sweep % 128) p l) i).period = p := rfl
  rw [hper] at htg
  have hq : 0 ≤ p / 2 ^ (sweep % 8).toNat := Int.ediv_nonneg hp.1 (Int.le_of_lt (Int.pow_pos (by decide)))
  have hmute : tMute (stepped (pulse k r0 (sweep % 128) p l) i) = decide (p < 8 ∨ (sweep / 8 % 2 = 0 ∧ p + p / 2 ^ (sweep % 8).toNat > 2047)) := by
    unfold tMute
    rw [hper]
    by_cases h8 : p < 8
    · rw [if_pos (by simpa using h8)]; simp [h8]
    · rw [if_neg (by simpa using h8), htg]
      generalize p / 2 ^ (sweep % 8).toNat = q at *
      by_cases hsw : sweep / 8 % 2 = 0
      · rw [if_pos hsw]; simp [h8, hsw]
      · rw [if_neg hsw]
        simp only [h8, hsw, false_and, or_false, decide_false, decide_eq_false_iff_not]
        split <;> omega
  rw [hmute, hsh, hvol]
  by_cases hm : p < 8 ∨ (sweep / 8 % 2 = 0 ∧ p + p / 2 ^ (sweep % 8).toNat > 2047)
  · rw [if_pos (by simpa using hm), if_pos hm]
  · rw [if_neg (by simpa using hm), if_neg hm]; rfl

/-- How often a pulse is heard in eight steps. -/
theorem heard_count {T : Tone} {d v : Int} (M : Prop) [Decidable M] (hd : 0 ≤ d ∧ d < 4) (ho : ∀ i : Nat, tOut (stepped T i) = if M then 0 else if dbit d (i % 8 : Nat) then v else 0) :
    heard T 8 = if v = 0 ∨ M then 0 else List.getD ([1, 2, 4, 6] : List Int) d.toNat 0 := by
  have one : ∀ i : Nat, (if tOut (stepped T i) = 0 then (0 : Int) else 1) = if v = 0 ∨ M then 0 else if dbit d (i % 8 : Nat) then 1 else 0 := by
    intro i
    rw [ho]
    by_cases hM : M
    · simp [hM]
    · by_cases hv : v = 0
      · simp [hv]
      · simp only [hM, hv, or_false, if_false]
        cases dbit d (i % 8 : Nat) <;> simp [hv]
  have e : heard T 8 = 0 + (if tOut (stepped T 0) = 0 then (0 : Int) else 1) + (if tOut (stepped T 1) = 0 then (0 : Int) else 1) + (if tOut (stepped T 2) = 0 then (0 : Int) else 1) + (if tOut (stepped T 3) = 0 then (0 : Int) else 1) + (if tOut (stepped T 4) = 0 then (0 : Int) else 1) + (if tOut (stepped T 5) = 0 then (0 : Int) else 1) + (if tOut (stepped T 6) = 0 then (0 : Int) else 1) + (if tOut (stepped T 7) = 0 then (0 : Int) else 1) := rfl
  rw [e]
  simp only [one]
  by_cases h : v = 0 ∨ M
  · simp [h]
  · simp only [h, if_false]
    have hb := dbits d hd
    rw [← hb]
    have k0 : ((0 % 8 : Nat) : Int) = 0 := rfl
    have k1 : ((1 % 8 : Nat) : Int) = 1 := rfl
    have k2 : ((2 % 8 : Nat) : Int) = 2 := rfl
    have k3 : ((3 % 8 : Nat) : Int) = 3 := rfl
    have k4 : ((4 % 8 : Nat) : Int) = 4 := rfl
    have k5 : ((5 % 8 : Nat) : Int) = 5 := rfl
    have k6 : ((6 % 8 : Nat) : Int) = 6 := rfl
    have k7 : ((7 % 8 : Nat) : Int) = 7 := rfl
    rw [k0, k1, k2, k3, k4, k5, k6, k7, Int.zero_add]

theorem mutes_nyy (two : Bool) (volume duty sweep period : Int) (hp : rng 65536 period) {T : Tone} (hT : Tone.ok T) (hk : T.kind = 0 ∨ T.kind = 1) (ht : T.timer = 0) (h0 : T.step = 0) (hper : T.period = Int.tmod period 2048) (hv : ∀ i, tOut (stepped T i) = 0 ∨ tOut (stepped T i) = bAnd .u8 volume 15) :
    LoopR (lawMutes_L1nyy two volume duty sweep period) (0, 0, false, T) (.inl (8, heard T 8, false, stepped T 8)) := by
  have ep : Int.tmod period 2048 = period % 2048 := Int.tmod_eq_emod_of_nonneg hp.1
  have eN : IntKind.i64.wrap ((IntKind.i64.wrap (Int.tmod period 2048)) + 1) = ((T.period.toNat + 1 : Nat) : Int) := by rw [hper, ep, i64_in (period % 2048) (by omega), i64_in _ (by omega)]; omega
  have hN : T.period.toNat + 1 < 100000 := by rw [hper, ep]; omega
  refine mutes_loop hT hk ht hv (fun i l t t' a b c d e => ?_) (fun i l t t' a b c e => ?_) (fun i l t a => .p4 a) h0
  · have := lawMutes_L1nyy.p2 (two := two) (volume := volume) (duty := duty) (sweep := sweep) (period := period) (xd := (i, l, false, t)) a b c d _ _ (clk_iter (T.period.toNat + 1) eN hN (fun s => rfl) t)
    rw [e] at this
    exact this
  · have := lawMutes_L1nyy.p3 (two := two) (volume := volume) (duty := duty) (sweep := sweep) (period := period) (xd := (i, l, false, t)) a b c _ _ (clk_iter (T.period.toNat + 1) eN hN (fun s => rfl) t)
    rw [e] at this
    exact this

theorem mutes_nyn (two : Bool) (volume duty sweep period : Int) (hp : rng 65536 period) {T : Tone} (hT : Tone.ok T) (hk : T.kind = 0 ∨ T.kind = 1) (ht : T.timer = 0) (h0 : T.step = 0) (hper : T.period = Int.tmod period 2048) (hv : ∀ i, tOut (stepped T i) = 0 ∨ tOut (stepped T i) = bAnd .u8 volume 15) :
    LoopR (lawMutes_L1nyn two volume duty sweep period) (0, 0, false, T) (.inl (8, heard T 8, false, stepped T 8)) := by
  have ep : Int.tmod period 2048 = period % 2048 := Int.tmod_eq_emod_of_nonneg hp.1
  have eN : IntKind.i64.wrap ((IntKind.i64.wrap (Int.tmod period 2048)) + 1) = ((T.period.toNat + 1 : Nat) : Int) := by rw [hper, ep, i64_in (period % 2048) (by omega), i64_in _ (by omega)]; omega
  have hN : T.period.toNat + 1 < 100000 := by rw [hper, ep]; omega
  refine mutes_loop hT hk ht hv (fun i l t t' a b c d e => ?_) (fun i l t t' a b c e => ?_) (fun i l t a => .p4 a) h0
  · have := lawMutes_L1nyn.p2 (two := two) (volume := volume) (duty := duty) (sweep := sweep) (period := period) (xd := (i, l, false, t)) a b c d _ _ (clk_iter (T.period.toNat + 1) eN hN (fun s => rfl) t)
    rw [e] at this
    exact this
  · have := lawMutes_L1nyn.p3 (two := two) (volume := volume) (duty := duty) (sweep := sweep) (period := period) (xd := (i, l, false, t)) a b c _ _ (clk_iter (T.period.toNat + 1) eN hN (fun s => rfl) t)
    rw [e] at this
    exact this

theorem mutes_true (two : Bool) (volume duty sweep period : Int) (hv : rng 256 volume) (hd : rng 256 duty) (hs : rng 256 sweep) (hp : rng 65536 period) :
    FnSpec Tryd.prog 4 1000 [.bool two, .int .u8 volume, .int .u8 duty, .int .u8 sweep, .int .u16 period] [(0, ⟨[.ints .u16 16 noisesT], 60, true⟩), (1, ⟨[.ints .u8 4 dutiesT], 39, true⟩), (2, ⟨[.ints .u8 32 lengthsT], 64, true⟩)] (.bool true) [] := by
  have ep : Int.tmod period 2048 = period % 2048 := Int.tmod_eq_emod_of_nonneg hp.1
  have hP : 0 ≤ Int.tmod period 2048 ∧ Int.tmod period 2048 < 2048 := by rw [ep]; omega
  have hwp : IntKind.i64.wrap (Int.tmod period 2048) = Int.tmod period 2048 := i64_in _ (by omega)
  have eN : IntKind.i64.wrap ((IntKind.i64.wrap (Int.tmod period 2048)) + 1) = (((Int.tmod period 2048).toNat + 1 : Nat) : Int) := by rw [hwp, i64_in _ (by omega)]; omega
  obtain ⟨l, hl, hlen⟩ : ∃ l, (0 < l ∧ l < 256) ∧ lengthsT (Int.tmod period 2048 / 256 / 8).toNat = l := ⟨_, lengths_pos _ (by omega), rfl⟩
  have ev : bAnd .u8 volume 15 = volume % 16 := and8_15 hv
  have ed : bAnd .u8 duty 3 = duty % 4 := and8_3 hd
  have es8 : bAnd .u8 sweep 8 = sweep / 8 % 2 * 8 := and8_8 hs
  have es7 : bAnd .u8 sweep 7 = sweep % 8 := and8_7 hs
  have hq : bShr .u16 (Int.tmod period 2048) (sweep % 8) = Int.tmod period 2048 / 2 ^ (sweep % 8).toNat := by
    have := shr8 (k := .u16) (a := Int.tmod period 2048) (sweep % 8).toNat (by show _ ≤ 16; omega)
    rwa [Int.toNat_of_nonneg (by omega)] at this
  have hq0 : 0 ≤ Int.tmod period 2048 / 2 ^ (sweep % 8).toNat := Int.ediv_nonneg hP.1 (Int.le_of_lt (Int.pow_pos (by decide)))
  have hq1 : Int.tmod period 2048 / 2 ^ (sweep % 8).toNat ≤ Int.tmod period 2048 := Int.ediv_le_self _ hP.1
  have etg : IntKind.i64.wrap ((IntKind.i64.wrap (Int.tmod period 2048)) + (IntKind.i64.wrap (bShr .u16 (Int.tmod period 2048) (bAnd .u8 sweep 7)))) = Int.tmod period 2048 + Int.tmod period 2048 / 2 ^ (sweep % 8).toNat := by
    rw [es7, hq, hwp, i64_in (Int.tmod period 2048 / 2 ^ (sweep % 8).toNat) (by omega), i64_in _ (by omega)]
  -- both voices
  have main : ∀ k : Int, k = 0 ∨ k = 1 → ∃ T : Tone, T = tPut_3 (tPut_2 (tPut_1 (tPut_0 (tEnable (if k = 0 then tNew_0 else tNew_1) true) (bOr .u8 (bOr .u8 (bShl .u8 duty 6) 48) (bAnd .u8 volume 15))) (bAnd .u8 sweep 127)) (IntKind.u8.wrap (Int.tmod period 2048))) (IntKind.u8.wrap (bShr .u16 (Int.tmod period 2048) 8)) ∧
      T.kind = k ∧ T.timer = 0 ∧ T.step = 0 ∧ Tone.ok T ∧ T.period = Int.tmod period 2048 ∧ ∀ i : Nat, tOut (stepped T i) = if Int.tmod period 2048 < 8 ∨ (sweep / 8 % 2 = 0 ∧ Int.tmod period 2048 + Int.tmod period 2048 / 2 ^ (sweep % 8).toNat > 2047) then 0 else if dbit (duty % 4) (i % 8 : Nat) then volume % 16 else 0 := by
    intro k hk
    refine ⟨_, rfl, ?_⟩
    have hok : Tone.ok (tPut_3 (tPut_2 (tPut_1 (tPut_0 (tEnable (if k = 0 then tNew_0 else tNew_1) true) (bOr .u8 (bOr .u8 (bShl .u8 duty 6) 48) (bAnd .u8 volume 15))) (bAnd .u8 sweep 127)) (IntKind.u8.wrap (Int.tmod period 2048))) (IntKind.u8.wrap (bShr .u16 (Int.tmod period 2048) 8))) :=
      tPut_3_w _ _ (tPut_2_w _ _ (tPut_1_w _ _ (tPut_0_w _ _ (tEnable_w _ _ (by split; exact tNew_0_w; exact tNew_1_w)) (rng_bOr_u8 _ _)) (rng_bAnd_u8 _ _)) (rng_wrap_u8 _)) (rng_wrap_u8 _)
    rw [pulse_of k hk _ rfl _ _ _ hP, hlen] at hok ⊢
    exact ⟨rfl, rfl, rfl, hok, rfl, fun i => pulse_out k duty volume sweep _ l hk hd hv hs hP hl i⟩
  have vv : ∀ T : Tone, (∀ i : Nat, tOut (stepped T i) = if Int.tmod period 2048 < 8 ∨ (sweep / 8 % 2 = 0 ∧ Int.tmod period 2048 + Int.tmod period 2048 / 2 ^ (sweep % 8).toNat > 2047) then 0 else if dbit (duty % 4) (i % 8 : Nat) then volume % 16 else 0) → ∀ i, tOut (stepped T i) = 0 ∨ tOut (stepped T i) = bAnd .u8 volume 15 := by
    intro T ho i
    rw [ho, ev]
    split
    · exact .inl rfl
    · split
      · exact .inr rfl
      · exact .inl rfl
  have d3 : 0 ≤ duty % 4 ∧ duty % 4 < 4 := by omega
  have aw : (!awake) = false := rfl
  cases two
  · obtain ⟨T, eT, hk, ht, h0, hok, hper, ho⟩ := main 0 (by decide)
    rw [if_pos rfl] at eT
    have hc := heard_count _ d3 ho
    have L1 := mutes_nyy false volume duty sweep period hp hok (by rw [hk]; decide) ht h0 hper (vv T ho)
    have L2 := mutes_nyn false volume duty sweep period hp hok (by rw [hk]; decide) ht h0 hper (vv T ho)
    rw [hc] at L1 L2
    rw [eT] at L1 L2
    by_cases s8 : sweep / 8 % 2 = 0
    · have c3 : (((bAnd .u8 sweep 8) : Int) != 0) = false := by rw [es8]; simp; omega
      by_cases v0 : volume % 16 = 0
      · have := lawMutes_p14 false volume duty sweep period aw rfl c3 _ L2 (by rw [ev]; simpa using v0)
        simpa [v0] using this
      · have c5 : (((bAnd .u8 volume 15) : Int) == 0) = false := by rw [ev]; simpa using v0
        by_cases p8 : Int.tmod period 2048 < 8
        · have := lawMutes_p15 false volume duty sweep period aw rfl c3 _ L2 c5 (by simpa using p8)
          simpa [p8] using this
        · by_cases pt : Int.tmod period 2048 + Int.tmod period 2048 / 2 ^ (sweep % 8).toNat > 2047
          · have := lawMutes_p16 false volume duty sweep period aw rfl c3 _ L2 c5 (by simpa using p8) (by rw [etg]; simpa using pt)
            simpa [s8, pt] using this
          · have := lawMutes_p17 false volume duty sweep period aw rfl c3 _ L2 c5 (by simpa using p8) (by rw [etg]; simpa using pt)
            rw [ed] at this
            simpa [v0, p8, pt] using this
    · have c3 : (((bAnd .u8 sweep 8) : Int) != 0) = true := by rw [es8]; simp; omega
      by_cases v0 : volume % 16 = 0
      · have := lawMutes_p10 false volume duty sweep period aw rfl c3 _ L1 (by rw [ev]; simpa using v0)
        simpa [v0] using this
      · have c5 : (((bAnd .u8 volume 15) : Int) == 0) = false := by rw [ev]; simpa using v0
        by_cases p8 : Int.tmod period 2048 < 8
        · have := lawMutes_p11 false volume duty sweep period aw rfl c3 _ L1 c5 (by simpa using p8)
          simpa [p8] using this
        · have := lawMutes_p12 false volume duty sweep period aw rfl c3 _ L1 c5 (by simpa using p8)
          rw [ed] at this
          simpa [v0, p8, s8] using this
  · obtain ⟨T, eT, hk, ht, h0, hok, hper, ho⟩ := main 1 (by decide)
    rw [if_neg (by decide)] at eT
    have hc := heard_count _ d3 ho
    have L1 := mutes_nyy true volume duty sweep period hp hok (by rw [hk]; decide) ht h0 hper (vv T ho)
    have L2 := mutes_nyn true volume duty sweep period hp hok (by rw [hk]; decide) ht h0 hper (vv T ho)
    rw [hc] at L1 L2
    rw [eT] at L1 L2
    by_cases s8 : sweep / 8 % 2 = 0
    · have c3 : (((bAnd .u8 sweep 8) : Int) != 0) = false := by rw [es8]; simp; omega
      by_cases v0 : volume % 16 = 0
      · have := lawMutes_p5 true volume duty sweep period aw rfl c3 _ L2 (by rw [ev]; simpa using v0)
        simpa [v0] using this
      · have c5 : (((bAnd .u8 volume 15) : Int) == 0) = false := by rw [ev]; simpa using v0
        by_cases p8 : Int.tmod period 2048 < 8
        · have := lawMutes_p6 true volume duty sweep period aw rfl c3 _ L2 c5 (by simpa using p8)
          simpa [p8] using this
        · by_cases pt : Int.tmod period 2048 + Int.tmod period 2048 / 2 ^ (sweep % 8).toNat > 2047
          · have := lawMutes_p7 true volume duty sweep period aw rfl c3 _ L2 c5 (by simpa using p8) (by rw [etg]; simpa using pt)
            simpa [s8, pt] using this
          · have := lawMutes_p8 true volume duty sweep period aw rfl c3 _ L2 c5 (by simpa using p8) (by rw [etg]; simpa using pt)
            rw [ed] at this
            simpa [v0, p8, pt] using this
    · have c3 : (((bAnd .u8 sweep 8) : Int) != 0) = true := by rw [es8]; simp; omega
      by_cases v0 : volume % 16 = 0
      · have := lawMutes_p1 true volume duty sweep period aw rfl c3 _ L1 (by rw [ev]; simpa using v0)
        simpa [v0] using this
      · have c5 : (((bAnd .u8 volume 15) : Int) == 0) = false := by rw [ev]; simpa using v0
        by_cases p8 : Int.tmod period 2048 < 8
        · have := lawMutes_p2 true volume duty sweep period aw rfl c3 _ L1 c5 (by simpa using p8)
          simpa [p8] using this
        · have := lawMutes_p3 true volume duty sweep period aw rfl c3 _ L1 c5 (by simpa using p8)
          rw [ed] at this
          simpa [v0, p8, s8] using this

end Go.Proofs.YtngeghiaakkdbaaDoor
