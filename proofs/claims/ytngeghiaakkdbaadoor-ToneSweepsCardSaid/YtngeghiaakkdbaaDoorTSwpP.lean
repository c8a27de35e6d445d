/-
  Layer 11: the plain law of a sweep: how long a swept pulse is heard. No condition.
-/
import Derived.Test.YtngeghiaakkdbaaDoorTG
import Derived.Test.YtngeghiaakkdbaaDoorTH
namespace Go.Proofs.YtngeghiaakkdbaaDoor
open Go VX IntWalk
set_option maxRecDepth 100000
set_option linter.unusedSimpArgs false
set_option linter.unusedVariables false

theorem half_eq (T : Tone) (hk : T.kind = 0 ∨ T.kind = 1) (hl : 0 < T.length) (h5 : ¬ bAnd .u8 (T.reg 0) 32 = 0) (hs : T.sweep = 0) (h7 : ¬ bAnd .u8 (T.reg 1) 128 = 0) (h8 : ¬ bAnd .u8 (T.reg 1) 7 = 0) (hm : tMute T = false) (h9 : bAnd .u8 (bShr .u8 (T.reg 1) 4) 7 = 0) :
    tHalf T = { T with period := tTarget T, sweep := 0, swept := false } := by
  have k2 : ¬ T.kind = 2 := by omega
  have k1 : ¬ 1 < T.kind := by omega
  unfold tHalf
  simp [k2, k1, hl, h5, hs, h7, h8, hm, h9]

/-- A swept pulse. -/
def sw (k : Int) (rg : Nat → Int) (p s tm : Int) : Tone :=
  { kind := k, on := true, reg := rg, length := 10, period := p, timer := tm, step := s, begins := true, level := 0, count := 0, sweep := 0, swept := true, line := 0, row := 1 }

structure Swept (k : Int) (rg : Nat → Int) (p : Int) : Prop where
  k : k = 0 ∨ k = 1
  reg : ∀ r, rng 256 (rg r)
  r0 : rg 0 = 191
  r1 : rg 1 = 8
  p : 8 ≤ p ∧ p < 2048

theorem sw_w {k : Int} {rg : Nat → Int} {p s tm : Int} (h : Swept k rg p) (hs : 0 ≤ s ∧ s < 8) (ht : 0 ≤ tm ∧ tm ≤ p) : Tone.ok (sw k rg p s tm) := by
  have h1 := h.k
  have h2 := h.p
  refine ⟨?_, h.reg, ?_, ?_, ?_, ?_, ?_, ?_, ?_, ?_, ?_⟩ <;> simp only [sw] <;> constructor <;> omega

theorem sw_dec {k : Int} {rg : Nat → Int} {p s tm : Int} (h : Swept k rg p) (hs : 0 ≤ s ∧ s < 8) (ht : 0 ≤ tm ∧ tm ≤ p) (h0 : 0 < tm) : tClock (sw k rg p s tm) = sw k rg p s (tm - 1) := by
  rw [clk_dec _ (sw_w h hs ht) (by simpa [sw] using h0)]; rfl

theorem sw_fire {k : Int} {rg : Nat → Int} {p s : Int} (h : Swept k rg p) (hs : 0 ≤ s ∧ s < 7) : tClock (sw k rg p s 0) = sw k rg p (s + 1) p := by
  have e : Int.tmod (IntKind.u8.wrap (s + 1)) 8 = s + 1 := by rw [u8_in _ (by omega), Int.tmod_eq_emod_of_nonneg (by omega)]; omega
  have hk := h.k
  have ef : tFire (sw k rg p s 0) = sw k rg p (s + 1) 0 := by
    unfold tFire
    rw [if_neg (show ¬ (sw k rg p s 0).kind = 2 by show ¬ k = 2; omega), if_neg (show ¬ (sw k rg p s 0).kind = 3 by show ¬ k = 3; omega)]
    simp only [sw]
    rw [e]
  rw [clk_fire _ rfl, ef]
  rfl

theorem sw_out {k : Int} {rg : Nat → Int} {p s tm : Int} (h : Swept k rg p) (hs : 1 ≤ s ∧ s ≤ 5) (ht : 0 ≤ tm ∧ tm ≤ p) : tOut (sw k rg p s tm) = if s = 5 then 0 else 15 := by
  have hok := sw_w h (show 0 ≤ s ∧ s < 8 by omega) ht
  have hp := h.p
  have hreg0 : (sw k rg p s tm).reg 0 = 191 := h.r0
  have hreg1 : (sw k rg p s tm).reg 1 = 8 := h.r1
  have htg := target_eq _ hok (show (sw k rg p s tm).period < 2048 from hp.2)
  have hper : (sw k rg p s tm).period = p := rfl
  rw [hreg1, hper, if_neg (by decide), show ((8 : Int) % 8).toNat = 0 from rfl, Int.pow_zero, Int.ediv_one] at htg
  have hm : tMute (sw k rg p s tm) = false := by
    unfold tMute
    rw [hper, if_neg (by simp; omega), htg]
    simp only [decide_eq_false_iff_not]
    split <;> omega
  have hv : tVolume (sw k rg p s tm) = 15 := by
    unfold tVolume
    rw [hreg0, if_pos (by decide)]; decide
  rw [out_pulse _ h.k (by show (0 : Int) < 10; decide), hm, hreg0, hv]
  have hst : (sw k rg p s tm).step = s := rfl
  rw [hst]
  obtain rfl | rfl | rfl | rfl | rfl : s = 1 ∨ s = 2 ∨ s = 3 ∨ s = 4 ∨ s = 5 := by omega
  all_goals decide +kernel

theorem sweeps_loop {rel : Int × Tone → (Int × Tone) ⊕ (Int × Tone) → Prop} {k : Int} {rg : Nat → Int} {p : Int} (h : Swept k rg p)
    (h1 : ∀ (i : Int) (t : Tone), Tone.ok t → (((tOut t) : Int) != 0) = true → (decide ((i : Int) < 20000)) = true → rel (i, t) (.inl (IntKind.i64.wrap (i + 1), tClock t)))
    (h3 : ∀ (i : Int) (t : Tone), Tone.ok t → (((tOut t) : Int) != 0) = false → rel (i, t) (.inr (i, t))) :
    ∃ t, LoopR rel (0, sw k rg p 1 p) (4 * (p + 1), t) := by
  have hp := h.p
  have L := loop_for (rel := rel) tClock (4 * (p + 1)) (fun i t => ∃ F tm : Int, t = sw k rg p (1 + F) tm ∧ 0 ≤ F ∧ F ≤ 4 ∧ 0 ≤ tm ∧ tm ≤ p ∧ F * (p + 1) + p - tm = i)
    (fun i t i0 i1 ht => by
      obtain ⟨F, tm, rfl, f0, f1, t0, t1, e⟩ := ht
      have hF : F ≤ 3 := by
        obtain rfl | hF : F = 4 ∨ F ≤ 3 := by omega
        · omega
        · exact hF
      by_cases hz : 0 < tm
      · exact ⟨F, tm - 1, by rw [sw_dec h (by omega) (by omega) hz], f0, f1, by omega, by omega, by omega⟩
      · have e0 : tm = 0 := by omega
        subst e0
        refine ⟨F + 1, p, by rw [sw_fire h (by omega), Int.add_assoc], by omega, by omega, by omega, by omega, ?_⟩
        rw [Int.add_mul]; omega)
    (fun t => (4 * (p + 1), t))
    (fun i t i0 i1 ht => by
      obtain ⟨F, tm, rfl, f0, f1, t0, t1, e⟩ := ht
      have hF : F ≤ 3 := by
        obtain rfl | hF : F = 4 ∨ F ≤ 3 := by omega
        · omega
        · exact hF
      have := h1 i _ (sw_w h (s := 1 + F) (tm := tm) (by omega) (by omega)) (by rw [sw_out h (by omega) (by omega), if_neg (by omega)]; decide) (by simp; omega)
      rw [i64_in (i + 1) (by omega)] at this
      exact this)
    (fun t ht => by
      obtain ⟨F, tm, rfl, f0, f1, t0, t1, e⟩ := ht
      have hF : F = 4 := by
        obtain rfl | rfl | rfl | rfl | rfl : F = 0 ∨ F = 1 ∨ F = 2 ∨ F = 3 ∨ F = 4 := by omega
        all_goals omega
      subst hF
      exact h3 _ _ (sw_w h (by omega) (by omega)) (by rw [sw_out h (by omega) (by omega), if_pos (by omega)]; decide))
    (4 * (p + 1)).toNat 0 (sw k rg p 1 p) (by decide) (by omega) ⟨0, p, rfl, by decide, by decide, by omega, by omega, by omega⟩
  exact ⟨_, L⟩

/-- A pulse that was swept once. -/
theorem swept_of (k r P q : Int) (hk : k = 0 ∨ k = 1) (hP : 64 ≤ P ∧ P < 964) (hr : 128 < r ∧ r < 144 ∧ r % 8 ≠ 0) (hq : q = (if r / 8 % 2 = 0 then P + P / 2 ^ (r % 8).toNat else if k = 0 then P - P / 2 ^ (r % 8).toNat - 1 else P - P / 2 ^ (r % 8).toNat)) :
    ∃ rg, tClock (tPut_1 (tHalf (tPut_3 (tPut_2 (tPut_1 (tPut_0 (tEnable (if k = 0 then tNew_0 else tNew_1) true) 191) r) (IntKind.u8.wrap P)) (IntKind.u8.wrap (bShr .u16 P 8)))) 8) = sw k rg q 1 q ∧ Swept k rg q := by
  have hok : Tone.ok (tPut_3 (tPut_2 (tPut_1 (tPut_0 (tEnable (if k = 0 then tNew_0 else tNew_1) true) 191) r) (IntKind.u8.wrap P)) (IntKind.u8.wrap (bShr .u16 P 8))) :=
    tPut_3_w _ _ (tPut_2_w _ _ (tPut_1_w _ _ (tPut_0_w _ _ (tEnable_w _ _ (by split; exact tNew_0_w; exact tNew_1_w)) (by decide)) ⟨by omega, by omega⟩) (rng_wrap_u8 _)) (rng_wrap_u8 _)
  have hlen : lengthsT (P / 256 / 8).toNat = 10 := by
    have : (P / 256 / 8).toNat = 0 := by omega
    rw [this]; rfl
  rw [pulse_of k hk _ rfl _ _ _ ⟨by omega, by omega⟩, hlen] at hok ⊢
  have hR0 : (pulse k 191 r P 10).reg 0 = 191 := rfl
  have hR1 : (pulse k 191 r P 10).reg 1 = r := rfl
  have hper : (pulse k 191 r P 10).period = P := rfl
  have hkd : (pulse k 191 r P 10).kind = k := rfl
  have htg := target_eq _ hok (show (pulse k 191 r P 10).period < 2048 by rw [hper]; omega)
  rw [hR1, hper, hkd] at htg
  have hb : P / 2 ^ (r % 8).toNat ≤ P / 2 := by
    have e : ∃ n : Nat, (r % 8).toNat = n + 1 := ⟨(r % 8).toNat - 1, by omega⟩
    obtain ⟨n, e⟩ := e
    rw [e, Int.pow_succ, Int.mul_comm, ← Int.ediv_ediv_of_nonneg (by decide)]
    exact Int.ediv_le_self _ (by omega)
  have hb0 : 0 ≤ P / 2 ^ (r % 8).toNat := Int.ediv_nonneg (by omega) (Int.le_of_lt (Int.pow_pos (by decide)))
  generalize P / 2 ^ (r % 8).toNat = Q at *
  have htq : tTarget (pulse k 191 r P 10) = q := by
    rw [htg, hq]
    split
    · rfl
    · split <;> omega
  have hq1 : 31 ≤ q ∧ q < 1500 := by
    rw [hq]; split
    · omega
    · split <;> omega
  have hm : tMute (pulse k 191 r P 10) = false := by
    unfold tMute
    rw [hper, if_neg (by simp; omega), htq]
    simp; omega
  have hh := half_eq (pulse k 191 r P 10) hk (by show (0 : Int) < 10; decide) (by rw [hR0]; decide) rfl (by rw [hR1, and8_128 (by omega)]; omega) (by rw [hR1, and8_7 (by omega)]; omega) hm (by rw [hR1, shr8_4, and8_7 (by omega)]; omega)
  have hokT := hok.reg
  refine ⟨upd (pulse k 191 r P 10).reg 1 8, ?_, ⟨hk, rng_upd hokT 1 (by decide), rfl, rfl, by omega, by omega⟩⟩
  have hS : Swept k (upd (pulse k 191 r P 10).reg 1 8) q := ⟨hk, rng_upd hokT 1 (by decide), rfl, rfl, by omega, by omega⟩
  rw [hh, htq]
  have e : tPut_1 ({ pulse k 191 r P 10 with period := q, sweep := 0, swept := false } : Tone) 8 = sw k (upd (pulse k 191 r P 10).reg 1 8) q 0 0 := rfl
  rw [e, sw_fire hS (by decide)]
  rfl

theorem sweeps_true (period by_ : Int) (down : Bool) (hp : rng 65536 period) (hb : rng 256 by_) :
    FnSpec Tryd.prog 5 1000 [.int .u16 period, .int .u8 by_, .bool down] [(0, ⟨[.ints .u16 16 noisesT], 60, true⟩), (1, ⟨[.ints .u8 4 dutiesT], 39, true⟩), (2, ⟨[.ints .u8 32 lengthsT], 64, true⟩)] (.bool true) [] := by
  obtain ⟨p0, p1⟩ := hp
  obtain ⟨b0, b1⟩ := hb
  have aw := awake_t
  have ep : IntKind.u16.wrap (64 + (Int.tmod period 900)) = 64 + period % 900 := by rw [Int.tmod_eq_emod_of_nonneg p0, u16_in _ (by omega)]
  have eb : IntKind.u8.wrap (1 + (Int.tmod by_ 6)) = 1 + by_ % 6 := by rw [Int.tmod_eq_emod_of_nonneg b0, u8_in _ (by omega)]
  obtain ⟨P, hP, hPr⟩ : ∃ P, P = 64 + period % 900 ∧ 64 ≤ P ∧ P < 964 := ⟨_, rfl, by omega, by omega⟩
  obtain ⟨B, hB, hBr⟩ : ∃ B, B = 1 + by_ % 6 ∧ 1 ≤ B ∧ B ≤ 6 := ⟨_, rfl, by omega, by omega⟩
  have e1 : bOr .u8 128 B = 128 + B := by
    have : ∀ m : Fin 7, bOr .u8 128 (m.val : Int) = 128 + (m.val : Int) := by decide +kernel
    have := this ⟨B.toNat, by omega⟩
    simp only at this
    rwa [Int.toNat_of_nonneg (by omega)] at this
  have e2 : bOr .u8 (128 + B) 8 = 136 + B := by
    have : ∀ m : Fin 7, bOr .u8 (128 + (m.val : Int)) 8 = 136 + (m.val : Int) := by decide +kernel
    have := this ⟨B.toNat, by omega⟩
    simp only at this
    rwa [Int.toNat_of_nonneg (by omega)] at this
  have hsh : bShr .u16 P B = P / 2 ^ B.toNat := by
    have := shr8 (k := .u16) (a := P) B.toNat (by show _ ≤ 16; omega)
    rwa [Int.toNat_of_nonneg (by omega)] at this
  have hb : P / 2 ^ B.toNat ≤ P / 2 := by
    have e : ∃ n : Nat, B.toNat = n + 1 := ⟨B.toNat - 1, by omega⟩
    obtain ⟨n, e⟩ := e
    rw [e, Int.pow_succ, Int.mul_comm, ← Int.ediv_ediv_of_nonneg (by decide)]
    exact Int.ediv_le_self _ (by omega)
  have hb0 : 0 ≤ P / 2 ^ B.toNat := Int.ediv_nonneg (by omega) (Int.le_of_lt (Int.pow_pos (by decide)))
  have m1 : (128 + B) % 8 = B := by omega
  have m2 : (136 + B) % 8 = B := by omega
  have wP : IntKind.i64.wrap P = P := i64_in _ (by omega)
  have wQ : IntKind.i64.wrap (P / 2 ^ B.toNat) = P / 2 ^ B.toNat := i64_in _ (by omega)
  cases down
  · have hA := fun k hk => swept_of k (128 + B) P (P + P / 2 ^ B.toNat) hk hPr (by omega) (by rw [if_pos (by omega), m1])
    obtain ⟨rg0, s0, S0⟩ := hA 0 (.inl rfl)
    obtain ⟨rg1, s1, S1⟩ := hA 1 (.inr rfl)
    rw [if_pos rfl] at s0
    rw [if_neg (by decide)] at s1
    obtain ⟨t0, L0⟩ := sweeps_loop (rel := lawSweeps_L1nn period by_ false) S0 (fun i t a b c => .p1 a b c) (fun i t a b => .p3 a b)
    obtain ⟨t1, L1⟩ := sweeps_loop (rel := lawSweeps_L2nnn period by_ false (4 * (P + P / 2 ^ B.toNat + 1), t0)) S1 (fun i t a b c => .p1 a b c) (fun i t a b => .p3 a b)
    have wS : IntKind.i64.wrap (P + P / 2 ^ B.toNat) = P + P / 2 ^ B.toNat := i64_in _ (by omega)
    have wS1 : IntKind.i64.wrap (P + P / 2 ^ B.toNat + 1) = P + P / 2 ^ B.toNat + 1 := i64_in _ (by omega)
    have wS4 : IntKind.i64.wrap (4 * (P + P / 2 ^ B.toNat + 1)) = 4 * (P + P / 2 ^ B.toNat + 1) := i64_in _ (by omega)
    refine lawSweeps_p2 period by_ false aw rfl (4 * (P + P / 2 ^ B.toNat + 1), t0) ?_ ?_ (4 * (P + P / 2 ^ B.toNat + 1), t1) ?_ ?_
    · rw [ep, eb, ← hP, ← hB, e1, s0]; exact L0
    · rw [ep, eb, ← hP, ← hB, hsh, wP, wQ, wS, wS1, wS4]; simp
    · rw [ep, eb, ← hP, ← hB, e1, s1]; exact L1
    · rw [ep, eb, ← hP, ← hB, hsh, wP, wQ, wS, wS1, wS4]; simp
  · obtain ⟨rg0, s0, S0⟩ := swept_of 0 (136 + B) P (P - P / 2 ^ B.toNat - 1) (.inl rfl) hPr (by omega) (by rw [if_neg (by omega), if_pos rfl, m2])
    obtain ⟨rg1, s1, S1⟩ := swept_of 1 (136 + B) P (P - P / 2 ^ B.toNat) (.inr rfl) hPr (by omega) (by rw [if_neg (by omega), if_neg (by decide), m2])
    rw [if_pos rfl] at s0
    rw [if_neg (by decide)] at s1
    obtain ⟨t0, L0⟩ := sweeps_loop (rel := lawSweeps_L1ny period by_ true) S0 (fun i t a b c => .p1 a b c) (fun i t a b => .p3 a b)
    obtain ⟨t1, L1⟩ := sweeps_loop (rel := lawSweeps_L2nyn period by_ true (4 * (P - P / 2 ^ B.toNat - 1 + 1), t0)) S1 (fun i t a b c => .p1 a b c) (fun i t a b => .p3 a b)
    have wS : IntKind.i64.wrap (P - P / 2 ^ B.toNat) = P - P / 2 ^ B.toNat := i64_in _ (by omega)
    have wS0 : IntKind.i64.wrap (P - P / 2 ^ B.toNat - 1) = P - P / 2 ^ B.toNat - 1 := i64_in _ (by omega)
    have wS1 : IntKind.i64.wrap (P - P / 2 ^ B.toNat + 1) = P - P / 2 ^ B.toNat + 1 := i64_in _ (by omega)
    have wS2 : IntKind.i64.wrap (P - P / 2 ^ B.toNat - 1 + 1) = P - P / 2 ^ B.toNat - 1 + 1 := i64_in _ (by omega)
    have wS4 : IntKind.i64.wrap (4 * (P - P / 2 ^ B.toNat + 1)) = 4 * (P - P / 2 ^ B.toNat + 1) := i64_in _ (by omega)
    have wS5 : IntKind.i64.wrap (4 * (P - P / 2 ^ B.toNat - 1 + 1)) = 4 * (P - P / 2 ^ B.toNat - 1 + 1) := i64_in _ (by omega)
    refine lawSweeps_p1 period by_ true aw rfl (4 * (P - P / 2 ^ B.toNat - 1 + 1), t0) ?_ ?_ (4 * (P - P / 2 ^ B.toNat + 1), t1) ?_ ?_
    · rw [ep, eb, ← hP, ← hB, e1, e2, s0]; exact L0
    · rw [ep, eb, ← hP, ← hB, hsh, wP, wQ, wS, wS0, wS2, wS5]; simp
    · rw [ep, eb, ← hP, ← hB, e1, e2, s1]; exact L1
    · rw [ep, eb, ← hP, ← hB, hsh, wP, wQ, wS, wS1, wS4]; simp

end Go.Proofs.YtngeghiaakkdbaaDoor
