/-
  Layer 11: the plain law of the noise: how long its row is. No condition.
-/
import Derived.Test.YtngeghiaakkdbaaDoorTF
namespace Go.Proofs.YtngeghiaakkdbaaDoor
open Go VX IntWalk
set_option maxRecDepth 100000
set_option linter.unusedSimpArgs false
set_option linter.unusedVariables false

/-- A noise's row, one on: the tap is the bit that is added to the lowest one. -/
def stp (tap r : Nat) : Nat := r / 2 + (r % 2 + r / 2 ^ tap % 2) % 2 * 16384

theorem stp_lt {tap r : Nat} (h : r < 32768) : stp tap r < 32768 := by
  unfold stp
  have : (r % 2 + r / 2 ^ tap % 2) % 2 < 2 := Nat.mod_lt _ (by decide)
  omega

theorem xor_mod2 (a b : Nat) : (a ^^^ b) % 2 = (a + b) % 2 := by
  have h := @Nat.xor_mod_two_eq_one a b
  have ha := Nat.mod_two_eq_zero_or_one a
  have hb := Nat.mod_two_eq_zero_or_one b
  have hx := Nat.mod_two_eq_zero_or_one (a ^^^ b)
  rcases ha with ha | ha <;> rcases hb with hb | hb <;> rcases hx with hx | hx <;> simp [ha, hb, hx] at h <;> omega

theorem row_eq (tap : Nat) (ht : tap = 1 ∨ tap = 6) (r : Nat) (hr : r < 32768) :
    bOr .u16 (bShr .u16 (r : Int) 1) (bShl .u16 (bAnd .u16 (bXor .u16 (r : Int) (bShr .u16 (r : Int) (tap : Int))) 1) 14) = (stp tap r : Nat) := by
  have hs : bShr .u16 (r : Int) (tap : Int) = ((r / 2 ^ tap : Nat) : Int) := by
    rw [shr8 (k := .u16) tap (by rcases ht with rfl | rfl <;> decide)]; norm_cast
  have hd : r / 2 ^ tap < 32768 := Nat.lt_of_le_of_lt (Nat.div_le_self _ _) hr
  have hx : r ^^^ (r / 2 ^ tap) < 2 ^ 15 := Nat.xor_lt_two_pow hr hd
  have hx' : r ^^^ (r / 2 ^ tap) < 32768 := hx
  have h1 : bShr .u16 (r : Int) 1 = ((r / 2 : Nat) : Int) := by rw [shr16_1]; norm_cast
  rw [h1, hs, xor_nat (k := .u16) rfl (show r < 65536 by omega) (show r / 2 ^ tap < 65536 by omega), and16_1 (by omega)]
  have e2 : (((r ^^^ (r / 2 ^ tap) : Nat) : Int) % 2) = (((r + r / 2 ^ tap) % 2 : Nat) : Int) := by
    rw [← xor_mod2]; norm_cast
  rw [e2]
  have e3 : (r % 2 + r / 2 ^ tap % 2) % 2 = (r + r / 2 ^ tap) % 2 := by omega
  unfold stp
  rw [e3]
  have hc : (r + r / 2 ^ tap) % 2 < 2 := Nat.mod_lt _ (by decide)
  generalize (r + r / 2 ^ tap) % 2 = c at hc ⊢
  have e4 : bShl .u16 (c : Int) 14 = ((c * 16384 : Nat) : Int) := by
    unfold bShl
    have : (2 : Int) ^ (min (14 : Int).toNat IntKind.u16.bits) = 16384 := by decide
    rw [this, u16_in _ (by omega)]; omega
  have hcm : bOr .u16 ((r / 2 : Nat) : Int) ((c * 16384 : Nat) : Int) = bOr .u16 ((c * 16384 : Nat) : Int) ((r / 2 : Nat) : Int) := by unfold bOr; rw [BitVec.or_comm]
  rw [e4, hcm, bOr_low (k := .u16) rfl 14 (by omega) (by show _ < ((65536 : Nat) : Int); omega) (by omega) (by show _ < ((16384 : Nat) : Int); omega) (by show _ % ((16384 : Nat) : Int) = 0; omega) (by decide)]
  omega

/-- A loud noise of four clocks. -/
def noise (rg : Nat → Int) (l : Int) (r : Nat) : Tone :=
  { kind := 3, on := true, reg := rg, length := l, period := 3, timer := 0, step := 0, begins := true, level := 0, count := 0, sweep := 0, swept := false, line := 0, row := (r : Int) }

structure Loud (tap : Nat) (rg : Nat → Int) (l : Int) : Prop where
  tap1 : tap = 1 ∨ tap = 6
  reg : ∀ r, rng 256 (rg r)
  r0 : rg 0 = 31
  r2 : rg 2 = if tap = 6 then 128 else 0
  len : 0 < l ∧ l < 256

theorem noise_w {tap : Nat} {rg : Nat → Int} {l : Int} (h : Loud tap rg l) {r : Nat} (hr : r < 32768) : Tone.ok (noise rg l r) :=
  ⟨⟨by simp [noise], by simp [noise]⟩, h.reg, ⟨Int.le_of_lt h.len.1, h.len.2⟩, ⟨by simp [noise], by simp [noise]⟩, ⟨by simp [noise], by simp [noise]⟩, ⟨by simp [noise], by simp [noise]⟩, ⟨by simp [noise], by simp [noise]⟩, ⟨by simp [noise], by simp [noise]⟩, ⟨by simp [noise], by simp [noise]⟩, ⟨by simp [noise], by simp [noise]⟩, ⟨by simp [noise], by simp [noise]; omega⟩⟩

theorem noise_walk {tap : Nat} {rg : Nat → Int} {l : Int} (h : Loud tap rg l) {r : Nat} (hr : r < 32768) : clocks 4 (noise rg l r) = noise rg l (stp tap r) := by
  have := clocks_round (noise rg l r) (noise_w h hr) rfl
  have e : (noise rg l r).period.toNat + 1 = 4 := rfl
  rw [e] at this
  rw [this]
  have k2 : ¬ (noise rg l r).kind = 2 := by show ¬ (3 : Int) = 2; decide
  have k3 : (noise rg l r).kind = 3 := rfl
  unfold tFire
  rw [if_neg k2, if_pos k3]
  have hreg : (noise rg l r).reg 2 = rg 2 := rfl
  have hrow : (noise rg l r).row = (r : Int) := rfl
  rw [hreg, h.r2, hrow]
  rcases h.tap1 with rfl | rfl
  · rw [if_neg (by decide : ¬ bAnd .u8 (if 1 = 6 then 128 else 0) 128 ≠ 0)]
    have := row_eq 1 (by decide) r hr
    rw [show ((1 : Nat) : Int) = 1 from rfl] at this
    rw [this]; rfl
  · rw [if_pos (by decide : bAnd .u8 (if 6 = 6 then 128 else 0) 128 ≠ 0)]
    have := row_eq 6 (by decide) r hr
    rw [show ((6 : Nat) : Int) = 6 from rfl] at this
    rw [this]; rfl

theorem rows_lt (tap k : Nat) {r : Nat} (hr : r < 32768) : iterS (stp tap) k r < 32768 := iterS_inv (p := (· < 32768)) (fun s hs => stp_lt hs) k r hr

theorem walk_row {tap : Nat} {rg : Nat → Int} {l : Int} (h : Loud tap rg l) : ∀ (n r : Nat), r < 32768 → clocks (4 * n) (noise rg l r) = noise rg l (iterS (stp tap) n r)
  | 0, r, _ => rfl
  | n + 1, r, hr => by
    have e : 4 * (n + 1) = 4 + 4 * n := by omega
    rw [e, clocks, iterS_add]
    have h1 := noise_walk h hr
    rw [clocks] at h1
    rw [h1]
    exact walk_row h n (stp tap r) (stp_lt hr)

theorem walkF_row {tap : Nat} {rg : Nat → Int} {l : Int} (h : Loud tap rg l) {r : Nat} (hr : r < 32768) (n : Nat) (m : Int) (hm : m = n) : walkF (noise rg l r) m = noise rg l (iterS (stp tap) n r) := by
  subst hm
  have e : (4 * (n : Int)).toNat = 4 * n := by omega
  unfold walkF
  rw [e, walk_row h n r hr]

theorem noise_out {tap : Nat} {rg : Nat → Int} {l : Int} (h : Loud tap rg l) {r : Nat} (hr : r < 32768) : bAnd .u8 (tOut (noise rg l r)) 1 = ((1 - r % 2 : Nat) : Int) := by
  have hv : tVolume (noise rg l r) = 15 := by
    unfold tVolume
    have e : (noise rg l r).reg 0 = 31 := h.r0
    rw [e, if_pos (by decide)]; decide
  have hl : ¬ (((noise rg l r).length : Int) == 0) = true := by have := h.len; simp [noise]; omega
  unfold tOut
  rw [if_neg (show ¬ (((noise rg l r).kind : Int) == 2) = true by show ¬ ((3 : Int) == 2) = true; decide), if_neg hl, if_pos (show (((noise rg l r).kind : Int) == 3) = true from rfl), hv]
  have hb : bAnd .u16 (noise rg l r).row 1 = ((r % 2 : Nat) : Int) := by
    show bAnd .u16 (r : Int) 1 = _
    rw [and16_1 (by omega)]; norm_cast
  rw [hb]
  rcases Nat.mod_two_eq_zero_or_one r with e | e
  · rw [e, if_neg (by decide), if_neg (show ¬ (((noise rg l r).kind : Int) != 3) = true by show ¬ ((3 : Int) != 3) = true; decide)]; decide
  · rw [e, if_pos (by decide)]; decide

/-- What a window shows. -/
def shown (tap : Nat) (r : Nat) : Nat → Nat
  | 0 => 0
  | k + 1 => shown tap r k * 2 + (1 - iterS (stp tap) k r % 2)

theorem shown_lt (tap r : Nat) : ∀ k, shown tap r k < 2 ^ k
  | 0 => by simp [shown]
  | k + 1 => by have := shown_lt tap r k; simp only [shown, Nat.pow_succ]; omega

theorem or64 (a c : Nat) (ha : a < 2 ^ 40) (hc : c < 2) : bOr .u64 ((a * 2 : Nat) : Int) (c : Int) = ((a * 2 + c : Nat) : Int) := by
  have h1 : a * 2 < 2 ^ IntKind.u64.bits := by show _ < 2 ^ 64; omega
  have h2 : c < 2 ^ IntKind.u64.bits := by show _ < 2 ^ 64; omega
  unfold bOr
  rw [BitVec.toNat_or, ofInt_nat h1, ofInt_nat h2]
  have e : a * 2 ||| c = a * 2 + c := by
    have := Nat.shiftLeft_add_eq_or_of_lt (i := 1) (b := c) (by omega) a
    rw [Nat.shiftLeft_eq] at this
    simpa using this.symm
  rw [e]
  exact u64_in _ (by omega)

theorem win_row {tap : Nat} {rg : Nat → Int} {l : Int} (h : Loud tap rg l) {r : Nat} (hr : r < 32768) : ∀ k, k ≤ 30 → iterS winStep k (0, noise rg l r) = ((shown tap r k : Int), noise rg l (iterS (stp tap) k r))
  | 0, _ => rfl
  | k + 1, hk => by
    have hr2 := rows_lt tap k hr
    have hs := shown_lt tap r k
    have hs2 : shown tap r k < 2 ^ 30 := Nat.lt_of_lt_of_le hs (Nat.pow_le_pow_right (by decide) (by omega))
    rw [iterS_succ, win_row h hr k (by omega), iterS_succ]
    unfold winStep
    simp only
    rw [walkF_row h hr2 1 1 rfl, noise_out h hr2]
    have e1 : bShl .u64 ((shown tap r k : Nat) : Int) 1 = ((shown tap r k * 2 : Nat) : Int) := by
      unfold bShl
      have : (2 : Int) ^ (min (1 : Int).toNat IntKind.u64.bits) = 2 := by decide
      rw [this, u64_in _ (by omega)]; omega
    have hc : 1 - iterS (stp tap) k r % 2 < 2 := by omega
    rw [e1, u64_in _ (by omega), or64 _ _ (by omega) hc]
    rfl

theorem windowF_row {tap : Nat} {rg : Nat → Int} {l : Int} (h : Loud tap rg l) {r : Nat} (hr : r < 32768) : windowF (noise rg l r) = (noise rg l (iterS (stp tap) 30 r), (shown tap r 30 : Int)) := by
  unfold windowF
  rw [win_row h hr 30 (by decide)]

-- ---------------------------------------------------------------- a window tells its row

theorem shown_bits {tap r s : Nat} : ∀ k, shown tap r k = shown tap s k → ∀ j, j < k → iterS (stp tap) j r % 2 = iterS (stp tap) j s % 2
  | 0, _, j, hj => by omega
  | k + 1, h, j, hj => by
    simp only [shown] at h
    have hx := Nat.mod_two_eq_zero_or_one (iterS (stp tap) k r)
    have hy := Nat.mod_two_eq_zero_or_one (iterS (stp tap) k s)
    by_cases e : j = k
    · subst e; omega
    · exact shown_bits k (by omega) j (by omega)

theorem stp_mod (tap x : Nat) (n : Nat) (hn : n ≤ 14) : stp tap x % 2 ^ n = x / 2 % 2 ^ n := by
  unfold stp
  have e : 16384 = 2 ^ n * 2 ^ (14 - n) := by
    have e1 : n + (14 - n) = 14 := by omega
    rw [← Nat.pow_add, e1]
  rw [e, ← Nat.mul_assoc, Nat.mul_comm _ (2 ^ n), Nat.mul_assoc, Nat.add_mul_mod_self_left]

theorem rows_same {tap r s : Nat} (h : ∀ j, j < 30 → iterS (stp tap) j r % 2 = iterS (stp tap) j s % 2) : ∀ n j, n + j = 15 → iterS (stp tap) j r % 2 ^ n = iterS (stp tap) j s % 2 ^ n
  | 0, j, _ => by simp [Nat.mod_one]
  | n + 1, j, e => by
    have ih := rows_same h n (j + 1) (by omega)
    rw [iterS_succ, iterS_succ, stp_mod _ _ _ (by omega), stp_mod _ _ _ (by omega)] at ih
    rw [Nat.pow_succ, Nat.mul_comm, Nat.mod_mul, Nat.mod_mul, ih, h j (by omega)]

theorem shown_inj {tap r s : Nat} (hr : r < 32768) (hs : s < 32768) (h : shown tap r 30 = shown tap s 30) : r = s := by
  have := rows_same (fun j hj => shown_bits 30 h j hj) 15 0 rfl
  simp only [iterS] at this
  rw [Nat.mod_eq_of_lt hr, Nat.mod_eq_of_lt hs] at this
  exact this

-- ---------------------------------------------------------------- how long the row is

/-- 2^k steps, each evaluated at once. -/
def fast (f : Nat → Nat) : Nat → Nat → Nat
  | 0, r => f r
  | k + 1, r => Nat.rec (fast f k 0) (fun m _ => fast f k (m + 1)) (fast f k r)

theorem fast_eq (f : Nat → Nat) : ∀ k r, fast f k r = iterS f (2 ^ k) r
  | 0, r => rfl
  | k + 1, r => by
    have e : ∀ x : Nat, (Nat.rec (fast f k 0) (fun m _ => fast f k (m + 1)) x : Nat) = fast f k x := by intro x; cases x <;> rfl
    rw [fast, e, fast_eq f k, fast_eq f k, ← iterS_add]
    congr 1
    rw [Nat.pow_succ]; omega

def runs (f : Nat → Nat) : List Nat → Nat → Nat
  | [], r => r
  | k :: ks, r => runs f ks (fast f k r)

theorem runs_eq (f : Nat → Nat) : ∀ ks r, runs f ks r = iterS f ((ks.map (2 ^ ·)).sum) r
  | [], r => rfl
  | k :: ks, r => by rw [runs, runs_eq f ks, fast_eq, ← iterS_add]; rfl

def Back (k : Nat) : Prop := iterS (stp 1) k 1 = 1

theorem back_mul {k : Nat} (h : Back k) : ∀ q, Back (k * q)
  | 0 => rfl
  | q + 1 => by
    unfold Back at *
    rw [Nat.mul_succ, iterS_add]
    have := back_mul h q
    unfold Back at this
    rw [this, h]

theorem back_mod {a b : Nat} (ha : Back a) (hb : Back b) : Back (b % a) := by
  have e : b = a * (b / a) + b % a := (Nat.div_add_mod b a).symm
  have h := hb
  unfold Back at h ⊢
  rw [e, iterS_add] at h
  have h2 := back_mul ha (b / a)
  unfold Back at h2
  rw [h2] at h
  exact h

theorem back_gcd {a b : Nat} (ha : Back a) (hb : Back b) : Back (Nat.gcd a b) := by
  induction a, b using Nat.gcd.induction with
  | H0 b => rw [Nat.gcd_zero_left]; exact hb
  | H1 a b h ih => rw [Nat.gcd_rec]; exact ih (back_mod ha hb) ha

theorem back_all : Back 32767 := by
  have h := runs_eq (stp 1) [0, 1, 2, 3, 4, 5, 6, 7, 8, 9, 10, 11, 12, 13, 14] 1
  have e : runs (stp 1) [0, 1, 2, 3, 4, 5, 6, 7, 8, 9, 10, 11, 12, 13, 14] 1 = 1 := by decide +kernel
  rw [e] at h
  exact h.symm
theorem back_7 : ¬ Back 4681 := by
  have h := runs_eq (stp 1) [0, 3, 6, 9, 12] 1
  have e : runs (stp 1) [0, 3, 6, 9, 12] 1 ≠ 1 := by decide +kernel
  rw [h] at e
  exact e
theorem back_31 : ¬ Back 1057 := by
  have h := runs_eq (stp 1) [0, 5, 10] 1
  have e : runs (stp 1) [0, 5, 10] 1 ≠ 1 := by decide +kernel
  rw [h] at e
  exact e
theorem back_151 : ¬ Back 217 := by
  have h := runs_eq (stp 1) [0, 3, 4, 6, 7] 1
  have e : runs (stp 1) [0, 3, 4, 6, 7] 1 ≠ 1 := by decide +kernel
  rw [h] at e
  exact e

theorem divs : ∀ g : Fin 182, (32767 % g.val = 0 → (4681 % g.val = 0 ∨ 1057 % g.val = 0 ∨ 217 % g.val = 0)) ∧ (32767 % g.val = 0 → g.val ≠ 1 → (g.val % 7 = 0 ∨ g.val % 31 = 0 ∨ g.val % 151 = 0)) := by decide +kernel

theorem back_never {s : Nat} (h0 : 0 < s) (h1 : s < 32767) : ¬ Back s := by
  intro hs
  have hg := back_gcd hs back_all
  obtain ⟨q, hq⟩ := Nat.gcd_dvd_right s 32767
  have hl : Nat.gcd s 32767 ≤ s := Nat.le_of_dvd h0 (Nat.gcd_dvd_left s 32767)
  generalize Nat.gcd s 32767 = g at *
  have hm : ∀ m, m % g = 0 → Back m := fun m hm => by
    have e : m = g * (m / g) := by have := Nat.div_add_mod m g; omega
    rw [e]; exact back_mul hg _
  have hno : ¬ (4681 % g = 0 ∨ 1057 % g = 0 ∨ 217 % g = 0) := by
    rintro (h | h | h)
    · exact back_7 (hm _ h)
    · exact back_31 (hm _ h)
    · exact back_151 (hm _ h)
  have hq0 : 32767 % q = 0 := by rw [hq]; exact Nat.mul_mod_left g q
  have hg0 : 32767 % g = 0 := by rw [hq]; exact Nat.mul_mod_right g q
  by_cases hg2 : g < 182
  · exact hno ((divs ⟨g, hg2⟩).1 hg0)
  · have hq2 : q < 182 := by
      apply Classical.byContradiction
      intro hc
      have : 182 * 182 ≤ g * q := Nat.mul_le_mul (by omega) (by omega)
      omega
    have hq1 : q ≠ 1 := by rintro rfl; omega
    rcases (divs ⟨q, hq2⟩).2 hq0 hq1 with h | h | h
    · apply hno
      left
      obtain ⟨c, hc⟩ : ∃ c, q = 7 * c := ⟨q / 7, by simp at h; omega⟩
      have : 4681 = g * c := by have e : g * (7 * c) = 7 * (g * c) := by rw [Nat.mul_left_comm]
                                rw [hc, e] at hq; omega
      rw [this]; exact Nat.mul_mod_right g c
    · apply hno
      right; left
      obtain ⟨c, hc⟩ : ∃ c, q = 31 * c := ⟨q / 31, by simp at h; omega⟩
      have : 1057 = g * c := by have e : g * (31 * c) = 31 * (g * c) := by rw [Nat.mul_left_comm]
                                rw [hc, e] at hq; omega
      rw [this]; exact Nat.mul_mod_right g c
    · apply hno
      right; right
      obtain ⟨c, hc⟩ : ∃ c, q = 151 * c := ⟨q / 151, by simp at h; omega⟩
      have : 217 = g * c := by have e : g * (151 * c) = 151 * (g * c) := by rw [Nat.mul_left_comm]
                               rw [hc, e] at hq; omega
      rw [this]; exact Nat.mul_mod_right g c

-- ---------------------------------------------------------------- the law

theorem noises_true (b : Int) (short : Bool) (fewer : Int) (hb : rng 256 b) (hf : rng 65536 fewer) :
    FnSpec Tryd.prog 3 1000 [.int .u8 b, .bool short, .int .u16 fewer] [(0, ⟨[.ints .u16 16 noisesT], 60, true⟩), (1, ⟨[.ints .u8 4 dutiesT], 39, true⟩), (2, ⟨[.ints .u8 32 lengthsT], 64, true⟩)] (.bool true) [] := by
  obtain ⟨b0, b1⟩ := hb
  have hb : rng 256 b := ⟨b0, b1⟩
  have aw : (!awake) = false := awake_t
  have hn3 : IntKind.u16.wrap (noisesT 0 - 1) = 3 := by decide
  have hlen : 0 < lengthsT (bShr .u8 b 3).toNat ∧ lengthsT (bShr .u8 b 3).toNat < 256 := by
    rw [shr8_3]
    have : ∀ m : Fin 32, 0 < lengthsT m.val ∧ lengthsT m.val < 256 := by decide +kernel
    exact this ⟨(b / 8).toNat, by omega⟩
  have hok : Tone.ok (tPut_3 (tPut_0 (tEnable tNew_3 true) 31) b) := tPut_3_w _ _ (tPut_0_w _ _ (tEnable_w _ _ tNew_3_w) (by decide)) hb
  have e0 : ∃ rg, tPut_3 (tPut_0 (tEnable tNew_3 true) 31) b = noise rg (lengthsT (bShr .u8 b 3).toNat) 1 ∧ rg 0 = 31 ∧ rg 2 = 0 ∧ ∀ r, rng 256 (rg r) := by
    have h := hok.reg
    refine ⟨(tPut_3 (tPut_0 (tEnable tNew_3 true) 31) b).reg, ?_, rfl, rfl, h⟩
    simp [tPut_3, tHigh, tPut_0, tEnable, tNew_3, noise, hn3]
  obtain ⟨rg, e0, r0, r2, hrg⟩ := e0
  cases short
  · have L : Loud 1 rg (lengthsT (bShr .u8 b 3).toNat) := ⟨.inl rfl, hrg, r0, by rw [r2]; decide, hlen⟩
    obtain ⟨f0, f1⟩ := hf
    have ef : IntKind.i64.wrap fewer = fewer := i64_in _ (by omega)
    have em : Int.tmod fewer 32737 = fewer % 32737 := Int.tmod_eq_emod_of_nonneg f0
    obtain ⟨s, hs, hs30, hsN⟩ : ∃ s : Nat, 30 + fewer % 32737 = s ∧ 30 ≤ s ∧ s < 32767 := ⟨(30 + fewer % 32737).toNat, by omega, by omega, by omega⟩
    have w1 : IntKind.i64.wrap (30 + (Int.tmod (IntKind.i64.wrap fewer) 32737)) = s := by rw [ef, em, hs, i64_in _ (by omega)]
    have w2 : IntKind.i64.wrap ((IntKind.i64.wrap (30 + (Int.tmod (IntKind.i64.wrap fewer) 32737))) - 30) = ((s - 30 : Nat) : Int) := by rw [w1, i64_in _ (by omega)]; omega
    have w3 : IntKind.i64.wrap ((IntKind.i64.wrap (65534 - (IntKind.i64.wrap (30 + (Int.tmod (IntKind.i64.wrap fewer) 32737))))) - 30) = ((65504 - s : Nat) : Int) := by rw [w1, i64_in (65534 - (s : Int)) (by omega), i64_in _ (by omega)]; omega
    have h1 := windowF_row L (r := 1) (by decide)
    have h2 := walkF_row L (rows_lt 1 30 (r := 1) (by decide)) (s - 30) _ rfl
    rw [← iterS_add, show 30 + (s - 30) = s by omega] at h2
    have h3 := windowF_row L (rows_lt 1 s (r := 1) (by decide))
    rw [← iterS_add] at h3
    have h4 := walkF_row L (rows_lt 1 (s + 30) (r := 1) (by decide)) (65504 - s) _ rfl
    have hbk : iterS (stp 1) 65534 1 = 1 := back_mul back_all 2
    rw [← iterS_add, show s + 30 + (65504 - s) = 65534 by omega, hbk] at h4
    have := lawNoises_p2 b false fewer hb aw rfl (by rw [w2]; omega) (by rw [w3]; omega) (by
      rw [w2, e0, h1]
      simp only
      rw [h2, h3]
      simp only [bne_iff_ne, ne_eq]
      intro hc
      have hc' : shown 1 1 30 = shown 1 (iterS (stp 1) s 1) 30 := by exact_mod_cast hc
      exact back_never (s := s) (by omega) hsN (shown_inj (by decide) (rows_lt 1 s (by decide)) hc').symm)
    rw [w2, w3, e0, h1] at this
    simp only at this
    rw [h2, h3] at this
    simp only at this
    rw [h4, h1] at this
    simpa using this
  · have e1 : tPut_2 (tPut_3 (tPut_0 (tEnable tNew_3 true) 31) b) 128 = noise (upd rg 2 128) (lengthsT (bShr .u8 b 3).toNat) 1 := by
      rw [e0]
      have hn : IntKind.u16.wrap ((noisesT (Int.toNat (bAnd .u8 128 15))) - 1) = 3 := by decide
      simp [tPut_2, noise, hn]
    have L : Loud 6 (upd rg 2 128) (lengthsT (bShr .u8 b 3).toNat) := ⟨.inr rfl, rng_upd hrg 2 (by decide), by rw [← r0]; rfl, rfl, hlen⟩
    have h1 := windowF_row L (r := 1) (by decide)
    have h2 := walkF_row L (rows_lt 6 30 (r := 1) (by decide)) 30 30 rfl
    rw [← iterS_add] at h2
    have h3 := windowF_row L (rows_lt 6 (30 + 30) (r := 1) (by decide))
    rw [← iterS_add] at h3
    have h4 := walkF_row L (rows_lt 6 (30 + 30 + 30) (r := 1) (by decide)) 96 96 rfl
    rw [← iterS_add] at h4
    have hbk : iterS (stp 6) (30 + 30 + 30 + 96) 1 = 1 := by decide +kernel
    rw [hbk] at h4
    have := lawNoises_p1 b true fewer hb aw rfl
    rw [e1, h1] at this
    simp only at this
    rw [h2, h3] at this
    simp only at this
    rw [h4, h1] at this
    simpa using this

end Go.Proofs.YtngeghiaakkdbaaDoor
