/-
  Layer 11: the plain law of the line of the triangle: how it moves. No condition.
-/
import Derived.Test.YtngeghiaakkdbaaDoorTF
import Derived.Test.YtngeghiaakkdbaaDoorTH
namespace Go.Proofs.YtngeghiaakkdbaaDoor
open Go VX IntWalk
set_option maxRecDepth 100000
set_option linter.unusedSimpArgs false
set_option linter.unusedVariables false

/-- A triangle that is laid so. -/
def tri (rg : Nat → Int) (bg : Bool) (ln p s tm : Int) : Tone :=
  { kind := 2, on := true, reg := rg, length := 10, period := p, timer := tm, step := s, begins := bg, level := 0, count := 0, sweep := 0, swept := false, line := ln, row := 1 }

structure Tri (rg : Nat → Int) (ln p : Int) : Prop where
  reg : ∀ r, rng 256 (rg r)
  ln : 0 ≤ ln ∧ ln < 128
  p : 0 ≤ p ∧ p < 256

theorem tri_w {rg : Nat → Int} {bg : Bool} {ln p s tm : Int} (h : Tri rg ln p) (hs : 0 ≤ s ∧ s < 32) (ht : 0 ≤ tm ∧ tm ≤ p) : Tone.ok (tri rg bg ln p s tm) := by
  have h1 := h.ln
  have h2 := h.p
  refine ⟨?_, h.reg, ?_, ?_, ?_, ?_, ?_, ?_, ?_, ?_, ?_⟩ <;> simp only [tri] <;> constructor <;> omega

theorem tri_dec {rg : Nat → Int} {bg : Bool} {ln p s tm : Int} (h : Tri rg ln p) (hs : 0 ≤ s ∧ s < 32) (ht : 0 ≤ tm ∧ tm ≤ p) (h0 : 0 < tm) : tClock (tri rg bg ln p s tm) = tri rg bg ln p s (tm - 1) := by
  rw [clk_dec _ (tri_w h hs ht) (by simpa [tri] using h0)]; rfl

theorem tri_fire {rg : Nat → Int} {bg : Bool} {ln p s : Int} (h : Tri rg ln p) (hs : 0 ≤ s ∧ s < 32) : tClock (tri rg bg ln p s 0) = tri rg bg ln p (if 0 < ln then (s + 1) % 32 else s) p := by
  have e : Int.tmod (IntKind.u8.wrap (s + 1)) 32 = (s + 1) % 32 := by rw [u8_in _ (by omega), Int.tmod_eq_emod_of_nonneg (by omega)]
  have ef : tFire (tri rg bg ln p s 0) = tri rg bg ln p (if 0 < ln then (s + 1) % 32 else s) 0 := by
    unfold tFire
    rw [if_pos (show (tri rg bg ln p s 0).kind = 2 from rfl)]
    by_cases hl : 0 < ln
    · rw [if_pos (by simp only [tri]; exact ⟨by decide, hl⟩), if_pos hl]
      simp only [tri]
      rw [e]
    · rw [if_neg (by simp only [tri]; intro hc; exact hl hc.2), if_neg hl]
  rw [clk_fire _ rfl, ef]
  rfl

def lineOut (s : Int) : Int := if s < 16 then 15 - s else s - 16

theorem tri_out {rg : Nat → Int} {bg : Bool} {ln p s tm : Int} (hs : 0 ≤ s ∧ s < 32) : tOut (tri rg bg ln p s tm) = lineOut s := by
  unfold tOut lineOut
  rw [if_pos (show (((tri rg bg ln p s tm).kind : Int) == 2) = true from rfl), show (tri rg bg ln p s tm).step = s from rfl]
  by_cases h : s < 16
  · rw [if_pos (by simpa using h), if_pos h, u8_in _ (by omega)]
  · rw [if_neg (by simpa using h), if_neg h, u8_in _ (by omega)]

/-- What the loop carries: how often it fired, and how often that was heard. -/
def Told (rg : Nat → Int) (bg : Bool) (ln p : Int) (i : Int) (s : Int × Int × Bool × Tone) : Prop :=
  ∃ F tm : Int, ∃ st m : Int, s = (lineOut st, m, false, tri rg bg ln p st tm) ∧ (0 ≤ st ∧ st < 32) ∧ (0 ≤ tm ∧ tm ≤ p) ∧ 0 ≤ F ∧ F * (p + 1) = i + tm ∧ 0 ≤ m ∧ m ≤ F ∧ (ln = 0 → m = 0) ∧ (0 < ln → 0 < F → 0 < m) ∧ (F = 0 → st = 0)

def lineStep (s : Int × Int × Bool × Tone) : Int × Int × Bool × Tone :=
  (tOut (tClock s.2.2.2), if tOut (tClock s.2.2.2) = s.1 then s.2.1 else s.2.1 + 1, s.2.2.1, tClock s.2.2.2)

theorem told_next {rg : Nat → Int} {bg : Bool} {ln p : Int} (h : Tri rg ln p) {i : Int} {s : Int × Int × Bool × Tone} (hs : Told rg bg ln p i s) : Told rg bg ln p (i + 1) (lineStep s) := by
  obtain ⟨F, tm, st, m, rfl, h1, h2, h3, h4, h5, h6, h7, h8, h9⟩ := hs
  unfold lineStep
  simp only
  by_cases h0 : 0 < tm
  · rw [tri_dec h h1 h2 h0, tri_out h1, if_pos rfl]
    exact ⟨F, tm - 1, st, m, rfl, h1, by omega, h3, by omega, h5, h6, h7, h8, h9⟩
  · have e0 : tm = 0 := by omega
    subst e0
    have hst : 0 ≤ (if 0 < ln then (st + 1) % 32 else st) ∧ (if 0 < ln then (st + 1) % 32 else st) < 32 := by split <;> omega
    have hp := h.p
    have hF : (F + 1) * (p + 1) = i + 1 + p := by rw [Int.add_mul, h4]; omega
    rw [tri_fire h h1, tri_out hst]
    refine ⟨F + 1, p, _, _, rfl, hst, by omega, by omega, hF, ?_, ?_, ?_, ?_, ?_⟩
    · split <;> omega
    · split <;> omega
    · intro hl
      have := h7 hl
      rw [if_neg (show ¬ 0 < ln by omega), if_pos rfl]; exact this
    · intro hl _
      by_cases hF0 : F = 0
      · have := h9 hF0
        subst this
        rw [if_pos hl, if_neg (by decide)]; omega
      · have := h8 hl (by omega)
        split <;> omega
    · intro hc; omega

theorem lineOut_near (s : Int) (h : 0 ≤ s ∧ s < 32) : 0 ≤ lineOut s ∧ lineOut s ≤ 15 ∧ (lineOut ((s + 1) % 32) ≤ lineOut s + 1) ∧ lineOut s ≤ lineOut ((s + 1) % 32) + 1 := by
  unfold lineOut
  split <;> split <;> omega

/-- The next out is near. -/
theorem told_near {rg : Nat → Int} {bg : Bool} {ln p : Int} (h : Tri rg ln p) {i : Int} (hi : 0 ≤ i) {s : Int × Int × Bool × Tone} (hs : Told rg bg ln p i s) :
    Tone.ok s.2.2.2 ∧ (0 ≤ s.1 ∧ s.1 ≤ 15) ∧ (0 ≤ tOut (tClock s.2.2.2) ∧ tOut (tClock s.2.2.2) ≤ 15) ∧ tOut (tClock s.2.2.2) ≤ s.1 + 1 ∧ s.1 ≤ tOut (tClock s.2.2.2) + 1 ∧ (0 ≤ s.2.1 ∧ s.2.1 ≤ i + 1) := by
  obtain ⟨F, tm, st, m, rfl, h1, h2, h3, h4, h5, h6, h7, h8, h9⟩ := hs
  have hn := lineOut_near st h1
  have hp := h.p
  have hFi : F ≤ i + 1 := by
    have : F * (p + 1) = F * p + F := by rw [Int.mul_add, Int.mul_one]
    have h0 : 0 ≤ F * p := Int.mul_nonneg h3 hp.1
    by_cases hF : F = 0
    · have h10 : 0 * (p + 1) = i + tm := by rw [← hF]; exact h4
      simp at h10
      omega
    · have : p ≤ F * p := by
        have := Int.mul_le_mul_of_nonneg_right (show (1 : Int) ≤ F by omega) hp.1
        omega
      omega
  refine ⟨tri_w h h1 h2, ⟨hn.1, hn.2.1⟩, ?_⟩
  simp only
  by_cases h0 : 0 < tm
  · rw [tri_dec h h1 h2 h0, tri_out h1]; omega
  · have e0 : tm = 0 := by omega
    subst e0
    have hst : 0 ≤ (if 0 < ln then (st + 1) % 32 else st) ∧ (if 0 < ln then (st + 1) % 32 else st) < 32 := by split <;> omega
    rw [tri_fire h h1, tri_out hst]
    have hn2 := lineOut_near _ hst
    split <;> rename_i hl
    · rw [if_pos hl] at hn2; omega
    · omega

theorem or8_128 (line : Int) (h : rng 256 line) : bOr .u8 128 line = 128 + line % 128 := by
  have : ∀ m : Fin 256, bOr .u8 128 (m.val : Int) = 128 + (m.val : Int) % 128 := by decide +kernel
  obtain ⟨h0, h1⟩ := h
  have := this ⟨line.toNat, by omega⟩
  simp only at this
  rwa [Int.toNat_of_nonneg h0] at this

theorem lines_true (line period n : Int) (hl : rng 256 line) (hp : rng 256 period) (hn : rng 65536 n) :
    FnSpec Tryd.prog 6 1000 [.int .u8 line, .int .u8 period, .int .u16 n] [(0, ⟨[.ints .u16 16 noisesT], 60, true⟩), (1, ⟨[.ints .u8 4 dutiesT], 39, true⟩), (2, ⟨[.ints .u8 32 lengthsT], 64, true⟩)] (.bool true) [] := by
  have el := or8_128 line hl
  have hl' := hl
  have hp' := hp
  have hn' := hn
  obtain ⟨l0, l1⟩ := hl
  obtain ⟨p0, p1⟩ := hp
  obtain ⟨n0, n1⟩ := hn
  have ep : Int.tmod period 20 = period % 20 := Int.tmod_eq_emod_of_nonneg p0
  have en : Int.tmod n 2000 = n % 2000 := Int.tmod_eq_emod_of_nonneg n0
  have e127 : bAnd .u8 line 127 = line % 128 := and8_127 ⟨l0, l1⟩
  have hok : Tone.ok (tQuarter (tPut_3 (tPut_2 (tPut_0 (tEnable tNew_2 true) (bOr .u8 128 line)) (Int.tmod period 20)) 0)) :=
    tQuarter_w _ (tPut_3_w _ _ (tPut_2_w _ _ (tPut_0_w _ _ (tEnable_w _ _ tNew_2_w) (rng_bOr_u8 _ _)) (by rw [ep]; exact ⟨by omega, by omega⟩)) (by decide))
  have q2 := put2_eq 0 (period % 20) (by decide) (by omega)
  have q3 := put3_eq (period % 20) 0 (by omega) (by decide)
  have q4 : 0 / 256 * 256 + period % 20 = period % 20 := by omega
  have q5 : period % 20 % 256 + 0 % 8 * 256 = period % 20 := by omega
  rw [q4] at q2
  rw [q5] at q3
  have hnd : bAndNot .u8 (128 + line % 128) 128 = line % 128 := by rw [not8_128 ⟨by omega, by omega⟩]; omega
  have hl10 : lengthsT (Int.toNat (bShr .u8 0 3)) = 10 := by decide
  obtain ⟨rg, bg, e, hrg⟩ : ∃ rg bg, tQuarter (tPut_3 (tPut_2 (tPut_0 (tEnable tNew_2 true) (bOr .u8 128 line)) (Int.tmod period 20)) 0) = tri rg bg (line % 128) (period % 20) 0 0 ∧ ∀ r, rng 256 (rg r) := by
    refine ⟨_, (tQuarter (tPut_3 (tPut_2 (tPut_0 (tEnable tNew_2 true) (bOr .u8 128 line)) (Int.tmod period 20)) 0)).begins, ?_, hok.reg⟩
    rw [el, ep]
    simp [tQuarter, tPut_3, tHigh, tPut_2, tPut_0, tEnable, tNew_2, tri, q2, q3, hl10, upd]
    exact hnd
  have H : Tri rg (line % 128) (period % 20) := ⟨hrg, by omega, by omega⟩
  have start : Told rg bg (line % 128) (period % 20) 0 (15, 0, false, tri rg bg (line % 128) (period % 20) 0 0) :=
    ⟨0, 0, 0, 0, rfl, by decide, ⟨by decide, by omega⟩, by decide, by simp, by decide, by decide, fun _ => rfl, fun _ h => absurd h (by decide), fun _ => rfl⟩
  have hN : n % 2000 = (0 : Int) + ((n % 2000).toNat : Nat) := by omega
  have L := loop_for (rel := lawLines_L1n line period n) lineStep (n % 2000) (Told rg bg (line % 128) (period % 20)) (fun i s _ _ h => told_next H h) (fun s => (.inl (n % 2000, s)))
    (fun i s i0 i1 hs => by
      obtain ⟨k1, k2, k3, k4, k5, k6⟩ := told_near H i0 hs
      have ei : IntKind.u16.wrap (i + 1) = i + 1 := u16_in _ (by omega)
      have c1 : (decide ((i : Int) < (Int.tmod n 2000))) = true := by rw [en]; simpa using i1
      have c2 : (decide (((tOut (tClock s.2.2.2)) : Int) > 15)) = false := by simp; omega
      have c3 : (decide (((tOut (tClock s.2.2.2)) : Int) > (IntKind.u8.wrap (s.1 + 1)))) = false := by rw [u8_in _ (by omega)]; simp; omega
      have c4 : (decide ((s.1 : Int) > (IntKind.u8.wrap ((tOut (tClock s.2.2.2)) + 1)))) = false := by rw [u8_in _ (by omega)]; simp; omega
      by_cases hs1 : tOut (tClock s.2.2.2) = s.1
      · have := lawLines_L1n.p5 (line := line) (period := period) (n := n) (xd := (i, s)) c1 k1 c2 c3 c4 (by simpa using hs1)
        rw [ei] at this
        unfold lineStep
        rw [if_pos hs1]
        exact this
      · have := lawLines_L1n.p4 (line := line) (period := period) (n := n) (xd := (i, s)) c1 k1 c2 c3 c4 (by simpa using hs1)
        rw [ei, i64_in (s.2.1 + 1) (by omega)] at this
        unfold lineStep
        rw [if_neg hs1]
        exact this)
    (fun s _ => lawLines_L1n.p6 (line := line) (period := period) (n := n) (xd := (n % 2000, s)) (by rw [en]; simp)) (n % 2000).toNat 0 _ (by decide) (by omega) start
  have fin : Told rg bg (line % 128) (period % 20) (n % 2000) (iterS lineStep (n % 2000).toNat (15, 0, false, tri rg bg (line % 128) (period % 20) 0 0)) := by
    have gen : ∀ (k : Nat) (i : Int) (s : Int × Int × Bool × Tone), Told rg bg (line % 128) (period % 20) i s → Told rg bg (line % 128) (period % 20) (i + k) (iterS lineStep k s) := by
      intro k
      induction k with
      | zero => intro i s h; simpa [iterS] using h
      | succ k ih =>
        intro i s h
        have := ih (i + 1) (lineStep s) (told_next H h)
        have ee : i + 1 + (k : Int) = i + ((k + 1 : Nat) : Int) := by omega
        rw [ee] at this
        exact this
    have := gen (n % 2000).toNat 0 _ start
    rw [← hN] at this
    exact this
  generalize iterS lineStep (n % 2000).toNat (15, 0, false, tri rg bg (line % 128) (period % 20) 0 0) = R at L fin
  obtain ⟨F, tm, st, m, rfl, h1, h2, h3, h4, h5, h6, h7, h8, h9⟩ := fin
  have o0 : tOut (tri rg bg (line % 128) (period % 20) 0 0) = 15 := by rw [tri_out (by decide)]; decide
  have aw := awake_t
  have L' : LoopR (lawLines_L1n line period n) (0, (tOut (tQuarter (tPut_3 (tPut_2 (tPut_0 (tEnable tNew_2 true) (bOr .u8 128 line)) (Int.tmod period 20)) 0))), 0, false, (tQuarter (tPut_3 (tPut_2 (tPut_0 (tEnable tNew_2 true) (bOr .u8 128 line)) (Int.tmod period 20)) 0))) (.inl (n % 2000, lineOut st, m, false, tri rg bg (line % 128) (period % 20) st tm)) := by
    rw [e, o0]; exact L
  have hq : F ≤ 1 + (n % 2000) / (1 + period % 20) := by
    have hd : 0 < 1 + period % 20 := by omega
    have e1 : (F - 1) * (1 + period % 20) ≤ n % 2000 := by
      have : (F - 1) * (1 + period % 20) = F * (period % 20 + 1) - (1 + period % 20) := by rw [Int.sub_mul, Int.add_comm 1 (period % 20), Int.one_mul]
      omega
    have := (Int.le_ediv_iff_mul_le hd).2 e1
    omega
  have e2 : IntKind.i64.wrap (1 + (IntKind.i64.wrap (Int.tdiv (IntKind.i64.wrap (Int.tmod n 2000)) (IntKind.i64.wrap (1 + (IntKind.i64.wrap (Int.tmod period 20))))))) = 1 + (n % 2000) / (1 + period % 20) := by
    have hd0 : 0 ≤ (n % 2000) / (1 + period % 20) := Int.ediv_nonneg (by omega) (by omega)
    have hd1 : (n % 2000) / (1 + period % 20) ≤ n % 2000 := Int.ediv_le_self _ (by omega)
    rw [en, ep, i64_in (n % 2000) (by omega), i64_in (period % 20) (by omega), i64_in (1 + period % 20) (by omega), Int.tdiv_eq_ediv_of_nonneg (by omega), i64_in ((n % 2000) / (1 + period % 20)) (by omega), i64_in _ (by omega)]
  by_cases z : line % 128 = 0
  · have := lawLines_p1 line period n hl' hp' hn' aw _ L' (by rw [e127]; simpa using z)
    rw [h7 z] at this
    simpa using this
  · have c3 : (((bAnd .u8 line 127) : Int) == 0) = false := by rw [e127]; simpa using z
    have c4 : (decide ((m : Int) ≤ (IntKind.i64.wrap (1 + (IntKind.i64.wrap (Int.tdiv (IntKind.i64.wrap (Int.tmod n 2000)) (IntKind.i64.wrap (1 + (IntKind.i64.wrap (Int.tmod period 20)))))))))) = true := by
      rw [e2]; simp; omega
    by_cases w : n % 2000 < 40
    · exact lawLines_p2 line period n hl' hp' hn' aw _ L' c3 c4 (by rw [en]; simpa using w)
    · have := lawLines_p3 line period n hl' hp' hn' aw _ L' c3 c4 (by rw [en]; simpa using w)
      have hF0 : 0 < F := by
        apply Classical.byContradiction
        intro hc
        have hF : F = 0 := by omega
        rw [hF] at h4
        simp at h4
        omega
      have hm := h8 (by omega) hF0
      simpa [hm] using this

end Go.Proofs.YtngeghiaakkdbaaDoor
