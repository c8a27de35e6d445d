/-
  PictureCounts, of any mask and number. No condition.
-/
import Derived.Test.YtgnhhnmpeklciaaPT
import Derived.Test.YtgnhhnmpeklciaaPU
namespace Go.Proofs.Ytgnhhnmpeklciaa
open Go VX
set_option linter.unusedVariables false
set_option linter.unusedSimpArgs false
set_option maxRecDepth 100000

/-- How many dots a picture has. -/
def lenF (m : Int) (j : Nat) : Nat := if j % 2 = 1 ∧ ((bAnd .u8 m 24 : Int) != 0) = true then 89341 else 89342
/-- A picture at dot u of its picture j. -/
structure Cd (m : Int) (p : Pic) (L : List Sprite) (j u : Nat) : Prop where
  line : p.line = ((u / 341 : Nat) : Int)
  dot : p.dot = ((u % 341 : Nat) : Int)
  odd : p.odd = decide (j % 2 = 1)
  frames : p.frames = ((j + (if 82183 ≤ u then 1 else 0) : Nat) : Int)
  mask : p.mask = m
  ok : Pic.ok p
  len : L.length ≤ 8

theorem blank_frames {m : Int} {p : Pic} {L : List Sprite} {j u : Nat} (h : Cd m p L j u) (hu : u < 89342) (hj : j < 1000) : (kBlank p).frames = ((j + (if 82183 ≤ u + 1 then 1 else 0) : Nat) : Int) := by
  unfold kBlank
  have hl := h.line; have hd := h.dot; have hf := h.frames
  by_cases c : p.line = 241 ∧ p.dot = 1
  · have hu : u = 82182 := by omega
    subst hu
    rw [if_pos c]
    show IntKind.i64.wrap (p.frames + 1) = _
    rw [hf, i64_in2 (by simp; omega) (by simp; omega)]; simp
  · rw [if_neg c]
    have : u ≠ 82182 := by omega
    have e : (if 82183 ≤ u then 1 else 0 : Nat) = (if 82183 ≤ u + 1 then 1 else 0) := by split <;> split <;> omega
    split
    · show p.frames = _; rw [hf, e]
    · rw [hf, e]

theorem cd_step {m : Int} {p : Pic} {L : List Sprite} {j u : Nat} (h : Cd m p L j u) (hu : u < lenF m j) (hj : j < 1000) :
    Cd m (pClock p L).1 (pClock p L).2 (if u + 1 < lenF m j then j else j + 1) (if u + 1 < lenF m j then u + 1 else 0) := by
  have hlen : lenF m j ≤ 89342 ∧ 89341 ≤ lenF m j := by unfold lenF; split <;> omega
  have hfr := blank_frames h (by omega) hj
  have hok := pClock_w1 p L h.ok (by rw [h.line]; omega) h.len
  have hlen8 := clock_len p L h.len
  obtain ⟨s, f, g, e⟩ := kc_form p L
  have ek := clock_kc p L
  generalize (kBlank p).frames = fr at *
  rw [e] at ek
  have hl := h.line; have hd := h.dot; have ho := h.odd; have hm := h.mask
  rw [pNext_eq _ _ (by show 0 ≤ p.dot; omega) (by show p.dot < _; omega) (by show 0 ≤ p.line; omega) (by show p.line < _; omega)] at ek
  have cond : (if p.line = 261 ∧ p.dot = 339 ∧ p.odd = true ∧ ((bAnd .u8 p.mask 24 : Int) != 0) = true then (1 : Int) else 0) = if u = 89340 ∧ lenF m j = 89341 then 1 else 0 := by
    rw [ho, hm]
    by_cases c : j % 2 = 1 ∧ ((bAnd .u8 m 24 : Int) != 0) = true
    · have hv : lenF m j = 89341 := if_pos c
      by_cases c2 : u = 89340
      · rw [if_pos ⟨by omega, by omega, decide_eq_true c.1, c.2⟩, if_pos ⟨c2, hv⟩]
      · rw [if_neg (fun x => c2 (by have := x.1; have := x.2.1; omega)), if_neg (fun x => c2 x.1)]
    · have hv : lenF m j = 89342 := if_neg c
      rw [if_neg (fun x => c ⟨by simpa using x.2.2.1, x.2.2.2⟩), if_neg (fun x => by have := x.2; omega)]
  have ek2 : (pClock p L).1 = (if p.dot + 1 + (if u = 89340 ∧ lenF m j = 89341 then 1 else 0) < 341 then ({ p with scroll := s, flags := f, screen := g, frames := fr, dot := p.dot + 1 } : Pic) else if p.line = 261 then ({ p with scroll := s, flags := f, screen := g, frames := fr, line := 0, dot := 0, odd := !p.odd } : Pic) else ({ p with scroll := s, flags := f, screen := g, frames := fr, line := p.line + 1, dot := 0 } : Pic)) := by
    rw [ek, ← cond]
  generalize pClock p L = Q at ek2 hok hlen8 ⊢
  obtain ⟨q, L'⟩ := Q
  simp only at ek2 hok hlen8 ⊢
  by_cases c1 : p.dot + 1 + (if u = 89340 ∧ lenF m j = 89341 then 1 else 0) < 341
  · rw [if_pos c1] at ek2
    have : u + 1 < lenF m j := by
      by_cases c2 : u = 89340 ∧ lenF m j = 89341
      · rw [if_pos c2] at c1; omega
      · omega
    rw [if_pos this, if_pos this]
    subst ek2
    exact ⟨by show p.line = _; omega, by show p.dot + 1 = _; rw [if_neg (show ¬ (u = 89340 ∧ lenF m j = 89341) by omega)] at c1; omega, ho, hfr, hm, hok, hlen8⟩
  · rw [if_neg c1] at ek2
    by_cases c3 : p.line = 261
    · rw [if_pos c3] at ek2
      have : ¬ (u + 1 < lenF m j) := by
        by_cases c2 : u = 89340 ∧ lenF m j = 89341
        · omega
        · rw [if_neg c2] at c1; omega
      rw [if_neg this, if_neg this]
      subst ek2
      have hu2 : 82183 ≤ u + 1 := by omega
      rw [if_pos hu2] at hfr
      refine ⟨rfl, rfl, ?_, ?_, hm, hok, hlen8⟩
      · show (!p.odd) = _; rw [ho]
        by_cases c : j % 2 = 1
        · have : ¬ (j + 1) % 2 = 1 := by omega
          simp [c, this]
        · have : (j + 1) % 2 = 1 := by omega
          simp [c, this]
      · show fr = _; rw [hfr]; rfl
    · rw [if_neg c3] at ek2
      have c2 : ¬ (u = 89340 ∧ lenF m j = 89341) := by omega
      rw [if_neg c2] at c1
      have : u + 1 < lenF m j := by omega
      rw [if_pos this, if_pos this]
      subst ek2
      exact ⟨by show p.line + 1 = _; omega, by show (0 : Int) = _; omega, ho, hfr, hm, hok, hlen8⟩

theorem cnt1 {m n : Int} {xd : (List Sprite) × Int × Int × Int × Bool × Pic} {P : (List Sprite) × Int × Pic → Prop} {p : Pic} {L : List Sprite} {j u t k : Nat} (hk : xd.2.1 = (k : Int)) (h : Cd m p L j u) (hu : u < lenF m j) (hj : j < 1000) (hf : j + (if 82183 ≤ u then 1 else 0) = k) (ht : t < 500000)
    (co : ∀ (p' : Pic) (L' : List Sprite), Cd m p' L' (if u + 1 < lenF m j then j else j + 1) (if u + 1 < lenF m j then u + 1 else 0) → ∃ r, LoopR (lawCounts_L2y m n xd) (L', ((t + 1 : Nat) : Int), p') r ∧ P r) :
    ∃ r, LoopR (lawCounts_L2y m n xd) (L, (t : Int), p) r ∧ P r := by
  obtain ⟨r, h1, h2⟩ := co _ _ (cd_step h hu hj)
  refine ⟨r, .more (s' := ((pClock p L).2, ((t + 1 : Nat) : Int), (pClock p L).1)) ?_ h1, h2⟩
  have st := lawCounts_L2y.p1 (mask := m) (n := n) (xd := xd) (xe := (L, (t : Int), p)) (by show (p.frames == xd.2.1) = true; rw [hk, h.frames, hf]; simp) (decide_eq_true (by show (t : Int) < 500000; omega)) h.ok (by show 0 ≤ p.line; rw [h.line]; omega) h.len
  rw [show IntKind.i64.wrap (((L, (t : Int), p) : (List Sprite) × Int × Pic).2.1 + 1) = ((t + 1 : Nat) : Int) from by show IntKind.i64.wrap ((t : Int) + 1) = _; rw [i64_in2 (by omega) (by omega)]; omega] at st
  exact st
theorem cntA {m n : Int} {xd : (List Sprite) × Int × Int × Int × Bool × Pic} {P : (List Sprite) × Int × Pic → Prop} {k : Nat} (hk : xd.2.1 = (k : Int)) {j : Nat} (hj : j < 1000) (hjk : j + 1 = k) : ∀ (c u t : Nat) (p : Pic) (L : List Sprite), Cd m p L j u → 82183 ≤ u → u + (c + 1) = lenF m j → t + c < 500000 →
    (∀ (p' : Pic) (L' : List Sprite), Cd m p' L' (j + 1) 0 → ∃ r, LoopR (lawCounts_L2y m n xd) (L', ((t + (c + 1) : Nat) : Int), p') r ∧ P r) → ∃ r, LoopR (lawCounts_L2y m n xd) (L, (t : Int), p) r ∧ P r
  | 0, u, t, p, L, h, hu, hc, ht, co => cnt1 hk h (by omega) hj (by rw [if_pos hu]; exact hjk) (by omega) (fun p' L' h' => by
      rw [if_neg (by omega), if_neg (by omega)] at h'; exact co p' L' h')
  | c + 1, u, t, p, L, h, hu, hc, ht, co => cnt1 hk h (by omega) hj (by rw [if_pos hu]; exact hjk) (by omega) (fun p' L' h' => by
      rw [if_pos (by omega), if_pos (by omega)] at h'
      exact cntA hk hj hjk c (u + 1) (t + 1) p' L' h' (by omega) (by omega) (by omega) (fun p2 L2 h2 => by
        have := co p2 L2 h2
        rw [show t + (c + 1 + 1) = t + 1 + (c + 1) by omega] at this; exact this))
theorem cntB {m n : Int} {xd : (List Sprite) × Int × Int × Int × Bool × Pic} {k : Nat} (hk : xd.2.1 = (k : Int)) (hj : k < 1000) : ∀ (c u t : Nat) (p : Pic) (L : List Sprite), Cd m p L k u → u + c = 82183 → t + c < 500000 →
    ∃ r, LoopR (lawCounts_L2y m n xd) (L, (t : Int), p) r ∧ (r.2.1 = ((t + c : Nat) : Int) ∧ Cd m r.2.2 r.1 k 82183)
  | 0, u, t, p, L, h, hc, ht => by
    have : u = 82183 := by omega
    subst this
    exact ⟨_, .last (.p3 (by show (p.frames == xd.2.1) = false; rw [hk, h.frames, if_pos (Nat.le_refl _)]; simp; omega)), rfl, h⟩
  | c + 1, u, t, p, L, h, hc, ht => by
    have hl : 89341 ≤ lenF m k := by unfold lenF; split <;> omega
    refine cnt1 hk h (by omega) hj (by rw [if_neg (by omega)]; rfl) (by omega) (fun p' L' h' => ?_)
    rw [if_pos (by omega), if_pos (by omega)] at h'
    obtain ⟨r, a, b, d⟩ := cntB (n := n) hk hj c (u + 1) (t + 1) p' L' h' (by omega) (by omega)
    exact ⟨r, a, by rw [b, show t + (c + 1) = t + 1 + c by omega], d⟩

def wantN (m : Int) : Nat → Nat
  | 0 => 82183
  | k + 1 => wantN m k + lenF m k
theorem wantN_le (m : Int) : ∀ k, wantN m k ≤ 82183 + 89342 * k
  | 0 => Nat.le_refl _
  | k + 1 => by
    have := wantN_le m k
    have h : lenF m k ≤ 89342 := by unfold lenF; split <;> omega
    show wantN m k + lenF m k ≤ _; omega

/-- One picture is counted. -/
theorem cnt_one {m n : Int} {xd : (List Sprite) × Int × Int × Int × Bool × Pic} {k : Nat} (hk : xd.2.1 = (k : Int)) (hj : k < 5) {p : Pic} {L : List Sprite} {t : Nat} (h : (k = 0 ∧ t = 0 ∧ Cd m p L 0 0) ∨ (∃ j, k = j + 1 ∧ t = wantN m j ∧ Cd m p L j 82183)) :
    ∃ r, LoopR (lawCounts_L2y m n xd) (L, (t : Int), p) r ∧ (r.2.1 = ((wantN m k : Nat) : Int) ∧ Cd m r.2.2 r.1 k 82183) := by
  rcases h with ⟨rfl, rfl, h⟩ | ⟨j, rfl, rfl, h⟩
  · exact cntB hk (by omega) 82183 0 0 p L h (by omega) (by omega)
  · have hl : lenF m j ≤ 89342 ∧ 89341 ≤ lenF m j := by unfold lenF; split <;> omega
    have hw := wantN_le m j
    refine cntA hk (by omega) rfl (lenF m j - 82184) 82183 (wantN m j) p L h (Nat.le_refl _) (by omega) (by omega) (fun p' L' h' => ?_)
    obtain ⟨r, a, b, d⟩ := cntB (n := n) hk (by omega) 82183 0 (wantN m j + (lenF m j - 82184 + 1)) p' L' h' (by omega) (by omega)
    exact ⟨r, a, by rw [b]; show _ = ((wantN m j + lenF m j : Nat) : Int); omega, d⟩

theorem cnt_all {m n : Int} {N : Nat} (hN : IntKind.i64.wrap (2 + IntKind.i64.wrap (Int.tmod n 3)) = (N : Int)) (hN4 : N ≤ 4) : ∀ (c k t : Nat) (p : Pic) (L : List Sprite), k + c = N → ((k = 0 ∧ t = 0 ∧ Cd m p L 0 0) ∨ (∃ j, k = j + 1 ∧ t = wantN m j ∧ Cd m p L j 82183)) →
    ∃ r, LoopR (lawCounts_L1 m n) (L, (k : Int), (t : Int), ((wantN m k : Nat) : Int), false, p) (.inl r)
  | 0, k, t, p, L, hc, h => ⟨_, .last (.p5 (decide_eq_false (by show ¬ ((k : Int) < _); rw [hN]; omega)))⟩
  | c + 1, k, t, p, L, hc, h => by
    have hd : decide ((k : Int) < IntKind.i64.wrap (2 + IntKind.i64.wrap (Int.tmod n 3))) = true := decide_eq_true (by rw [hN]; omega)
    obtain ⟨r, a, b, d⟩ := cnt_one (n := n) (xd := (L, (k : Int), (t : Int), ((wantN m k : Nat) : Int), false, p)) rfl (by omega) h
    have hw := wantN_le m k
    have w1 : IntKind.i64.wrap ((k : Int) + 1) = ((k + 1 : Nat) : Int) := by rw [i64_in2 (by omega) (by omega)]; omega
    have w2 : IntKind.i64.wrap (((wantN m k : Nat) : Int) + 89342) = ((wantN m k : Nat) : Int) + 89342 := i64_in2 (by omega) (by omega)
    have w3 : IntKind.i64.wrap (((wantN m k : Nat) : Int) + 89342 - 1) = ((wantN m k : Nat) : Int) + 89342 - 1 := i64_in2 (by omega) (by omega)
    have hne : ((r.2.1 : Int) != ((wantN m k : Nat) : Int)) = false := by rw [b]; simp
    obtain ⟨r', e⟩ := cnt_all hN hN4 c (k + 1) (wantN m k) r.2.2 r.1 (by omega) (.inr ⟨k, rfl, rfl, d⟩)
    refine ⟨r', .more ?_ e⟩
    rw [show wantN m (k + 1) = wantN m k + lenF m k from rfl]
    have htm : Int.tmod (k : Int) 2 = ((k % 2 : Nat) : Int) := by rw [Int.tmod_eq_emod_of_nonneg (by omega)]; omega
    by_cases c1 : k % 2 = 1
    · have d3 : ((Int.tmod (k : Int) 2 : Int) == 1) = true := by rw [htm, c1]; rfl
      by_cases c2 : ((bAnd .u8 m 24 : Int) != 0) = true
      · have st := lawCounts_L1.p2 (mask := m) (n := n) (xd := (L, (k : Int), (t : Int), ((wantN m k : Nat) : Int), false, p)) hd r a hne d3 c2
        simp only [w1, w2, w3, b] at st
        rw [show ((wantN m k + lenF m k : Nat) : Int) = ((wantN m k : Nat) : Int) + 89342 - 1 by unfold lenF; rw [if_pos ⟨c1, c2⟩]; omega]
        exact st
      · have st := lawCounts_L1.p3 (mask := m) (n := n) (xd := (L, (k : Int), (t : Int), ((wantN m k : Nat) : Int), false, p)) hd r a hne d3 (by simpa using c2)
        simp only [w1, w2, b] at st
        rw [show ((wantN m k + lenF m k : Nat) : Int) = ((wantN m k : Nat) : Int) + 89342 by unfold lenF; rw [if_neg (fun x => c2 x.2)]; omega]
        exact st
    · have d3 : ((Int.tmod (k : Int) 2 : Int) == 1) = false := by rw [htm]; simp; omega
      have st := lawCounts_L1.p4 (mask := m) (n := n) (xd := (L, (k : Int), (t : Int), ((wantN m k : Nat) : Int), false, p)) hd r a hne d3
      simp only [w1, w2, b] at st
      rw [show ((wantN m k + lenF m k : Nat) : Int) = ((wantN m k : Nat) : Int) + 89342 by unfold lenF; rw [if_neg (fun x => c1 x.1)]; omega]
      exact st

theorem counts_true (mask n : Int) (wm : rng 256 mask) (wn : rng 256 n) : FnSpec Try.prog 4 1000 [.int .u8 mask, .int .u8 n] [] (.bool true) [] := by
  have hN : IntKind.i64.wrap (2 + IntKind.i64.wrap (Int.tmod n 3)) = ((2 + (n % 3).toNat : Nat) : Int) := by
    obtain ⟨a, b⟩ := wn
    rw [Int.tmod_eq_emod_of_nonneg a, i64_in2 (x := n % 3) (by omega) (by omega), i64_in2 (by omega) (by omega)]; omega
  have hp : pPut picZero [] 1 mask = ({ picZero with mask := mask, bus := mask } : Pic) := by
    unfold pPut; rw [if_neg (show ¬ ((Int.tmod 1 8 : Int) == 0) = true from by decide), if_pos (show ((Int.tmod 1 8 : Int) == 1) = true from by decide)]
  have hok := pPut_w picZero [] 1 mask zero_ok (by decide) wm
  obtain ⟨r, l⟩ := cnt_all (m := mask) (n := n) hN (by omega) (2 + (n % 3).toNat) 0 0 (pPut picZero [] 1 mask) [] (by omega) (.inl ⟨rfl, rfl, by
    rw [hp] at hok ⊢
    exact ⟨rfl, rfl, rfl, rfl, rfl, hok, Nat.zero_le _⟩⟩)
  exact lawCounts_p1 mask n zero_ok r l
end Go.Proofs.Ytgnhhnmpeklciaa
