/-
  PictureHits, of any place, mask and look. No condition.
-/
import Derived.Test.YtgnhhnmpeklciaaQC
import Derived.Test.YtgnhhnmpeklciaaQF
namespace Go.Proofs.Ytgnhhnmpeklciaa
open Go VX
set_option linter.unusedVariables false
set_option linter.unusedSimpArgs false
set_option linter.unusedSectionVars false
set_option maxRecDepth 100000

def hitF (yy xx : Nat) (lk : Int) (j : Nat) : Int := if j = 0 then (yy : Int) else if j = 1 then 0 else if j = 2 then lk else if j = 3 then (xx : Int) else 255
structure HitB (yy xx : Nat) (lk m : Int) (b : Pic) : Prop where
  tiles : ∀ j, j < 16 → b.tiles j = 255
  names : ∀ j, b.names j = 0
  men : ∀ j, j < 256 → b.men j = hitF yy xx lk j
  control : b.control = 0
  mask : b.mask = m
  yb : yy < 230
  xb : xx < 256

def nameB (n : Nat) : Bool := let a := bAnd .u16 (bOr .u16 8192 (n : Int)) 16383; !(decide (a < 8192)) && decide (a < 16128)
theorem name_all : allN nameB 12 0 = true := by kernel_rfl
theorem name_of (s : Scroll) : decide (bAnd .u16 (sName s) 16383 < 8192) = false ∧ decide (bAnd .u16 (sName s) 16383 < 16128) = true := by
  have hb := band16 s.V 4095 (by decide) (by decide)
  have h := allN_int name_all (bAnd .u16 s.V 4095) hb.1 (by have := hb.2; show bAnd .u16 s.V 4095 < ((2 ^ 12 : Nat) : Int); omega)
  unfold nameB at h
  rw [Int.toNat_of_nonneg hb.1] at h
  simp only [Bool.and_eq_true, Bool.not_eq_true'] at h
  exact h
theorem u16_s {x : Int} (h0 : 0 ≤ x) (h : x < 65536) : IntKind.u16.wrap x = x := by rw [IntKind.wrap_u16]; omega

/-- Are tiles, sprites shown at x? -/
def nOn (m : Int) (x : Nat) : Bool := ((bAnd .u8 m 8 : Int) != 0) && (decide (8 ≤ x) || ((bAnd .u8 m 2 : Int) != 0))
def mOn (m : Int) (x : Nat) : Bool := ((bAnd .u8 m 16 : Int) != 0) && (decide (8 ≤ x) || ((bAnd .u8 m 4 : Int) != 0))
def s0 (xx : Nat) (lk : Int) : Sprite := ⟨255, 255, lk, (xx : Int), true⟩

section
variable {yy xx : Nat} {lk m : Int} {b : Pic} (hb : HitB yy xx lk m b)
include hb
theorem hit_tile {p : Pic} {l d : Nat} (h : St b p l d) (L : List Sprite) (x : Nat) (hx : x < 256) : (pTile p L (x : Int)).1 = if nOn m x then 3 else 0 := by
  have hm : p.mask = m := h.mask.trans hb.mask
  have e8 : Int.tmod (x : Int) 8 = ((x % 8 : Nat) : Int) := by rw [Int.tmod_eq_emod_of_nonneg (by omega)]; omega
  have eX : IntKind.i64.wrap p.scroll.X = 0 := by rw [h.fine]; rw [IntKind.wrap_i64]; omega
  have eat : IntKind.i64.wrap (Int.tmod (x : Int) 8 + IntKind.i64.wrap p.scroll.X) = ((x % 8 : Nat) : Int) := by rw [e8, eX, i64_s (by omega) (by omega)]; omega
  have c3 : ¬ (decide (IntKind.i64.wrap (Int.tmod (x : Int) 8 + IntKind.i64.wrap p.scroll.X) ≥ 8)) = true := by rw [eat]; simp; omega
  have c4 : ¬ (((bAnd .u8 p.control 16) : Int) != 0) = true := by rw [h.control, hb.control]; decide +kernel
  have hpk : pPeek p L (sName p.scroll) = 0 := by
    obtain ⟨n1, n2⟩ := name_of p.scroll
    unfold pPeek
    rw [if_neg (by rw [n1]; decide), if_pos n2, h.names]; exact hb.names _
  have hrow := sRow_lt p.scroll
  have i1 : Int.toNat (IntKind.u16.wrap ((IntKind.u16.wrap (16 * (IntKind.u16.wrap (pPeek p L (sName p.scroll))))) + (IntKind.u16.wrap (sRow p.scroll)))) < 8 := by
    rw [hpk, show IntKind.u16.wrap (16 * IntKind.u16.wrap 0) = 0 by kernel_rfl, u16_s (x := sRow p.scroll) (by omega) (by omega), u16_s (by omega) (by omega)]; omega
  have i2 : Int.toNat (IntKind.u16.wrap ((IntKind.u16.wrap ((IntKind.u16.wrap (16 * (IntKind.u16.wrap (pPeek p L (sName p.scroll))))) + (IntKind.u16.wrap (sRow p.scroll)))) + 8)) < 16 := by
    rw [hpk, show IntKind.u16.wrap (16 * IntKind.u16.wrap 0) = 0 by kernel_rfl, u16_s (x := sRow p.scroll) (by omega) (by omega), u16_s (x := 0 + sRow p.scroll) (by omega) (by omega), u16_s (by omega) (by omega)]; omega
  have t1 : ∀ j, j < 16 → p.tiles j = 255 := fun j hj => by rw [h.tiles]; exact hb.tiles j hj
  have val : two (p.tiles (Int.toNat (IntKind.u16.wrap ((IntKind.u16.wrap (16 * (IntKind.u16.wrap (pPeek p L (sName p.scroll))))) + (IntKind.u16.wrap (sRow p.scroll)))))) (p.tiles (Int.toNat (IntKind.u16.wrap ((IntKind.u16.wrap ((IntKind.u16.wrap (16 * (IntKind.u16.wrap (pPeek p L (sName p.scroll))))) + (IntKind.u16.wrap (sRow p.scroll)))) + 8)))) (IntKind.i64.wrap (Int.tmod (x : Int) 8 + IntKind.i64.wrap p.scroll.X)) = 3 := by
    rw [t1 _ (by omega), t1 _ i2, eat]
    exact two_full ⟨x % 8, by omega⟩
  unfold pTile
  by_cases c1 : ((bAnd .u8 m 8 : Int) == 0) = true
  · rw [if_pos (by rw [hm]; exact c1)]
    have : nOn m x = false := by
      have e : ((bAnd .u8 m 8 : Int) != 0) = false := by simp only [bne, c1]; rfl
      unfold nOn; rw [e]; rfl
    rw [this]; rfl
  · have e8' : ((bAnd .u8 m 8 : Int) != 0) = true := by simp only [bne]; simpa using c1
    rw [if_neg (by rw [hm]; exact c1)]
    by_cases c2 : x < 8
    · rw [if_pos (by simp; omega)]
      by_cases c5 : ((bAnd .u8 m 2 : Int) == 0) = true
      · rw [if_pos (by rw [hm]; exact c5)]
        have : nOn m x = false := by
          have e : ((bAnd .u8 m 2 : Int) != 0) = false := by simp only [bne, c5]; rfl
          have e2 : decide (8 ≤ x) = false := decide_eq_false (by omega)
          unfold nOn; rw [e, e2]; simp
        rw [this]; rfl
      · rw [if_neg (by rw [hm]; exact c5), if_neg c3, if_neg c4]
        have : nOn m x = true := by
          have e : ((bAnd .u8 m 2 : Int) != 0) = true := by simp only [bne]; simpa using c5
          unfold nOn; rw [e8', e]; simp
        rw [this]; exact val
    · rw [if_neg (by simp; omega), if_neg c3, if_neg c4]
      have : nOn m x = true := by
        have e2 : decide (8 ≤ x) = true := decide_eq_true (by omega)
        unfold nOn; rw [e8', e2]; rfl
      rw [this]; exact val
theorem hit_man (x : Nat) (hx : x < 256) : manNo (s0 xx lk) (x : Int) = if xx ≤ x ∧ x < xx + 8 then 3 else 0 := by
  have hxb := hb.xb
  have e : manAt (s0 xx lk) (x : Int) = (x : Int) - (xx : Int) := by
    unfold manAt s0
    rw [i64_s (x := ((xx : Nat) : Int)) (by omega) (by omega), i64_s (by omega) (by omega)]
  unfold manNo
  rw [e]
  by_cases c : xx ≤ x ∧ x < xx + 8
  · rw [if_neg (by omega), if_neg (by omega), if_pos c]
    split
    · rw [i64_s (by omega) (by omega)]
      have := two_full ⟨7 - (x - xx), by omega⟩
      show two 255 255 (7 - ((x : Int) - (xx : Int))) = 3
      rw [← this]; congr 1; simp only; omega
    · have := two_full ⟨x - xx, by omega⟩
      show two 255 255 ((x : Int) - (xx : Int)) = 3
      rw [← this]; congr 1; simp only; omega
  · rw [if_neg c]
    by_cases c1 : (x : Int) - (xx : Int) < 0
    · rw [if_pos c1]
    · rw [if_neg c1, if_pos (by omega)]
/-- The sprite at a dot. -/
theorem hit_sprite {p : Pic} {l d : Nat} (h : St b p l d) (x : Nat) (hx : x < 256) :
    pSpriteF p [] (x : Int) = (0, noMan) ∧ pSpriteF p [s0 xx lk] (x : Int) = if (mOn m x && decide (xx ≤ x ∧ x < xx + 8)) = true then (3, s0 xx lk) else (0, noMan) := by
  have hm : p.mask = m := h.mask.trans hb.mask
  have hf : findMan (x : Int) [s0 xx lk] = if decide (xx ≤ x ∧ x < xx + 8) = true then (3, s0 xx lk) else (0, noMan) := by
    unfold findMan
    rw [hit_man hb x hx]
    by_cases c : xx ≤ x ∧ x < xx + 8
    · rw [if_pos c, if_neg (by decide), if_pos (decide_eq_true c)]
    · rw [if_neg c, if_pos rfl, if_neg (by simpa using c)]; rfl
  constructor
  · unfold pSpriteF
    repeat' split
    all_goals rfl
  · unfold pSpriteF
    by_cases c1 : ((bAnd .u8 m 16 : Int) == 0) = true
    · have e : ((bAnd .u8 m 16 : Int) != 0) = false := by simp only [bne, c1]; rfl
      rw [if_pos (by rw [hm]; exact c1), if_neg (by unfold mOn; rw [e]; simp)]
    · have e : ((bAnd .u8 m 16 : Int) != 0) = true := by simp only [bne]; simpa using c1
      rw [if_neg (by rw [hm]; exact c1)]
      by_cases c2 : x < 8
      · rw [if_pos (by simp; omega)]
        have e2 : decide (8 ≤ x) = false := decide_eq_false (by omega)
        by_cases c5 : ((bAnd .u8 m 4 : Int) == 0) = true
        · have e5 : ((bAnd .u8 m 4 : Int) != 0) = false := by simp only [bne, c5]; rfl
          rw [if_pos (by rw [hm]; exact c5), if_neg (by unfold mOn; rw [e, e2, e5]; simp)]
        · have e5 : ((bAnd .u8 m 4 : Int) != 0) = true := by simp only [bne]; simpa using c5
          rw [if_neg (by rw [hm]; exact c5), hf]
          have : mOn m x = true := by unfold mOn; rw [e, e2, e5]; rfl
          rw [this, Bool.true_and]
      · rw [if_neg (by simp; omega), hf]
        have e2 : decide (8 ≤ x) = true := decide_eq_true (by omega)
        have : mOn m x = true := by unfold mOn; rw [e, e2]; rfl
        rw [this, Bool.true_and]
/-- Is it hit at a dot? -/
theorem hit_none {p : Pic} {l d : Nat} (h : St b p l d) (x : Nat) (hx : x < 256) (f : Int) : pDraw_J2 p [] (x : Int) f = f := by
  obtain ⟨h1, _⟩ := hit_sprite hb h x hx
  have : pDraw_J1 p [] (x : Int) = false := by
    unfold pDraw_J1; rw [h1]
    split
    · rfl
    · rfl
  unfold pDraw_J2; rw [this]; rfl
theorem hit_one {p : Pic} {l d : Nat} (h : St b p l d) (x : Nat) (hx : x < 256) (f : Int) : pDraw_J2 p [s0 xx lk] (x : Int) f = if (nOn m x && mOn m x && decide (xx ≤ x ∧ x < xx + 8) && decide (x < 255)) = true then bOr .u8 f 64 else f := by
  obtain ⟨_, h1⟩ := hit_sprite hb h x hx
  have ht := hit_tile hb h [s0 xx lk] x hx
  have : pDraw_J1 p [s0 xx lk] (x : Int) = (nOn m x && mOn m x && decide (xx ≤ x ∧ x < xx + 8) && decide (x < 255)) := by
    unfold pDraw_J1
    rw [h1, ht]
    cases hn : nOn m x
    · simp
    · cases hq : (mOn m x && decide (xx ≤ x ∧ x < xx + 8))
      · have : (mOn m x && decide (xx ≤ x ∧ x < xx + 8) && decide (x < 255)) = false := by rw [hq]; rfl
        simp only [Bool.true_and, this]; simp
      · simp only [Bool.true_and, hq]
        show (if ((3 : Int) != 0) = true then (if ((3 : Int) != 0) = true then (if true = true then decide ((x : Int) < 255) else false) else false) else false) = decide (x < 255)
        rw [if_pos (by decide), if_pos (by decide), if_pos rfl]
        by_cases c : x < 255
        · rw [decide_eq_true c, decide_eq_true (by omega)]
        · rw [decide_eq_false c, decide_eq_false (by omega)]
  unfold pDraw_J2; rw [this]

/-- What is chosen. -/
theorem hit_skip {q : Pic} {l : Nat} (hl : q.line = (l : Int)) (hl2 : l < 240) (hm : ∀ j, j < 256 → q.men j = hitF yy xx lk j) (L : List Sprite) : ∀ n i, i + n = 64 → 1 ≤ i → chooseL q n (4 * i) L = (L, q)
  | 0, i, h, hk => rfl
  | n + 1, i, h, hk => by
    have e : q.men (4 * i) = 255 := by rw [hm _ (by omega)]; unfold hitF; rw [if_neg (by omega), if_neg (by omega), if_neg (by omega), if_neg (by omega)]
    have hneg : IntKind.i64.wrap (q.line - IntKind.i64.wrap (q.men (4 * i))) < 0 := by
      rw [e, hl, w255, i64_s (by omega) (by omega)]; omega
    unfold chooseL
    rw [if_pos hneg, show 4 * i + 4 = 4 * (i + 1) by omega]
    exact hit_skip hl hl2 hm L n (i + 1) (by omega) (by omega)
theorem hit_fetch {q : Pic} {d : Nat} (h : St b q yy d) (L : List Sprite) : pFetch q L ((0 : Nat) : Int) 0 = s0 xx lk := by
  have e1 : q.men (Int.toNat (IntKind.i64.wrap (((0 : Nat) : Int) + 1))) = 0 := by
    rw [show Int.toNat (IntKind.i64.wrap (((0 : Nat) : Int) + 1)) = 1 by kernel_rfl, h.men, hb.men _ (by omega)]; rfl
  have e2 : q.men (Int.toNat (IntKind.i64.wrap (((0 : Nat) : Int) + 2))) = lk := by
    rw [show Int.toNat (IntKind.i64.wrap (((0 : Nat) : Int) + 2)) = 2 by kernel_rfl, h.men, hb.men _ (by omega)]; rfl
  have e3 : q.men (Int.toNat (IntKind.i64.wrap (((0 : Nat) : Int) + 3))) = (xx : Int) := by
    rw [show Int.toNat (IntKind.i64.wrap (((0 : Nat) : Int) + 3)) = 3 by kernel_rfl, h.men, hb.men _ (by omega)]; rfl
  have t1 : ∀ j, j < 16 → q.tiles j = 255 := fun j hj => by rw [h.tiles]; exact hb.tiles j hj
  have hc : q.control = 0 := by rw [h.control]; exact hb.control
  have hh : pHeight q L = 8 := by unfold pHeight; rw [if_neg (by rw [hc]; decide +kernel)]
  unfold pFetch
  rw [e1, e2, e3, hc, hh]
  by_cases c : ((bAnd .u8 lk 128 : Int) != 0) = true
  · rw [if_pos c, if_neg (show ¬ ((bAnd .u8 0 32 : Int) != 0) = true by decide +kernel), if_neg (show ¬ ((bAnd .u8 0 8 : Int) != 0) = true by decide +kernel)]
    have a1 : q.tiles 7 = 255 := t1 7 (by omega)
    have a2 : q.tiles 15 = 255 := t1 15 (by omega)
    unfold s0
    rw [← a1]
    congr 1
    rw [a1, ← a2]
    congr 1
  · rw [if_neg c, if_neg (show ¬ ((bAnd .u8 0 32 : Int) != 0) = true by decide +kernel), if_neg (show ¬ ((bAnd .u8 0 8 : Int) != 0) = true by decide +kernel)]
    have a1 : q.tiles 0 = 255 := t1 0 (by omega)
    have a2 : q.tiles 8 = 255 := t1 8 (by omega)
    unfold s0
    rw [← a1]
    congr 1
    rw [a1, ← a2]
    congr 1
theorem hit_choose {q : Pic} {l : Nat} (h : St b q l 257) (hl : l ≤ yy) (L : List Sprite) :
    (pChooseF q L true).1.flags = q.flags ∧ (pChooseF q L true).2 = if l = yy ∧ ((bAnd .u8 m 24 : Int) != 0) = true then [s0 xx lk] else [] := by
  have hm : ∀ j, j < 256 → q.men j = hitF yy xx lk j := fun j hj => by rw [h.men]; exact hb.men j hj
  have hyb := hb.yb
  have e0 : q.men 0 = (yy : Int) := by rw [hm 0 (by omega)]; rfl
  have hline := h.line
  unfold pChooseF
  rw [if_neg (by decide)]
  by_cases c : ((bAnd .u8 m 24 : Int) != 0) = true
  · rw [if_neg (show ¬ (!(pShows q [])) = true by rw [mask_shows, h.mask, hb.mask, c]; decide)]
    have key : chooseL q 64 0 [] = (if l = yy then [s0 xx lk] else [], q) := by
      show chooseL q (63 + 1) 0 [] = _
      unfold chooseL
      rw [e0, hline, i64_s (x := (yy : Int)) (by omega) (by omega), i64_s (by omega) (by omega)]
      by_cases c2 : l = yy
      · subst c2
        have hh : pHeight q [] = 8 := by unfold pHeight; rw [if_neg (by rw [h.control, hb.control]; decide +kernel)]
        rw [if_neg (by omega), if_neg (by rw [hh]; omega), if_neg (by decide), if_pos rfl, show (l : Int) - (l : Int) = 0 by omega, hit_fetch hb h]
        exact hit_skip hb hline (by omega) hm _ 63 1 (by omega) (by omega)
      · rw [if_pos (by omega), if_neg c2]
        exact hit_skip hb hline (by omega) hm _ 63 1 (by omega) (by omega)
    rw [key]
    refine ⟨rfl, ?_⟩
    by_cases c2 : l = yy
    · rw [if_pos c2, if_pos ⟨c2, c⟩]
    · rw [if_neg c2, if_neg (fun x => c2 x.1)]
  · rw [if_pos (show (!(pShows q [])) = true by rw [mask_shows, h.mask, hb.mask]; simpa using c)]
    exact ⟨rfl, by rw [if_neg (fun x => c x.2)]⟩

/-- A picture after u dots, before it may be hit. -/
structure Hit (yy xx : Nat) (lk m : Int) (b p : Pic) (L : List Sprite) (u : Nat) : Prop where
  st : St b p (u / 341) (u % 341)
  list : L = if 341 * yy + 257 < u ∧ ((bAnd .u8 m 24 : Int) != 0) = true then [s0 xx lk] else []
  flags : p.flags = 0
theorem Hit.len {p : Pic} {L : List Sprite} {u : Nat} (h : Hit yy xx lk m b p L u) : L.length ≤ 8 := by
  rw [h.list]; split <;> simp
theorem hit_step {p : Pic} {L : List Sprite} {u f : Nat} (h : Hit yy xx lk m b p L u) (hu : u < 341 * (yy + 1) + 1 + f) (hf : f ≤ 255)
    (hno : ∀ x, x < f → (nOn m x && mOn m x && decide (xx ≤ x ∧ x < xx + 8) && decide (x < 255)) = false) : Hit yy xx lk m b (pClock p L).1 (pClock p L).2 (u + 1) := by
  have hyb := hb.yb
  have hl : u / 341 < 240 := by omega
  by_cases c1 : u % 341 = 0 ∨ 257 < u % 341
  · obtain ⟨a1, a2, a3, a4⟩ := clock_still h.st hl (by omega) L c1
    have e1 : (if u % 341 + 1 < 341 then u / 341 else u / 341 + 1) = (u + 1) / 341 := by split <;> omega
    have e2 : (if u % 341 + 1 < 341 then u % 341 + 1 else 0) = (u + 1) % 341 := by split <;> omega
    rw [e1, e2] at a2
    refine ⟨a2, ?_, by rw [a3]; exact h.flags⟩
    rw [a1, h.list]
    by_cases c : 341 * yy + 257 < u
    · have : 341 * yy + 257 < u + 1 := by omega
      simp [c, this]
    · have : ¬ 341 * yy + 257 < u + 1 := by omega
      simp [c, this]
  · by_cases c2 : u % 341 = 257
    · have hst := h.st
      rw [c2] at hst
      obtain ⟨q, b1, b2, b3, b4, b5, b6⟩ := clock_choose hst hl L
      obtain ⟨d1, d2⟩ := hit_choose hb b1 (by omega) L
      rw [← b5, b2] at d1
      rw [← b3] at d2
      rw [show (258 : Nat) = (u + 1) % 341 by omega, show u / 341 = (u + 1) / 341 by omega] at b4
      refine ⟨b4, ?_, by rw [d1]; exact h.flags⟩
      rw [d2]
      by_cases c : u / 341 = yy
      · have : 341 * yy + 257 < u + 1 := by omega
        simp [c, this]
      · have : ¬ 341 * yy + 257 < u + 1 := by omega
        simp [c, this]
    · obtain ⟨a1, a2, a3, a4⟩ := clock_draw h.st hl L (by omega) (by omega)
      rw [show u % 341 + 1 = (u + 1) % 341 by omega, show u / 341 = (u + 1) / 341 by omega] at a2
      refine ⟨a2, ?_, ?_⟩
      · rw [a1, h.list]
        by_cases c : 341 * yy + 257 < u
        · have : 341 * yy + 257 < u + 1 := by omega
          simp [c, this]
        · have : ¬ 341 * yy + 257 < u + 1 := by omega
          simp [c, this]
      · rw [a3, h.list]
        by_cases c : 341 * yy + 257 < u ∧ ((bAnd .u8 m 24 : Int) != 0) = true
        · rw [if_pos c, hit_one hb h.st _ (by omega), hno _ (by omega), h.flags]; rfl
        · rw [if_neg c, hit_none hb h.st _ (by omega), h.flags]
theorem hit_run {rel : (List Sprite) × Int × Pic → ((List Sprite) × Int × Pic) ⊕ ((List Sprite) × Int × Pic) → Prop} {f : Nat} (hf : f ≤ 255)
    (hno : ∀ x, x < f → (nOn m x && mOn m x && decide (xx ≤ x ∧ x < xx + 8) && decide (x < 255)) = false)
    (st : ∀ (i : Nat) (p : Pic) (L : List Sprite), i < 341 * (yy + 1) + 1 + f → Pic.ok p → 0 ≤ p.line → L.length ≤ 8 → rel (L, (i : Int), p) (.inl ((pClock p L).2, ((i + 1 : Nat) : Int), (pClock p L).1)))
    (la : ∀ (p : Pic) (L : List Sprite), rel (L, ((341 * (yy + 1) + 1 + f : Nat) : Int), p) (.inr (L, ((341 * (yy + 1) + 1 + f : Nat) : Int), p))) : ∀ (n k : Nat) (p : Pic) (L : List Sprite), k + n = 341 * (yy + 1) + 1 + f → Hit yy xx lk m b p L k →
    ∃ p' L', LoopR rel (L, (k : Int), p) (L', ((341 * (yy + 1) + 1 + f : Nat) : Int), p') ∧ Hit yy xx lk m b p' L' (341 * (yy + 1) + 1 + f)
  | 0, k, p, L, h, q => by
    have : k = 341 * (yy + 1) + 1 + f := by omega
    subst this
    exact ⟨p, L, .last (la p L), q⟩
  | n + 1, k, p, L, h, q => by
    obtain ⟨p', L', t, q'⟩ := hit_run hf hno st la n (k + 1) _ _ (by omega) (hit_step hb q (by omega) hf hno)
    exact ⟨p', L', .more (st k p L (by omega) q.st.ok (by rw [q.st.line]; omega) (q.len hb)) t, q'⟩
/-- The dot itself. -/
theorem hit_last {p : Pic} {L : List Sprite} {f : Nat} (hf : f ≤ 255) (h : Hit yy xx lk m b p L (341 * (yy + 1) + 1 + f)) :
    (pClock p L).1.flags = (if (nOn m f && mOn m f && decide (xx ≤ f ∧ f < xx + 8) && decide (f < 255)) = true ∧ ((bAnd .u8 m 24 : Int) != 0) = true then 64 else 0) ∧ Pic.ok (pClock p L).1 := by
  have hyb := hb.yb
  have e1 : (341 * (yy + 1) + 1 + f) % 341 - 1 = f := by omega
  obtain ⟨a1, a2, a3, a4⟩ := clock_draw h.st (by omega) L (by omega) (by omega)
  rw [e1] at a3
  refine ⟨?_, a2.ok⟩
  rw [a3, h.list]
  by_cases c : ((bAnd .u8 m 24 : Int) != 0) = true
  · rw [if_pos ⟨by omega, c⟩, hit_one hb h.st _ (by omega), h.flags]
    cases hq : (nOn m f && mOn m f && decide (xx ≤ f ∧ f < xx + 8) && decide (f < 255))
    · rw [if_neg (by decide), if_neg (fun x => by cases x.1)]
    · rw [if_pos rfl, if_pos ⟨rfl, c⟩]; kernel_rfl
  · rw [if_neg (fun x => c x.2), hit_none hb h.st _ (by omega), h.flags, if_neg (fun x => c x.2)]
end

def bitsB (n : Nat) : Bool := let m : Int := n
  (((bAnd .u8 m 24 : Int) == 24) == (((bAnd .u8 m 8 : Int) != 0) && ((bAnd .u8 m 16 : Int) != 0))) && (((bAnd .u8 m 6 : Int) != 6) == !(((bAnd .u8 m 2 : Int) != 0) && ((bAnd .u8 m 4 : Int) != 0))) && (!((bAnd .u8 m 24 : Int) == 24) || ((bAnd .u8 m 24 : Int) != 0))
theorem bits_all : allN bitsB 8 0 = true := by kernel_rfl
theorem bits_of {m : Int} (w : rng 256 m) : ((bAnd .u8 m 24 : Int) == 24) = (((bAnd .u8 m 8 : Int) != 0) && ((bAnd .u8 m 16 : Int) != 0)) ∧ ((bAnd .u8 m 6 : Int) != 6) = !(((bAnd .u8 m 2 : Int) != 0) && ((bAnd .u8 m 4 : Int) != 0)) ∧ (((bAnd .u8 m 24 : Int) == 24) = true → ((bAnd .u8 m 24 : Int) != 0) = true) := by
  have h := allN_int bits_all m w.1 (by have := w.2; simpa using this)
  unfold bitsB at h
  rw [Int.toNat_of_nonneg w.1] at h
  simp only [Bool.and_eq_true, beq_iff_eq, Bool.or_eq_true, Bool.not_eq_true'] at h
  obtain ⟨⟨h1, h2⟩, h3⟩ := h
  refine ⟨?_, ?_, ?_⟩
  · exact h1
  · exact h2
  · intro q
    rcases h3 with h3 | h3
    · rw [q] at h3; cases h3
    · exact h3
def g64B (n : Nat) : Bool := ((bAnd .u8 (bOr .u8 64 (bAnd .u8 (n : Int) 31)) 64 : Int) != 0) && ((bAnd .u8 (bOr .u8 0 (bAnd .u8 (n : Int) 31)) 64 : Int) == 0)
theorem g64_all : allN g64B 8 0 = true := by kernel_rfl
theorem g64_of {m : Int} (w : rng 256 m) : ((bAnd .u8 (bOr .u8 64 (bAnd .u8 m 31)) 64 : Int) != 0) = true ∧ ((bAnd .u8 (bOr .u8 0 (bAnd .u8 m 31)) 64 : Int) == 0) = true := by
  have h := allN_int g64_all m w.1 (by have := w.2; simpa using this)
  unfold g64B at h
  rw [Int.toNat_of_nonneg w.1] at h
  simp only [Bool.and_eq_true] at h
  exact h
theorem get_bits (p : Pic) (L : List Sprite) : (pGet p L 2).2 = bOr .u8 p.flags (bAnd .u8 p.bus 31) := by
  unfold pGet; rw [if_pos (show ((Int.tmod 2 8 : Int) == 2) = true from by decide)]

/-- The tiles are laid. -/
theorem hit_tiles {y x mask look : Int} : ∀ (c i : Nat) (t : Nat → Int), i + c = 16 → (∀ j, j < i → t j = 255) → Pic.ok ({ picZero with tiles := t } : Pic) →
    ∃ t', LoopR (fun s_ r_ => lawHits_L1 y x mask look s_ = r_) ([], (i : Int), ({ picZero with tiles := t } : Pic)) ([], 16, ({ picZero with tiles := t' } : Pic)) ∧ (∀ j, j < 16 → t' j = 255) ∧ Pic.ok ({ picZero with tiles := t' } : Pic)
  | 0, i, t, hc, ht, hok => by
    have : i = 16 := by omega
    subst this
    refine ⟨t, .last ?_, ht, hok⟩
    show lawHits_L1 y x mask look _ = _
    unfold lawHits_L1
    rw [if_neg (by show ¬ decide (((16 : Nat) : Int) < 16) = true; decide)]; rfl
  | c + 1, i, t, hc, ht, hok => by
    have e1 : pPoke ({ picZero with tiles := t } : Pic) [] (i : Int) 255 = ({ picZero with tiles := upd t i 255 } : Pic) := poke_lo (by omega) 255
    have w2 : IntKind.u16.wrap ((i : Int) + 1) = ((i + 1 : Nat) : Int) := by rw [IntKind.wrap_u16]; omega
    have ok1 := pPoke_w _ ([] : List Sprite) (i : Int) 255 hok ⟨by omega, by show (i : Int) < ((65536 : Nat) : Int); omega⟩ (by decide)
    rw [e1] at ok1
    obtain ⟨t', l, a, b⟩ := hit_tiles (y := y) (x := x) (mask := mask) (look := look) c (i + 1) (upd t i 255) (by omega) (fun j hj => by
      unfold upd
      cases h3 : Nat.beq j i
      · have : j ≠ i := fun e => by subst e; simp at h3
        exact ht j (by omega)
      · rfl) ok1
    refine ⟨t', .more ?_ l, a, b⟩
    show lawHits_L1 y x mask look _ = _
    unfold lawHits_L1
    rw [if_pos (by show decide ((i : Int) < 16) = true; exact decide_eq_true (by omega))]
    show (Sum.inl (([] : List Sprite), IntKind.u16.wrap ((i : Int) + 1), pPoke ({ picZero with tiles := t } : Pic) [] (i : Int) 255) : ((List Sprite) × Int × Pic) ⊕ ((List Sprite) × Int × Pic)) = _
    rw [e1, w2]
/-- The sprites are laid. -/
theorem hit_men {y x mask look : Int} {r1 : (List Sprite) × Int × Pic} (hr : r1.1 = []) {P : Pic} {yy xx : Nat} {lk : Int} : ∀ (c i : Nat) (p : Pic), i + c = 252 → Laid P (hitF yy xx lk) (4 + i) p →
    ∃ p', LoopR (lawHits_L2 y x mask look r1) ((i : Int), p) (252, p') ∧ Laid P (hitF yy xx lk) 256 p'
  | 0, i, p, hc, h => by
    have : i = 252 := by omega
    subst this
    exact ⟨p, .last (.p2 (decide_eq_false (by show ¬ (((252 : Nat) : Int) < 252); omega))), h⟩
  | c + 1, i, p, hc, h => by
    have w : IntKind.i64.wrap ((i : Int) + 1) = ((i + 1 : Nat) : Int) := by rw [i64_in2 (by omega) (by omega)]; omega
    have d1 : (decide (((i : Int), p).1 < 252)) = true := decide_eq_true (by show (i : Int) < 252; omega)
    have f0 : hitF yy xx lk (4 + i) = 255 := by unfold hitF; rw [if_neg (by omega), if_neg (by omega), if_neg (by omega), if_neg (by omega)]
    have q := laid_put h (by omega) (b := 255) f0.symm (by decide)
    obtain ⟨p', l, a⟩ := hit_men (y := y) (x := x) (mask := mask) (look := look) hr c (i + 1) _ (by omega) q
    refine ⟨p', .more ?_ l, a⟩
    have st := lawHits_L2.p1 (y := y) (x := x) (mask := mask) (look := look) (r1 := r1) (xd := ((i : Int), p)) d1 h.ok
    simp only [hr, w] at st
    exact st

theorem hits_true (y x mask look : Int) (wy : rng 256 y) (wx : rng 256 x) (wm : rng 256 mask) (wl : rng 256 look) : FnSpec Try.prog 7 1000 [.int .u8 y, .int .u8 x, .int .u8 mask, .int .u8 look] [] (.bool true) [] := by
  have hy : Int.tmod y 230 = (((y % 230).toNat : Nat) : Int) := by
    obtain ⟨a, b⟩ := wy
    rw [Int.tmod_eq_emod_of_nonneg a]; omega
  generalize hyy : (y % 230).toNat = yy at hy
  have hyb : yy < 230 := by have := wy.1; omega
  obtain ⟨xx, hxx⟩ : ∃ xx : Nat, x = (xx : Int) := ⟨x.toNat, by have := wx.1; omega⟩
  have hxb : xx < 256 := by have := wx.2; omega
  have ewx : IntKind.i64.wrap x = (xx : Int) := by rw [hxx, i64_s (by omega) (by omega)]
  obtain ⟨t, l1, ht, tok⟩ := hit_tiles (y := y) (x := x) (mask := mask) (look := look) 16 0 (fun _ => 0) (by omega) (fun j hj => by omega) zero_ok
  have wyy : rng 256 (yy : Int) := ⟨by omega, by show (yy : Int) < ((256 : Nat) : Int); omega⟩
  have q0 : Laid ({ picZero with tiles := t } : Pic) (hitF yy xx look) 0 ({ picZero with tiles := t } : Pic) := ⟨⟨fun _ => 0, 0, rfl, fun j hj => by omega⟩, tok⟩
  have q4 := laid_put (laid_put (laid_put (laid_put q0 (by omega) (b := (yy : Int)) rfl wyy) (by omega) (b := 0) rfl (by decide)) (by omega) (b := look) rfl wl) (by omega) (b := (xx : Int)) rfl (by rw [← hxx]; exact wx)
  obtain ⟨p2, l2, hl2⟩ := hit_men (y := y) (x := x) (mask := mask) (look := look) (r1 := ([], 16, ({ picZero with tiles := t } : Pic))) rfl (yy := yy) (xx := xx) (lk := look) 252 0 _ (by omega) q4
  obtain ⟨mm, z, e2, hm⟩ := hl2.ex
  have eb : pPut p2 [] 1 mask = ({ picZero with tiles := t, men := mm, man := 0, mask := mask, bus := mask } : Pic) := by rw [put1, e2]; rfl
  have hok := pPut_w p2 [] 1 mask hl2.ok (by decide) wm
  rw [eb] at hok
  have hb : HitB yy xx look mask ({ picZero with tiles := t, men := mm, man := 0, mask := mask, bus := mask } : Pic) := ⟨ht, fun _ => rfl, hm, rfl, rfl, hyb, hxb⟩
  have start : Hit yy xx look mask ({ picZero with tiles := t, men := mm, man := 0, mask := mask, bus := mask } : Pic) ({ picZero with tiles := t, men := mm, man := 0, mask := mask, bus := mask } : Pic) [] 0 :=
    ⟨⟨rfl, rfl, rfl, rfl, rfl, rfl, rfl, rfl, rfl, rfl, rfl, rfl, hok⟩, by rw [if_neg (by omega)], rfl⟩
  rw [← eb] at start hb
  have l2' : LoopR (lawHits_L2 y x mask look ([], 16, ({ picZero with tiles := t } : Pic))) (0, (pPut (pPut (pPut (pPut ({ picZero with tiles := t } : Pic) ([] : List Sprite) 4 (Int.tmod y 230)) [] 4 0) [] 4 look) [] 4 x)) (252, p2) := by rw [hy, hxx]; rw [hxx] at l2; exact l2
  clear l2
  obtain ⟨b24, b6, bsh⟩ := bits_of wm
  have wT : ∀ (f : Nat) (F : Int), F = (f : Int) → f ≤ 255 → IntKind.i64.wrap (IntKind.i64.wrap (IntKind.i64.wrap (341 * IntKind.i64.wrap (IntKind.i64.wrap (Int.tmod y 230) + 1)) + 1) + F) = ((341 * (yy + 1) + 1 + f : Nat) : Int) := by
    intro f F hF hf
    rw [hy, i64_s (x := (yy : Int)) (by omega) (by omega), i64_s (x := (yy : Int) + 1) (by omega) (by omega), i64_s (x := 341 * ((yy : Int) + 1)) (by omega) (by omega), i64_s (x := 341 * ((yy : Int) + 1) + 1) (by omega) (by omega), hF, i64_s (by omega) (by omega)]; omega
  have w1 : ∀ (i : Nat), i < 90000 → IntKind.i64.wrap ((i : Int) + 1) = ((i + 1 : Nat) : Int) := fun i hi => by rw [i64_in2 (by omega) (by omega)]; omega
  have before : ∀ {p : Pic} {L : List Sprite} {u : Nat}, Hit yy xx look mask (pPut p2 [] 1 mask) p L u → (((bAnd .u8 ((pGet p L 2).2) 64) : Int) == 0) = true := fun h => by
    rw [get_bits, h.flags]; exact (g64_of h.st.ok.bus).2
  have after : ∀ {p : Pic} {L : List Sprite} {c : Bool}, Pic.ok p → p.flags = (if c = true then 64 else 0) → (((bAnd .u8 ((pGet p L 2).2) 64) : Int) != 0) = c := fun {p L c} h hf => by
    rw [get_bits, hf]
    cases c
    · have := (g64_of h.bus).2; simp only [bne]; rw [if_neg (by decide), this]; rfl
    · rw [if_pos rfl]; exact (g64_of h.bus).1
  -- where it is hit
  have no8 : ∀ f : Nat, (xx < 8 → ((bAnd .u8 mask 6 : Int) != 6) = true → f ≤ 8) → (xx < 8 → ((bAnd .u8 mask 6 : Int) != 6) = false → f ≤ xx) → (8 ≤ xx → f ≤ xx) → ∀ j, j < f → (nOn mask j && mOn mask j && decide (xx ≤ j ∧ j < xx + 8) && decide (j < 255)) = false := by
    intro f h1 h2 h3 j hj
    by_cases c : xx ≤ j
    · have hx8 : xx < 8 := by
        rcases Nat.lt_or_ge xx 8 with h | h
        · exact h
        · have := h3 h; omega
      have hm6 : ((bAnd .u8 mask 6 : Int) != 6) = true := by
        cases h : ((bAnd .u8 mask 6 : Int) != 6)
        · have := h2 hx8 h; omega
        · rfl
      have hf := h1 hx8 hm6
      rw [b6] at hm6
      have hj8 : decide (8 ≤ j) = false := decide_eq_false (by omega)
      unfold nOn mOn
      rw [hj8]
      revert hm6
      cases ((bAnd .u8 mask 2 : Int) != 0) <;> cases ((bAnd .u8 mask 4 : Int) != 0) <;> simp
    · have : decide (xx ≤ j ∧ j < xx + 8) = false := decide_eq_false (fun h => c h.1)
      rw [this]; simp
  have fires : ∀ f : Nat, (8 ≤ f ∨ (((bAnd .u8 mask 6 : Int) != 6) = false)) → xx ≤ f → f < xx + 8 → f < 255 → ((bAnd .u8 mask 24 : Int) == 24) = true → (nOn mask f && mOn mask f && decide (xx ≤ f ∧ f < xx + 8) && decide (f < 255)) = true := by
    intro f h1 h2 h3 h4 h5
    rw [b24, Bool.and_eq_true] at h5
    unfold nOn mOn
    rw [h5.1, h5.2, decide_eq_true (show xx ≤ f ∧ f < xx + 8 from ⟨h2, h3⟩), decide_eq_true h4]
    rcases h1 with h1 | h1
    · rw [decide_eq_true h1]; rfl
    · rw [b6] at h1
      revert h1
      cases ((bAnd .u8 mask 2 : Int) != 0) <;> cases ((bAnd .u8 mask 4 : Int) != 0) <;> simp
  have dead : ∀ f : Nat, ((bAnd .u8 mask 24 : Int) == 24) = false → (nOn mask f && mOn mask f && decide (xx ≤ f ∧ f < xx + 8) && decide (f < 255)) = false := by
    intro f h5
    rw [b24] at h5
    unfold nOn mOn
    revert h5
    cases ((bAnd .u8 mask 8 : Int) != 0) <;> cases ((bAnd .u8 mask 16 : Int) != 0) <;> simp
  -- the end
  have fin : ∀ {p : Pic} {L : List Sprite} {f : Nat} (c : Bool), f ≤ 255 → Hit yy xx look mask (pPut p2 [] 1 mask) p L (341 * (yy + 1) + 1 + f) → (c = true → (nOn mask f && mOn mask f && decide (xx ≤ f ∧ f < xx + 8) && decide (f < 255)) = true ∧ ((bAnd .u8 mask 24 : Int) == 24) = true) → (c = false → (nOn mask f && mOn mask f && decide (xx ≤ f ∧ f < xx + 8) && decide (f < 255)) = false) →
      (((bAnd .u8 ((pGet (pClock p L).1 (pClock p L).2 2).2) 64) : Int) != 0) = c := by
    intro p L f c hf h h1 h2
    obtain ⟨a, b⟩ := hit_last hb hf h
    refine after b ?_
    rw [a]
    cases c
    · rw [h2 rfl, if_neg (fun x => by cases x.1), if_neg (by decide)]
    · obtain ⟨g1, g2⟩ := h1 rfl
      rw [if_pos ⟨g1, bsh g2⟩, if_pos rfl]
  have eqc : ∀ {a b : Bool}, a = b → (a == b) = true := fun h => by rw [h]; simp
  by_cases c1 : xx < 8
  · have C1 : (decide (((IntKind.i64.wrap x) : Int) < 8)) = true := by rw [ewx]; exact decide_eq_true (by omega)
    cases C2 : ((bAnd .u8 mask 6 : Int) != 6)
    · -- at its own dot
      have hno := no8 xx (fun _ h => by rw [C2] at h; cases h) (fun _ _ => Nat.le_refl _) (fun _ => Nat.le_refl _)
      cases C3 : ((bAnd .u8 mask 24 : Int) == 24)
      · obtain ⟨p3, L3, l3, q3⟩ := hit_run hb (rel := lawHits_L3ynyn y x mask look ([], 16, ({ picZero with tiles := t } : Pic)) (252, p2)) (f := xx) (by omega) hno
          (fun i p L hi h1 h2 h3 => by
            have s := lawHits_L3ynyn.p1 (y := y) (x := x) (mask := mask) (look := look) (r1 := ([], 16, ({ picZero with tiles := t } : Pic))) (r2 := (252, p2)) (xd := (L, (i : Int), p)) (by rw [wT xx _ ewx (by omega)]; exact decide_eq_true (by show (i : Int) < _; omega)) h1 h2 h3
            simp only [w1 i (by omega)] at s; exact s)
          (fun p L => .p2 (by rw [wT xx _ ewx (by omega)]; exact decide_eq_false (by show ¬ (((341 * (yy + 1) + 1 + xx : Nat) : Int) < _); omega))) (341 * (yy + 1) + 1 + xx) 0 _ [] (by omega) start
        have r := lawHits_p5 y x mask look wy wl ([], 16, ({ picZero with tiles := t } : Pic)) l1 tok (252, p2) l2' hl2.ok C1 C2 C3 (L3, _, p3) l3 (q3.len hb) q3.st.ok (by show 0 ≤ p3.line; rw [q3.st.line]; omega) (before q3)
        rw [eqc (fin false (by omega) q3 (fun h => by cases h) (fun _ => dead _ C3))] at r
        exact r
      · have C4 : (decide (((IntKind.i64.wrap x) : Int) < 255)) = true := by rw [ewx]; exact decide_eq_true (by omega)
        obtain ⟨p3, L3, l3, q3⟩ := hit_run hb (rel := lawHits_L3ynyy y x mask look ([], 16, ({ picZero with tiles := t } : Pic)) (252, p2)) (f := xx) (by omega) hno
          (fun i p L hi h1 h2 h3 => by
            have s := lawHits_L3ynyy.p1 (y := y) (x := x) (mask := mask) (look := look) (r1 := ([], 16, ({ picZero with tiles := t } : Pic))) (r2 := (252, p2)) (xd := (L, (i : Int), p)) (by rw [wT xx _ ewx (by omega)]; exact decide_eq_true (by show (i : Int) < _; omega)) h1 h2 h3
            simp only [w1 i (by omega)] at s; exact s)
          (fun p L => .p2 (by rw [wT xx _ ewx (by omega)]; exact decide_eq_false (by show ¬ (((341 * (yy + 1) + 1 + xx : Nat) : Int) < _); omega))) (341 * (yy + 1) + 1 + xx) 0 _ [] (by omega) start
        have r := lawHits_p3 y x mask look wy wl ([], 16, ({ picZero with tiles := t } : Pic)) l1 tok (252, p2) l2' hl2.ok C1 C2 C3 C4 (L3, _, p3) l3 (q3.len hb) q3.st.ok (by show 0 ≤ p3.line; rw [q3.st.line]; omega) (before q3)
        have ed : decide (((IntKind.i64.wrap x) : Int) < IntKind.i64.wrap (IntKind.i64.wrap x + 8)) = true := by rw [ewx, i64_s (x := (xx : Int) + 8) (by omega) (by omega)]; exact decide_eq_true (by omega)
        rw [ed, eqc (fin true (by omega) q3 (fun _ => ⟨fires xx (.inr C2) (Nat.le_refl _) (by omega) (by omega) C3, C3⟩) (fun h => by cases h))] at r
        exact r
    · -- at dot 8
      have hno := no8 8 (fun _ _ => Nat.le_refl _) (fun _ h => by rw [C2] at h; cases h) (fun h => by omega)
      cases C3 : ((bAnd .u8 mask 24 : Int) == 24)
      · obtain ⟨p3, L3, l3, q3⟩ := hit_run hb (rel := lawHits_L3yyn y x mask look ([], 16, ({ picZero with tiles := t } : Pic)) (252, p2)) (f := 8) (by omega) hno
          (fun i p L hi h1 h2 h3 => by
            have s := lawHits_L3yyn.p1 (y := y) (x := x) (mask := mask) (look := look) (r1 := ([], 16, ({ picZero with tiles := t } : Pic))) (r2 := (252, p2)) (xd := (L, (i : Int), p)) (by rw [wT 8 8 rfl (by omega)]; exact decide_eq_true (by show (i : Int) < _; omega)) h1 h2 h3
            simp only [w1 i (by omega)] at s; exact s)
          (fun p L => .p2 (by rw [wT 8 8 rfl (by omega)]; exact decide_eq_false (by show ¬ (((341 * (yy + 1) + 1 + 8 : Nat) : Int) < _); omega))) (341 * (yy + 1) + 1 + 8) 0 _ [] (by omega) start
        have r := lawHits_p2 y x mask look wy wl ([], 16, ({ picZero with tiles := t } : Pic)) l1 tok (252, p2) l2' hl2.ok C1 C2 C3 (L3, _, p3) l3 (q3.len hb) q3.st.ok (by show 0 ≤ p3.line; rw [q3.st.line]; omega) (before q3)
        rw [eqc (fin false (by omega) q3 (fun h => by cases h) (fun _ => dead _ C3))] at r
        exact r
      · obtain ⟨p3, L3, l3, q3⟩ := hit_run hb (rel := lawHits_L3yyy y x mask look ([], 16, ({ picZero with tiles := t } : Pic)) (252, p2)) (f := 8) (by omega) hno
          (fun i p L hi h1 h2 h3 => by
            have s := lawHits_L3yyy.p1 (y := y) (x := x) (mask := mask) (look := look) (r1 := ([], 16, ({ picZero with tiles := t } : Pic))) (r2 := (252, p2)) (xd := (L, (i : Int), p)) (by rw [wT 8 8 rfl (by omega)]; exact decide_eq_true (by show (i : Int) < _; omega)) h1 h2 h3
            simp only [w1 i (by omega)] at s; exact s)
          (fun p L => .p2 (by rw [wT 8 8 rfl (by omega)]; exact decide_eq_false (by show ¬ (((341 * (yy + 1) + 1 + 8 : Nat) : Int) < _); omega))) (341 * (yy + 1) + 1 + 8) 0 _ [] (by omega) start
        have r := lawHits_p1 y x mask look wy wl ([], 16, ({ picZero with tiles := t } : Pic)) l1 tok (252, p2) l2' hl2.ok C1 C2 C3 (L3, _, p3) l3 (q3.len hb) q3.st.ok (by show 0 ≤ p3.line; rw [q3.st.line]; omega) (before q3)
        have ed : decide ((8 : Int) < IntKind.i64.wrap (IntKind.i64.wrap x + 8)) = decide (0 < xx) := by
          rw [ewx, i64_s (x := (xx : Int) + 8) (by omega) (by omega)]
          by_cases c : 0 < xx
          · rw [decide_eq_true c, decide_eq_true (by omega)]
          · rw [decide_eq_false c, decide_eq_false (by omega)]
        rw [ed, eqc (fin (decide (0 < xx)) (by omega) q3 (fun h => ⟨fires 8 (.inl (Nat.le_refl _)) (by omega) (by have := of_decide_eq_true h; omega) (by omega) C3, C3⟩) (fun h => by
          have h := of_decide_eq_false h
          rw [decide_eq_false (show ¬ (xx ≤ 8 ∧ 8 < xx + 8) by omega)]; simp))] at r
        exact r
  · have C1 : (decide (((IntKind.i64.wrap x) : Int) < 8)) = false := by rw [ewx]; exact decide_eq_false (by omega)
    have hno := no8 xx (fun h => absurd h c1) (fun h => absurd h c1) (fun _ => Nat.le_refl _)
    cases C3 : ((bAnd .u8 mask 24 : Int) == 24)
    · obtain ⟨p3, L3, l3, q3⟩ := hit_run hb (rel := lawHits_L3ynyn y x mask look ([], 16, ({ picZero with tiles := t } : Pic)) (252, p2)) (f := xx) (by omega) hno
        (fun i p L hi h1 h2 h3 => by
          have s := lawHits_L3ynyn.p1 (y := y) (x := x) (mask := mask) (look := look) (r1 := ([], 16, ({ picZero with tiles := t } : Pic))) (r2 := (252, p2)) (xd := (L, (i : Int), p)) (by rw [wT xx _ ewx (by omega)]; exact decide_eq_true (by show (i : Int) < _; omega)) h1 h2 h3
          simp only [w1 i (by omega)] at s; exact s)
        (fun p L => .p2 (by rw [wT xx _ ewx (by omega)]; exact decide_eq_false (by show ¬ (((341 * (yy + 1) + 1 + xx : Nat) : Int) < _); omega))) (341 * (yy + 1) + 1 + xx) 0 _ [] (by omega) start
      have r := lawHits_p8 y x mask look wy wl ([], 16, ({ picZero with tiles := t } : Pic)) l1 tok (252, p2) l2' hl2.ok C1 C3 (L3, _, p3) l3 (q3.len hb) q3.st.ok (by show 0 ≤ p3.line; rw [q3.st.line]; omega) (before q3)
      rw [eqc (fin false (by omega) q3 (fun h => by cases h) (fun _ => dead _ C3))] at r
      exact r
    · by_cases c4 : xx < 255
      · have C4 : (decide (((IntKind.i64.wrap x) : Int) < 255)) = true := by rw [ewx]; exact decide_eq_true (by omega)
        obtain ⟨p3, L3, l3, q3⟩ := hit_run hb (rel := lawHits_L3ynyy y x mask look ([], 16, ({ picZero with tiles := t } : Pic)) (252, p2)) (f := xx) (by omega) hno
          (fun i p L hi h1 h2 h3 => by
            have s := lawHits_L3ynyy.p1 (y := y) (x := x) (mask := mask) (look := look) (r1 := ([], 16, ({ picZero with tiles := t } : Pic))) (r2 := (252, p2)) (xd := (L, (i : Int), p)) (by rw [wT xx _ ewx (by omega)]; exact decide_eq_true (by show (i : Int) < _; omega)) h1 h2 h3
            simp only [w1 i (by omega)] at s; exact s)
          (fun p L => .p2 (by rw [wT xx _ ewx (by omega)]; exact decide_eq_false (by show ¬ (((341 * (yy + 1) + 1 + xx : Nat) : Int) < _); omega))) (341 * (yy + 1) + 1 + xx) 0 _ [] (by omega) start
        have r := lawHits_p6 y x mask look wy wl ([], 16, ({ picZero with tiles := t } : Pic)) l1 tok (252, p2) l2' hl2.ok C1 C3 C4 (L3, _, p3) l3 (q3.len hb) q3.st.ok (by show 0 ≤ p3.line; rw [q3.st.line]; omega) (before q3)
        have ed : decide (((IntKind.i64.wrap x) : Int) < IntKind.i64.wrap (IntKind.i64.wrap x + 8)) = true := by rw [ewx, i64_s (x := (xx : Int) + 8) (by omega) (by omega)]; exact decide_eq_true (by omega)
        rw [ed, eqc (fin true (by omega) q3 (fun _ => ⟨fires xx (.inl (by omega)) (Nat.le_refl _) (by omega) (by omega) C3, C3⟩) (fun h => by cases h))] at r
        exact r
      · have C4 : (decide (((IntKind.i64.wrap x) : Int) < 255)) = false := by rw [ewx]; exact decide_eq_false (by omega)
        obtain ⟨p3, L3, l3, q3⟩ := hit_run hb (rel := lawHits_L3ynyn y x mask look ([], 16, ({ picZero with tiles := t } : Pic)) (252, p2)) (f := xx) (by omega) hno
          (fun i p L hi h1 h2 h3 => by
            have s := lawHits_L3ynyn.p1 (y := y) (x := x) (mask := mask) (look := look) (r1 := ([], 16, ({ picZero with tiles := t } : Pic))) (r2 := (252, p2)) (xd := (L, (i : Int), p)) (by rw [wT xx _ ewx (by omega)]; exact decide_eq_true (by show (i : Int) < _; omega)) h1 h2 h3
            simp only [w1 i (by omega)] at s; exact s)
          (fun p L => .p2 (by rw [wT xx _ ewx (by omega)]; exact decide_eq_false (by show ¬ (((341 * (yy + 1) + 1 + xx : Nat) : Int) < _); omega))) (341 * (yy + 1) + 1 + xx) 0 _ [] (by omega) start
        have r := lawHits_p7 y x mask look wy wl ([], 16, ({ picZero with tiles := t } : Pic)) l1 tok (252, p2) l2' hl2.ok C1 C3 C4 (L3, _, p3) l3 (q3.len hb) q3.st.ok (by show 0 ≤ p3.line; rw [q3.st.line]; omega) (before q3)
        rw [eqc (fin false (by omega) q3 (fun h => by cases h) (fun _ => by rw [decide_eq_false c4]; simp))] at r
        exact r
end Go.Proofs.Ytgnhhnmpeklciaa
