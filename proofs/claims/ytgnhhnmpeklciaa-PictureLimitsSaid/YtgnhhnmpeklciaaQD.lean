/-
  PictureLimits, of any number, mask and height. No condition.
-/
import Derived.Test.YtgnhhnmpeklciaaQC
import Derived.Test.YtgnhhnmpeklciaaQA
namespace Go.Proofs.Ytgnhhnmpeklciaa
open Go VX
set_option linter.unusedVariables false
set_option linter.unusedSimpArgs false
set_option maxRecDepth 100000

theorem or32 : bOr .u8 0 32 = 32 ∧ bOr .u8 32 32 = 32 := by decide +kernel
structure LimB (k : Nat) (mk : Int) (b : Pic) : Prop where
  tiles : ∀ j, j < 16 → b.tiles j = 255
  men : ∀ j, j < 256 → b.men j = menF k j
  c19 : b.colours 19 = 33
  c0 : b.colours 0 = 15
  control : b.control = 0 ∨ b.control = 32
  mask : b.mask = mk
  m8 : ((bAnd .u8 mk 8 : Int) == 0) = true
  m16 : ((bAnd .u8 mk 16 : Int) == 0) = false
  m24 : ((bAnd .u8 mk 24 : Int) != 0) = true
  m1 : ((bAnd .u8 mk 1 : Int) != 0) = false
  k19 : k ≤ 19

section
variable {k : Nat} {mk : Int} {b : Pic} (hb : LimB k mk b)
include hb
theorem lim_tile {p : Pic} {l d : Nat} (h : St b p l d) (L : List Sprite) (x : Int) : pTile p L x = (0, 0) := by
  unfold pTile; rw [if_pos (by rw [h.mask, hb.mask]; exact hb.m8)]
theorem lim_flags {p : Pic} {l d : Nat} (h : St b p l d) (L : List Sprite) (x f : Int) : pDraw_J2 p L x f = f := by
  have j1 : pDraw_J1 p L x = false := by unfold pDraw_J1; rw [lim_tile hb h]; rfl
  unfold pDraw_J2; rw [j1]; rfl
theorem lim_peek {p : Pic} {l d : Nat} (h : St b p l d) (f : Int) (L : List Sprite) : pPeek ({ p with flags := f } : Pic) L 16147 = 33 ∧ pPeek ({ p with flags := f } : Pic) L 16128 = 15 := by
  constructor
  · unfold pPeek
    rw [if_neg (show ¬ (decide ((bAnd .u16 16147 16383 : Int) < 8192)) = true by decide +kernel), if_neg (show ¬ (decide ((bAnd .u16 16147 16383 : Int) < 16128)) = true by decide +kernel)]
    show p.colours _ = 33
    rw [show Int.toNat (colour (bAnd .u16 16147 16383)) = 19 by kernel_rfl, h.colours]; exact hb.c19
  · unfold pPeek
    rw [if_neg (show ¬ (decide ((bAnd .u16 16128 16383 : Int) < 8192)) = true by decide +kernel), if_neg (show ¬ (decide ((bAnd .u16 16128 16383 : Int) < 16128)) = true by decide +kernel)]
    show p.colours _ = 15
    rw [show Int.toNat (colour (bAnd .u16 16128 16383)) = 0 by kernel_rfl, h.colours]; exact hb.c0
theorem lim_draw {p : Pic} {l d : Nat} (h : St b p l d) (L : List Sprite) (x : Nat) (v : Bool) (hs : (v = false ∧ pSpriteF p L (x : Int) = (0, noMan)) ∨ (v = true ∧ ∃ s, s.look = 0 ∧ pSpriteF p L (x : Int) = (3, s))) :
    (pDraw p L (x : Int)).screen = upd p.screen (l * 256 + x) (if v then 33 else 15) := by
  have ht := lim_tile hb h L (x : Int)
  have key : pPeek ({ p with flags := (pDraw_J2 p L (x : Int) p.flags) } : Pic) L (bOr .u16 16128 (pDraw_J4 p L (x : Int))) = if v then 33 else 15 := by
    obtain ⟨k1, k2⟩ := lim_peek hb h (pDraw_J2 p L (x : Int) p.flags) L
    rcases hs with ⟨rfl, e⟩ | ⟨rfl, s, e1, e⟩
    · have j3 : pDraw_J3 p L (x : Int) = false := by unfold pDraw_J3; rw [e]; rfl
      have j5 : pDraw_J5n p L (x : Int) = 0 := by unfold pDraw_J5n; rw [ht]; rfl
      have j4 : pDraw_J4 p L (x : Int) = 0 := by unfold pDraw_J4; rw [j3, j5]; rfl
      rw [j4, show bOr .u16 16128 0 = 16128 by kernel_rfl, k2]; rfl
    · have j3 : pDraw_J3 p L (x : Int) = true := by unfold pDraw_J3; rw [e, ht]; rfl
      have j4 : pDraw_J4 p L (x : Int) = 19 := by unfold pDraw_J4; rw [j3, e, e1]; kernel_rfl
      rw [j4, show bOr .u16 16128 19 = 16147 by kernel_rfl, k1]; rfl
  have hg : ((bAnd .u8 (({ p with flags := (pDraw_J2 p L (x : Int) p.flags) } : Pic).mask) 1 : Int) != 0) = false := by
    show ((bAnd .u8 p.mask 1 : Int) != 0) = false
    rw [h.mask, hb.mask]; exact hb.m1
  have hl : Int.toNat (({ p with flags := (pDraw_J2 p L (x : Int) p.flags) } : Pic).line) * 256 + Int.toNat (x : Int) = l * 256 + x := by
    show Int.toNat p.line * 256 + Int.toNat (x : Int) = _
    rw [h.line]; omega
  unfold pDraw
  show upd p.screen (Int.toNat (({ p with flags := (pDraw_J2 p L (x : Int) p.flags) } : Pic).line) * 256 + Int.toNat (x : Int)) (pDraw_J6 (x : Int) (pPeek ({ p with flags := (pDraw_J2 p L (x : Int) p.flags) } : Pic) L (bOr .u16 16128 (pDraw_J4 p L (x : Int))), ((bAnd .u8 (({ p with flags := (pDraw_J2 p L (x : Int) p.flags) } : Pic).mask) 1 : Int) != 0))) = _
  rw [hl, key, hg]; rfl
theorem lim_sprite {p : Pic} {l d : Nat} (h : St b p l d) (x : Nat) (hx : x < 256) (n : Nat) (hn : n ≤ 8) : (decide (onAt n x) = false ∧ pSpriteF p (lst sp 0 n) (x : Int) = (0, noMan)) ∨ (decide (onAt n x) = true ∧ ∃ s, s.look = 0 ∧ pSpriteF p (lst sp 0 n) (x : Int) = (3, s)) := by
  have hf := find_lst hx n 0 (by omega)
  have e : pSpriteF p (lst sp 0 n) (x : Int) = if onAt n x then (3, sp ((x - 8) / 10)) else (0, noMan) := by
    unfold pSpriteF
    rw [if_neg (by rw [h.mask, hb.mask, hb.m16]; decide), hf]
    by_cases c : onAt n x
    · have c' : 10 * 0 + 8 ≤ x ∧ onAt (0 + n) x := ⟨by have := c.1; omega, by rw [Nat.zero_add]; exact c⟩
      rw [if_neg (show ¬ (decide ((x : Int) < 8)) = true by have := c.1; simp; omega), if_pos c', if_pos c]
    · have c' : ¬ (10 * 0 + 8 ≤ x ∧ onAt (0 + n) x) := fun y => c (by have := y.2; rw [Nat.zero_add] at this; exact this)
      rw [if_neg c', if_neg c]
      split
      · split <;> rfl
      · rfl
  by_cases c : onAt n x
  · exact .inr ⟨decide_eq_true c, _, rfl, by rw [e, if_pos c]⟩
  · exact .inl ⟨decide_eq_false c, by rw [e, if_neg c]⟩
theorem lim_fetch {q : Pic} {d : Nat} (h : St b q 100 d) (i : Nat) (L : List Sprite) (hi : i < k) : pFetch q L ((4 * i : Nat) : Int) ((0 : Nat) : Int) = sp i := by
  have hk := hb.k19
  have e1 : q.men (Int.toNat (IntKind.i64.wrap (((4 * i : Nat) : Int) + 1))) = 0 := by
    rw [i64_s (by omega) (by omega), show Int.toNat (((4 * i : Nat) : Int) + 1) = 4 * i + 1 by omega, h.men, hb.men _ (by omega)]; unfold menF; rw [if_neg (by omega), if_neg (by omega)]
  have e2 : q.men (Int.toNat (IntKind.i64.wrap (((4 * i : Nat) : Int) + 2))) = 0 := by
    rw [i64_s (by omega) (by omega), show Int.toNat (((4 * i : Nat) : Int) + 2) = 4 * i + 2 by omega, h.men, hb.men _ (by omega)]; unfold menF; rw [if_neg (by omega), if_neg (by omega)]
  have e3 : q.men (Int.toNat (IntKind.i64.wrap (((4 * i : Nat) : Int) + 3))) = ((10 * i + 8 : Nat) : Int) := by
    rw [i64_s (by omega) (by omega), show Int.toNat (((4 * i : Nat) : Int) + 3) = 4 * i + 3 by omega, h.men, hb.men _ (by omega)]; unfold menF; rw [if_neg (by omega), if_pos (by omega)]; omega
  have e4 : ((((4 * i : Nat) : Int) : Int) == 0) = decide (i = 0) := by
    by_cases c : i = 0
    · subst c; rfl
    · rw [decide_eq_false c]; simp; omega
  have t0 : q.tiles 0 = 255 := by rw [h.tiles]; exact hb.tiles _ (by omega)
  have t8 : q.tiles 8 = 255 := by rw [h.tiles]; exact hb.tiles _ (by omega)
  have hc : q.control = 0 ∨ q.control = 32 := by rw [h.control]; exact hb.control
  unfold pFetch
  rw [e1, e2, e3, e4]
  rcases hc with hc | hc <;> rw [hc]
  · rw [if_neg (show ¬ ((bAnd .u8 0 128 : Int) != 0) = true by decide +kernel), if_neg (show ¬ ((bAnd .u8 0 32 : Int) != 0) = true by decide +kernel), if_neg (show ¬ ((bAnd .u8 0 8 : Int) != 0) = true by decide +kernel)]
    unfold sp
    rw [← t0]
    congr 1
    rw [t0, ← t8]
    congr 1
  · rw [if_neg (show ¬ ((bAnd .u8 0 128 : Int) != 0) = true by decide +kernel), if_pos (show ((bAnd .u8 32 32 : Int) != 0) = true by decide +kernel)]
    unfold sp
    rw [← t0]
    congr 1
    rw [t0, ← t8]
    congr 1

/-- A picture after u dots. -/
structure Lim (k : Nat) (b p : Pic) (L : List Sprite) (u : Nat) : Prop where
  st : St b p (u / 341) (u % 341)
  len : L.length ≤ 8
  early : u ≤ 34357 → L = [] ∧ p.flags = 0
  late : 34357 < u → p.flags = if 8 < k then 32 else 0
  chosen : 34357 < u → u ≤ 34698 → L = lst sp 0 (min k 8)
  seen : ∀ j, j < 256 → 34442 + j < u → p.screen (25856 + j) = if decide (onAt (min k 8) j) then 33 else 15

theorem lim_choose {q : Pic} {l : Nat} (h : St b q l 257) (hl : l ≤ 101) (L : List Sprite) :
    (l < 100 → (pChooseF q L true).2 = [] ∧ (pChooseF q L true).1.flags = q.flags) ∧
    (l = 100 → (pChooseF q L true).2 = lst sp 0 (min k 8) ∧ (pChooseF q L true).1.flags = if 8 < k then bOr .u8 q.flags 32 else q.flags) ∧
    (l = 101 → (pChooseF q L true).2.length ≤ 8 ∧ (pChooseF q L true).1.flags = if 8 < k then bOr .u8 q.flags 32 else q.flags) := by
  have hm : ∀ j, j < 256 → q.men j = menF k j := fun j hj => by rw [h.men]; exact hb.men j hj
  have e : pChooseF q L true = ((chooseL q 64 0 []).2, (chooseL q 64 0 []).1) := by
    unfold pChooseF
    rw [if_neg (by decide), if_neg (show ¬ (!(pShows q [])) = true by rw [mask_shows, h.mask, hb.mask, hb.m24]; decide)]
  have hk := hb.k19
  rw [e]
  refine ⟨fun hl' => ?_, fun hl' => ?_, fun hl' => ?_⟩
  · have := skip_all (q := q) (k := k) h.line (by omega) hm [] (.inl hl') 64 0 (by omega)
    rw [show 4 * 0 = 0 from rfl] at this
    rw [this]; exact ⟨rfl, rfl⟩
  · subst hl'
    have := choose_r (q := q) (k := k) (r := 0) (by omega) hk h.line hm (g := sp) (fun i L hi => lim_fetch hb h i L hi) 64 0 [] (by omega) (by omega) (by omega) rfl
    rw [show 4 * 0 = 0 from rfl] at this
    rw [this]; exact ⟨rfl, rfl⟩
  · subst hl'
    have := choose_r (q := q) (k := k) (r := 1) (by omega) hk h.line hm (g := fun i => pFetch q [] ((4 * i : Nat) : Int) ((1 : Nat) : Int)) (fun i L hi => rfl) 64 0 [] (by omega) (by omega) (by omega) rfl
    rw [show 4 * 0 = 0 from rfl] at this
    rw [this]; exact ⟨by show (([] : List Sprite) ++ _).length ≤ 8; rw [List.nil_append, lst_len]; omega, rfl⟩

theorem lim_step {p : Pic} {L : List Sprite} {u : Nat} (h : Lim k b p L u) (hu : u < 34782) : Lim k b (pClock p L).1 (pClock p L).2 (u + 1) := by
  have hl : u / 341 < 240 := by omega
  by_cases c1 : u % 341 = 0 ∨ 257 < u % 341
  · obtain ⟨a1, a2, a3, a4⟩ := clock_still h.st hl (by omega) L c1
    have e1 : (if u % 341 + 1 < 341 then u / 341 else u / 341 + 1) = (u + 1) / 341 := by split <;> omega
    have e2 : (if u % 341 + 1 < 341 then u % 341 + 1 else 0) = (u + 1) % 341 := by split <;> omega
    rw [e1, e2] at a2
    refine ⟨a2, by rw [a1]; exact h.len, fun hx => ?_, fun hx => ?_, fun hx hy => ?_, fun j hj hx => ?_⟩
    · rw [a1, a3]; exact h.early (by omega)
    · rw [a3]; exact h.late (by omega)
    · rw [a1]; exact h.chosen (by omega) (by omega)
    · rw [a4]; exact h.seen j hj (by omega)
  · by_cases c2 : u % 341 = 257
    · have hst := h.st
      rw [c2] at hst
      obtain ⟨q, b1, b2, b3, b4, b5, b6⟩ := clock_choose hst hl L
      obtain ⟨d1, d2, d3⟩ := lim_choose hb b1 (by omega) L
      rw [← b3, ← b5, b2] at d1 d2 d3
      rw [show (258 : Nat) = (u + 1) % 341 by omega, show u / 341 = (u + 1) / 341 by omega] at b4
      by_cases l1 : u / 341 < 100
      · obtain ⟨x1, x2⟩ := d1 l1
        obtain ⟨y1, y2⟩ := h.early (by omega)
        refine ⟨b4, by rw [x1]; exact Nat.zero_le _, fun hx => ⟨x1, by rw [x2]; exact y2⟩, fun hx => by omega, fun hx hy => by omega, fun j hj hx => by omega⟩
      · by_cases l2 : u / 341 = 100
        · obtain ⟨x1, x2⟩ := d2 l2
          obtain ⟨y1, y2⟩ := h.early (by omega)
          refine ⟨b4, by rw [x1, lst_len]; omega, fun hx => by omega, fun hx => ?_, fun hx hy => x1, fun j hj hx => by omega⟩
          rw [x2, y2, or32.1]
        · obtain ⟨x1, x2⟩ := d3 (by omega)
          have y2 := h.late (by omega)
          refine ⟨b4, x1, fun hx => by omega, fun hx => ?_, fun hx hy => by omega, fun j hj hx => by rw [b6]; exact h.seen j hj (by omega)⟩
          rw [x2, y2]
          by_cases c : 8 < k
          · rw [if_pos c, if_pos c, or32.2]
          · rw [if_neg c, if_neg c]
    · obtain ⟨a1, a2, a3, a4⟩ := clock_draw h.st hl L (by omega) (by omega)
      rw [show u % 341 + 1 = (u + 1) % 341 by omega, show u / 341 = (u + 1) / 341 by omega] at a2
      rw [lim_flags hb h.st] at a3
      refine ⟨a2, by rw [a1]; exact h.len, fun hx => ?_, fun hx => ?_, fun hx hy => ?_, fun j hj hx => ?_⟩
      · rw [a1, a3]; exact h.early (by omega)
      · rw [a3]; exact h.late (by omega)
      · rw [a1]; exact h.chosen (by omega) (by omega)
      · have hL := h.chosen (by omega) (by omega)
        have hs := lim_sprite hb h.st (u % 341 - 1) (by omega) (min k 8) (by omega)
        rw [← hL] at hs
        have hd := lim_draw hb h.st L (u % 341 - 1) (decide (onAt (min k 8) (u % 341 - 1))) hs
        rw [a4, hd]
        unfold upd
        by_cases e : j = u % 341 - 1
        · have : Nat.beq (25856 + j) (u / 341 * 256 + (u % 341 - 1)) = true := by rw [Nat.beq_eq]; omega
          rw [this, e]; rfl
        · have : Nat.beq (25856 + j) (u / 341 * 256 + (u % 341 - 1)) = false := by
            cases hq : Nat.beq (25856 + j) (u / 341 * 256 + (u % 341 - 1))
            · rfl
            · have := Nat.eq_of_beq_eq_true hq; omega
          rw [this]; exact h.seen j hj (by omega)

theorem lim_run {n mask : Int} {tall : Bool} {r1 : (List Sprite) × Int × Pic} {r2 : Int × Pic} : ∀ (c u : Nat) (p : Pic) (L : List Sprite), u + c = 34782 → Lim k b p L u →
    ∃ p' L', LoopR (lawLimits_L3y n mask tall r1 r2) (L, (u : Int), p) (L', 34782, p') ∧ Lim k b p' L' 34782
  | 0, u, p, L, hc, h => by
    have : u = 34782 := by omega
    subst this
    exact ⟨p, L, .last (.p2 (decide_eq_false (by show ¬ (((34782 : Nat) : Int) < 34782); omega))), h⟩
  | c + 1, u, p, L, hc, h => by
    obtain ⟨p', L', t, q⟩ := lim_run c (u + 1) _ _ (by omega) (lim_step hb h (by omega))
    refine ⟨p', L', .more (s' := ((pClock p L).2, ((u + 1 : Nat) : Int), (pClock p L).1)) ?_ t, q⟩
    have st := lawLimits_L3y.p1 (n := n) (mask := mask) (tall := tall) (r1 := r1) (r2 := r2) (xd := (L, (u : Int), p)) (decide_eq_true (by show (u : Int) < 34782; omega)) h.st.ok (by show 0 ≤ p.line; rw [h.st.line]; omega) h.len
    rw [show IntKind.i64.wrap (((L, (u : Int), p) : (List Sprite) × Int × Pic).2.1 + 1) = ((u + 1 : Nat) : Int) from by show IntKind.i64.wrap ((u : Int) + 1) = _; rw [i64_in2 (by omega) (by omega)]; omega] at st
    exact st
end

theorem k_of {n : Int} (wn : rng 256 n) : IntKind.i64.wrap (Int.tmod n 20) = (((n % 20).toNat : Nat) : Int) := by
  obtain ⟨a, b⟩ := wn
  rw [Int.tmod_eq_emod_of_nonneg a, i64_in2 (by omega) (by omega)]; omega

/-- The line is told right. -/
theorem lim_look {n mask : Int} {tall : Bool} {r1 r3 : (List Sprite) × Int × Pic} {r2 : Int × Pic} {k : Nat} (hk : IntKind.i64.wrap (Int.tmod n 20) = (k : Int)) (hk19 : k ≤ 19) (hs : ∀ j, j < 256 → r3.2.2.screen (25856 + j) = if decide (onAt (min k 8) j) then 33 else 15) (bb : Bool) : ∀ (c x : Nat), x + c = 256 →
    LoopR (lawLimits_L4y n mask tall r1 r2 r3) ((x : Int), bb) (.inl (256, bb))
  | 0, x, hc => by
    have : x = 256 := by omega
    subst this
    exact .last (.p11 (decide_eq_false (by show ¬ (((256 : Nat) : Int) < 256); omega)))
  | c + 1, x, hc => by
    have ih := lim_look (mask := mask) (tall := tall) (r1 := r1) (r2 := r2) hk hk19 hs bb c (x + 1) (by omega)
    refine .more (s' := (((x + 1 : Nat) : Int), bb)) ?_ ih
    have w1 : IntKind.i64.wrap ((x : Int) + 1) = ((x + 1 : Nat) : Int) := by rw [i64_in2 (by omega) (by omega)]; omega
    have d1 : (decide (((x : Int), bb).1 < 256)) = true := decide_eq_true (by show (x : Int) < 256; omega)
    have hv : r3.2.2.screen (Int.toNat 101 * 256 + Int.toNat ((x : Int), bb).1) = if decide (onAt (min k 8) x) then 33 else 15 := by
      rw [show Int.toNat 101 * 256 + Int.toNat ((x : Int), bb).1 = 25856 + x by show Int.toNat 101 * 256 + Int.toNat (x : Int) = _; omega]; exact hs x (by omega)
    by_cases c2 : 8 ≤ x
    · have d2 : (decide (((x : Int), bb).1 ≥ 8)) = true := decide_eq_true (by show (x : Int) ≥ 8; omega)
      have e8 : IntKind.i64.wrap (((x : Int), bb).1 - 8) = ((x - 8 : Nat) : Int) := by show IntKind.i64.wrap ((x : Int) - 8) = _; rw [i64_in2 (by omega) (by omega)]; omega
      have eq_ : IntKind.i64.wrap (Int.tdiv (IntKind.i64.wrap (((x : Int), bb).1 - 8)) 10) = (((x - 8) / 10 : Nat) : Int) := by
        rw [e8, Int.tdiv_eq_ediv_of_nonneg (by omega), i64_in2 (by omega) (by omega)]; omega
      have er : Int.tmod (IntKind.i64.wrap (((x : Int), bb).1 - 8)) 10 = (((x - 8) % 10 : Nat) : Int) := by
        rw [e8, Int.tmod_eq_emod_of_nonneg (by omega)]; omega
      have em : (if 8 < IntKind.i64.wrap (Int.tmod n 20) then (8 : Int) else IntKind.i64.wrap (Int.tmod n 20)) = ((min k 8 : Nat) : Int) := by
        rw [hk]; split <;> omega
      by_cases c3 : (x - 8) / 10 < min k 8
      · have d3 : (decide (IntKind.i64.wrap (Int.tdiv (IntKind.i64.wrap (((x : Int), bb).1 - 8)) 10) < (if 8 < IntKind.i64.wrap (Int.tmod n 20) then 8 else IntKind.i64.wrap (Int.tmod n 20)))) = true := by
          rw [eq_, em]; exact decide_eq_true (by omega)
        by_cases c4 : (x - 8) % 10 < 8
        · have d4 : (decide (Int.tmod (IntKind.i64.wrap (((x : Int), bb).1 - 8)) 10 < 8)) = true := by rw [er]; exact decide_eq_true (by omega)
          have ho : onAt (min k 8) x := ⟨c2, c3, c4⟩
          have st := lawLimits_L4y.p3 (n := n) (mask := mask) (tall := tall) (r1 := r1) (r2 := r2) (r3 := r3) (xd := ((x : Int), bb)) d1 (by show 0 ≤ (x : Int); omega) d2 d3 d4 (by show (r3.2.2.screen _ != 33) = false; rw [hv, if_pos (decide_eq_true ho)]; rfl) (by rw [d4]; rfl)
          rw [show IntKind.i64.wrap (((x : Int), bb).1 + 1) = ((x + 1 : Nat) : Int) from w1] at st
          exact st
        · have d4 : (decide (Int.tmod (IntKind.i64.wrap (((x : Int), bb).1 - 8)) 10 < 8)) = false := by rw [er]; exact decide_eq_false (by omega)
          have ho : ¬ onAt (min k 8) x := fun h => c4 h.2.2
          have st := lawLimits_L4y.p5 (n := n) (mask := mask) (tall := tall) (r1 := r1) (r2 := r2) (r3 := r3) (xd := ((x : Int), bb)) d1 (by show 0 ≤ (x : Int); omega) d2 d3 d4 (by rw [d4]; rfl) (by show (r3.2.2.screen _ != 15) = false; rw [hv, if_neg (by simpa using ho)]; rfl)
          rw [show IntKind.i64.wrap (((x : Int), bb).1 + 1) = ((x + 1 : Nat) : Int) from w1] at st
          exact st
      · have d3 : (decide (IntKind.i64.wrap (Int.tdiv (IntKind.i64.wrap (((x : Int), bb).1 - 8)) 10) < (if 8 < IntKind.i64.wrap (Int.tmod n 20) then 8 else IntKind.i64.wrap (Int.tmod n 20)))) = false := by
          rw [eq_, em]; exact decide_eq_false (by omega)
        have ho : ¬ onAt (min k 8) x := fun h => c3 h.2.1
        have st := lawLimits_L4y.p8 (n := n) (mask := mask) (tall := tall) (r1 := r1) (r2 := r2) (r3 := r3) (xd := ((x : Int), bb)) d1 (by show 0 ≤ (x : Int); omega) d2 d3 (by show (r3.2.2.screen _ != 15) = false; rw [hv, if_neg (by simpa using ho)]; rfl)
        rw [show IntKind.i64.wrap (((x : Int), bb).1 + 1) = ((x + 1 : Nat) : Int) from w1] at st
        exact st
    · have d2 : (decide (((x : Int), bb).1 ≥ 8)) = false := decide_eq_false (by show ¬ ((x : Int) ≥ 8); omega)
      have ho : ¬ onAt (min k 8) x := fun h => c2 h.1
      have st := lawLimits_L4y.p10 (n := n) (mask := mask) (tall := tall) (r1 := r1) (r2 := r2) (r3 := r3) (xd := ((x : Int), bb)) d1 (by show 0 ≤ (x : Int); omega) d2 (by show (r3.2.2.screen _ != 15) = false; rw [hv, if_neg (by simpa using ho)]; rfl)
      rw [show IntKind.i64.wrap (((x : Int), bb).1 + 1) = ((x + 1 : Nat) : Int) from w1] at st
      exact st

/-- The tiles are laid. -/
theorem lim_tiles {n mask : Int} {tall : Bool} : ∀ (c i : Nat) (t : Nat → Int), i + c = 16 → (∀ j, j < i → t j = 255) → Pic.ok ({ picZero with tiles := t } : Pic) →
    ∃ t', LoopR (fun s_ r_ => lawLimits_L1 n mask tall s_ = r_) ([], (i : Int), ({ picZero with tiles := t } : Pic)) ([], 16, ({ picZero with tiles := t' } : Pic)) ∧ (∀ j, j < 16 → t' j = 255) ∧ Pic.ok ({ picZero with tiles := t' } : Pic)
  | 0, i, t, hc, ht, hok => by
    have : i = 16 := by omega
    subst this
    refine ⟨t, .last ?_, ht, hok⟩
    show lawLimits_L1 n mask tall _ = _
    unfold lawLimits_L1
    rw [if_neg (by show ¬ decide (((16 : Nat) : Int) < 16) = true; decide)]; rfl
  | c + 1, i, t, hc, ht, hok => by
    have e1 : pPoke ({ picZero with tiles := t } : Pic) [] (i : Int) 255 = ({ picZero with tiles := upd t i 255 } : Pic) := poke_lo (by omega) 255
    have e2 : pPoke ({ picZero with tiles := upd t i 255 } : Pic) [] ((16 + i : Nat) : Int) 255 = ({ picZero with tiles := upd (upd t i 255) (16 + i) 255 } : Pic) := poke_lo (by omega) 255
    have w : IntKind.u16.wrap (16 + (i : Int)) = ((16 + i : Nat) : Int) := by rw [IntKind.wrap_u16]; omega
    have w2 : IntKind.u16.wrap ((i : Int) + 1) = ((i + 1 : Nat) : Int) := by rw [IntKind.wrap_u16]; omega
    have ok1 := pPoke_w _ ([] : List Sprite) (i : Int) 255 hok ⟨by omega, by show (i : Int) < ((65536 : Nat) : Int); omega⟩ (by decide)
    have ok2 := pPoke_w _ ([] : List Sprite) ((16 + i : Nat) : Int) 255 ok1 ⟨by omega, by show ((16 + i : Nat) : Int) < ((65536 : Nat) : Int); omega⟩ (by decide)
    rw [e1, e2] at ok2
    obtain ⟨t', l, a, b⟩ := lim_tiles (n := n) (mask := mask) (tall := tall) c (i + 1) (upd (upd t i 255) (16 + i) 255) (by omega) (fun j hj => by
      unfold upd
      by_cases h1 : j = i
      · subst h1
        cases Nat.beq j (16 + j) <;> simp
      · cases h2 : Nat.beq j (16 + i)
        · cases h3 : Nat.beq j i
          · exact ht j (by omega)
          · rfl
        · rfl) ok2
    refine ⟨t', .more ?_ l, a, b⟩
    show lawLimits_L1 n mask tall _ = _
    unfold lawLimits_L1
    rw [if_pos (by show decide ((i : Int) < 16) = true; exact decide_eq_true (by omega))]
    show (Sum.inl (([] : List Sprite), IntKind.u16.wrap ((i : Int) + 1), pPoke (pPoke ({ picZero with tiles := t } : Pic) [] (i : Int) 255) [] (IntKind.u16.wrap (16 + (i : Int))) 255) : ((List Sprite) × Int × Pic) ⊕ ((List Sprite) × Int × Pic)) = _
    rw [e1, w, e2, w2]

/-- The sprites are laid. -/
theorem lim_men {n mask : Int} {tall : Bool} {r1 : (List Sprite) × Int × Pic} (hr : r1.1 = []) {k : Nat} (hk : IntKind.i64.wrap (Int.tmod n 20) = (k : Int)) {P : Pic} : ∀ (c i : Nat) (p : Pic), i + c = 64 → Laid P (menF k) (4 * i) p →
    ∃ p', LoopR (lawLimits_L2 n mask tall r1) ((i : Int), p) (64, p') ∧ Laid P (menF k) 256 p'
  | 0, i, p, hc, h => by
    have : i = 64 := by omega
    subst this
    exact ⟨p, .last (.p3 (decide_eq_false (by show ¬ (((64 : Nat) : Int) < 64); omega))), h⟩
  | c + 1, i, p, hc, h => by
    have w : IntKind.i64.wrap ((i : Int) + 1) = ((i + 1 : Nat) : Int) := by rw [i64_in2 (by omega) (by omega)]; omega
    have v : IntKind.u8.wrap (IntKind.i64.wrap (IntKind.i64.wrap (10 * (i : Int)) + 8)) = (((10 * i + 8) % 256 : Nat) : Int) := by
      rw [i64_in2 (x := 10 * (i : Int)) (by omega) (by omega), i64_in2 (by omega) (by omega), IntKind.wrap_u8]; omega
    have d1 : (decide (((i : Int), p).1 < 64)) = true := decide_eq_true (by show (i : Int) < 64; omega)
    have f0 : menF k (4 * i) = if i < k then 100 else 255 := by unfold menF; rw [if_pos (by omega), show 4 * i / 4 = i by omega]
    have f1 : menF k (4 * i + 1) = 0 := by unfold menF; rw [if_neg (by omega), if_neg (by omega)]
    have f2 : menF k (4 * i + 1 + 1) = 0 := by unfold menF; rw [if_neg (by omega), if_neg (by omega)]
    have f3 : menF k (4 * i + 1 + 1 + 1) = (((10 * i + 8) % 256 : Nat) : Int) := by unfold menF; rw [if_neg (by omega), if_pos (by omega), show (4 * i + 1 + 1 + 1) / 4 = i by omega]
    have wv : rng 256 (((10 * i + 8) % 256 : Nat) : Int) := ⟨by omega, by show _ < ((256 : Nat) : Int); omega⟩
    by_cases ci : i < k
    · have q := laid_put (laid_put (laid_put (laid_put h (by omega) (b := 100) (by rw [f0, if_pos ci]) (by decide)) (by omega) (b := 0) f1.symm (by decide)) (by omega) (b := 0) f2.symm (by decide)) (by omega) (b := (((10 * i + 8) % 256 : Nat) : Int)) f3.symm wv
      rw [show 4 * i + 1 + 1 + 1 + 1 = 4 * (i + 1) by omega] at q
      obtain ⟨p', l, a⟩ := lim_men (mask := mask) (tall := tall) hr hk c (i + 1) _ (by omega) q
      refine ⟨p', .more ?_ l, a⟩
      have st := lawLimits_L2.p2 (n := n) (mask := mask) (tall := tall) (r1 := r1) (xd := ((i : Int), p)) d1 (decide_eq_false (by show ¬ ((i : Int) ≥ _); rw [hk]; omega)) h.ok
      simp only [hr, w, v] at st
      exact st
    · have q := laid_put (laid_put (laid_put (laid_put h (by omega) (b := 255) (by rw [f0, if_neg ci]) (by decide)) (by omega) (b := 0) f1.symm (by decide)) (by omega) (b := 0) f2.symm (by decide)) (by omega) (b := (((10 * i + 8) % 256 : Nat) : Int)) f3.symm wv
      rw [show 4 * i + 1 + 1 + 1 + 1 = 4 * (i + 1) by omega] at q
      obtain ⟨p', l, a⟩ := lim_men (mask := mask) (tall := tall) hr hk c (i + 1) _ (by omega) q
      refine ⟨p', .more ?_ l, a⟩
      have st := lawLimits_L2.p1 (n := n) (mask := mask) (tall := tall) (r1 := r1) (xd := ((i : Int), p)) d1 (decide_eq_true (by show (i : Int) ≥ _; rw [hk]; omega)) h.ok
      simp only [hr, w, v] at st
      exact st

def mkB (n : Nat) : Bool := let mk := bOr .u8 16 (bAnd .u8 (n : Int) 6); ((bAnd .u8 mk 8 : Int) == 0) && !((bAnd .u8 mk 16 : Int) == 0) && ((bAnd .u8 mk 24 : Int) != 0) && !((bAnd .u8 mk 1 : Int) != 0)
theorem mk_all : allN mkB 8 0 = true := by kernel_rfl
theorem mk_of {m : Int} (w : rng 256 m) : ((bAnd .u8 (bOr .u8 16 (bAnd .u8 m 6)) 8 : Int) == 0) = true ∧ ((bAnd .u8 (bOr .u8 16 (bAnd .u8 m 6)) 16 : Int) == 0) = false ∧ ((bAnd .u8 (bOr .u8 16 (bAnd .u8 m 6)) 24 : Int) != 0) = true ∧ ((bAnd .u8 (bOr .u8 16 (bAnd .u8 m 6)) 1 : Int) != 0) = false := by
  have h := allN_int mk_all m w.1 (by have := w.2; simpa using this)
  unfold mkB at h
  rw [Int.toNat_of_nonneg w.1] at h
  simp only [Bool.and_eq_true, Bool.not_eq_true'] at h
  exact ⟨h.1.1.1, h.1.1.2, h.1.2, h.2⟩
def g32B (n : Nat) : Bool := ((bAnd .u8 (bOr .u8 32 (bAnd .u8 (n : Int) 31)) 32 : Int) != 0) && !((bAnd .u8 (bOr .u8 0 (bAnd .u8 (n : Int) 31)) 32 : Int) != 0)
theorem g32_all : allN g32B 8 0 = true := by kernel_rfl
theorem g32_of {m : Int} (w : rng 256 m) : ((bAnd .u8 (bOr .u8 32 (bAnd .u8 m 31)) 32 : Int) != 0) = true ∧ ((bAnd .u8 (bOr .u8 0 (bAnd .u8 m 31)) 32 : Int) != 0) = false := by
  have h := allN_int g32_all m w.1 (by have := w.2; simpa using this)
  unfold g32B at h
  rw [Int.toNat_of_nonneg w.1] at h
  simp only [Bool.and_eq_true, Bool.not_eq_true'] at h
  exact h
theorem poke_pal {p : Pic} : pPoke (pPoke p [] 16147 33) [] 16128 15 = ({ p with colours := upd (upd p.colours 19 33) 0 15 } : Pic) := by
  have e1 : pPoke p [] 16147 33 = ({ p with colours := upd p.colours 19 33 } : Pic) := by
    unfold pPoke
    rw [if_pos (show (decide ((bAnd .u16 16147 16383 : Int) ≥ 16128)) = true by decide +kernel), if_neg (show ¬ (decide ((bAnd .u16 16147 16383 : Int) < 8192)) = true by decide +kernel), if_neg (show ¬ (decide ((bAnd .u16 16147 16383 : Int) < 16128)) = true by decide +kernel),
      show Int.toNat (colour (bAnd .u16 16147 16383)) = 19 by kernel_rfl, show bAnd .u8 33 63 = 33 by kernel_rfl]
  rw [e1]
  unfold pPoke
  rw [if_pos (show (decide ((bAnd .u16 16128 16383 : Int) ≥ 16128)) = true by decide +kernel), if_neg (show ¬ (decide ((bAnd .u16 16128 16383 : Int) < 8192)) = true by decide +kernel), if_neg (show ¬ (decide ((bAnd .u16 16128 16383 : Int) < 16128)) = true by decide +kernel),
    show Int.toNat (colour (bAnd .u16 16128 16383)) = 0 by kernel_rfl, show bAnd .u8 15 63 = 15 by kernel_rfl]

theorem get32 {p : Pic} {L : List Sprite} (h : Pic.ok p) (k : Nat) (hf : p.flags = if 8 < k then 32 else 0) : ((bAnd .u8 (pGet p L 2).2 32 : Int) != 0) = decide (8 < k) := by
  have e : (pGet p L 2).2 = bOr .u8 p.flags (bAnd .u8 p.bus 31) := by unfold pGet; rw [if_pos (show ((Int.tmod 2 8 : Int) == 2) = true from by decide)]
  obtain ⟨g1, g2⟩ := g32_of h.bus
  rw [e, hf]
  by_cases c : 8 < k
  · rw [if_pos c, g1]; simp [c]
  · rw [if_neg c, g2]; simp [c]

theorem limits_true (n mask : Int) (tall : Bool) (wn : rng 256 n) (wm : rng 256 mask) : FnSpec Try.prog 6 1000 [.int .u8 n, .int .u8 mask, .bool tall] [] (.bool true) [] := by
  have hk := k_of wn
  generalize hkk : (n % 20).toNat = k at hk
  have hk19 : k ≤ 19 := by have := wn.1; omega
  obtain ⟨t, l1, ht, tok⟩ := lim_tiles (n := n) (mask := mask) (tall := tall) 16 0 (fun _ => 0) (by omega) (fun j hj => by omega) zero_ok
  have pok : Pic.ok (pPoke (pPoke ({ picZero with tiles := t } : Pic) [] 16147 33) [] 16128 15) := pPoke_w _ _ _ _ (pPoke_w _ _ _ _ tok (by decide) (by decide)) (by decide) (by decide)
  have hpp := poke_pal (p := ({ picZero with tiles := t } : Pic))
  generalize hP : pPoke (pPoke ({ picZero with tiles := t } : Pic) [] 16147 33) [] 16128 15 = P at *
  obtain ⟨p2, l2, hl2⟩ := lim_men (n := n) (mask := mask) (tall := tall) (r1 := ([], 16, ({ picZero with tiles := t } : Pic))) rfl hk (P := P) 64 0 P (by omega) ⟨⟨P.men, P.bus, by rw [hpp]; rfl, fun j hj => by omega⟩, pok⟩
  obtain ⟨m1, m2, m3, m4⟩ := mk_of wm
  have wmk : rng 256 (bOr .u8 16 (bAnd .u8 mask 6)) := rng_bOr_u8 _ _
  generalize hmk : bOr .u8 16 (bAnd .u8 mask 6) = mk at *
  obtain ⟨mm, z, e2, hm⟩ := hl2.ex
  have base : ∀ (c : Int) (s : Scroll) (z' : Int), (c = 0 ∨ c = 32) → LimB k mk ({ P with men := mm, man := 0, bus := mk, scroll := s, control := c, mask := mk } : Pic) := by
    intro c s z' hc
    exact ⟨by rw [hpp]; exact ht, hm, by rw [hpp]; rfl, by rw [hpp]; rfl, hc, rfl, m1, m2, m3, m4, hk19⟩
  have start : ∀ b : Pic, b.scroll.X = 0 → b.line = 0 → b.dot = 0 → b.odd = false → b.flags = 0 → Pic.ok b → Lim k b b [] 0 := fun b h1 h2 h3 h4 h5 h6 =>
    ⟨⟨rfl, rfl, rfl, rfl, rfl, rfl, rfl, rfl, h1, h2, h3, h4, h6⟩, Nat.zero_le _, fun _ => ⟨rfl, h5⟩, fun h => by omega, fun h => by omega, fun j hj h => by omega⟩
  have fin : ∀ {p : Pic} {b : Pic} {L : List Sprite}, Lim k b p L 34782 → ((((bAnd .u8 ((pGet p L 2).2) 32) : Int) != 0) == (decide (((IntKind.i64.wrap (Int.tmod n 20)) : Int) > 8))) = true := by
    intro p b L h
    rw [get32 h.st.ok k (h.late (by omega)), hk]
    by_cases c : 8 < k
    · have : ((k : Int) > 8) := by omega
      simp [c, this]
    · have : ¬ ((k : Int) > 8) := by omega
      simp [c, this]
  have hp2X : p2.scroll = { V := 0, T := 0, X := 0, W := false } ∧ p2.line = 0 ∧ p2.dot = 0 ∧ p2.odd = false ∧ p2.flags = 0 := by rw [e2, hpp]; exact ⟨rfl, rfl, rfl, rfl, rfl⟩
  cases tall with
  | true =>
    have eb : pPut (pPut p2 [] 0 32) [] 1 mk = ({ P with men := mm, man := 0, bus := mk, scroll := sControl p2.scroll 32, control := 32, mask := mk } : Pic) := by
      rw [put1, put0, e2]; rfl
    have hok := pPut_w (pPut p2 [] 0 32) [] 1 mk (pPut_w p2 [] 0 32 hl2.ok (by decide) (by decide)) (by decide) wmk
    have hbase := base 32 (sControl p2.scroll 32) 0 (.inr rfl)
    rw [eb] at hok
    obtain ⟨p3, L3, l3, q3⟩ := lim_run hbase (n := n) (mask := mask) (tall := true) (r1 := ([], 16, ({ picZero with tiles := t } : Pic))) (r2 := (64, p2)) 34782 0 _ [] (by omega) (start _ (by show (sControl p2.scroll 32).X = 0; rw [hp2X.1]; kernel_rfl) (by rw [hpp]; rfl) (by rw [hpp]; rfl) (by rw [hpp]; rfl) (by rw [hpp]; rfl) hok)
    have l4 := lim_look (n := n) (mask := mask) (tall := true) (r1 := ([], 16, ({ picZero with tiles := t } : Pic))) (r2 := (64, p2)) (r3 := (L3, 34782, p3)) hk hk19 (fun j hj => q3.seen j hj (by omega)) false 256 0 (by omega)
    rw [← eb] at l3
    have r := lawLimits_p1 n mask true ([], 16, ({ picZero with tiles := t } : Pic)) l1 (64, p2) (by subst hP; exact l2) rfl hl2.ok (L3, 34782, p3) (by rw [hmk]; exact l3) (256, false) l4 q3.st.ok
    rw [fin q3] at r
    exact r
  | false =>
    have eb : pPut p2 [] 1 mk = ({ P with men := mm, man := 0, bus := mk, scroll := p2.scroll, control := 0, mask := mk } : Pic) := by
      rw [put1, e2, hpp]; rfl
    have hok := pPut_w p2 [] 1 mk hl2.ok (by decide) wmk
    have hbase := base 0 p2.scroll 0 (.inl rfl)
    rw [eb] at hok
    obtain ⟨p3, L3, l3, q3⟩ := lim_run hbase (n := n) (mask := mask) (tall := false) (r1 := ([], 16, ({ picZero with tiles := t } : Pic))) (r2 := (64, p2)) 34782 0 _ [] (by omega) (start _ (by show p2.scroll.X = 0; rw [hp2X.1]) (by rw [hpp]; rfl) (by rw [hpp]; rfl) (by rw [hpp]; rfl) (by rw [hpp]; rfl) hok)
    have l4 := lim_look (n := n) (mask := mask) (tall := false) (r1 := ([], 16, ({ picZero with tiles := t } : Pic))) (r2 := (64, p2)) (r3 := (L3, 34782, p3)) hk hk19 (fun j hj => q3.seen j hj (by omega)) false 256 0 (by omega)
    rw [← eb] at l3
    have r := lawLimits_p3 n mask false ([], 16, ({ picZero with tiles := t } : Pic)) l1 (64, p2) (by subst hP; exact l2) rfl hl2.ok (L3, 34782, p3) (by rw [hmk]; exact l3) (256, false) l4 q3.st.ok
    rw [fin q3] at r
    exact r
end Go.Proofs.Ytgnhhnmpeklciaa
