/-
  The picture: how a scene of few sprites is laid; what is chosen of it. No condition.
-/
import Derived.Test.YtgnhhnmpeklciaaQB
import Derived.Test.YtgnhhnmpeklciaaPJ
namespace Go.Proofs.Ytgnhhnmpeklciaa
open Go VX
set_option linter.unusedVariables false
set_option linter.unusedSimpArgs false
set_option maxRecDepth 100000

theorem i64_s {x : Int} (h0 : -100000 ≤ x) (h : x < 100000) : IntKind.i64.wrap x = x := by rw [IntKind.wrap_i64]; omega
theorem w100 : IntKind.i64.wrap 100 = 100 := by rw [IntKind.wrap_i64]; omega
theorem w255 : IntKind.i64.wrap 255 = 255 := by rw [IntKind.wrap_i64]; omega
theorem u8_s {x : Int} (h0 : 0 ≤ x) (h : x < 256) : IntKind.u8.wrap x = x := by rw [IntKind.wrap_u8]; omega
def pkB (n : Nat) : Bool := bAnd .u16 (n : Int) 16383 == (n : Int)
theorem pk_all : allN pkB 5 0 = true := by kernel_rfl
theorem pk_of {i : Nat} (h : i < 32) : bAnd .u16 (i : Int) 16383 = (i : Int) := by
  have := allN_int pk_all (i : Int) (by omega) (by show (i : Int) < ((2 ^ 5 : Nat) : Int); omega)
  simpa [pkB] using this
theorem poke_lo {p : Pic} {i : Nat} (hi : i < 32) (b : Int) : pPoke p [] (i : Int) b = { p with tiles := upd p.tiles i b } := by
  unfold pPoke
  rw [pk_of hi, if_neg (by simp; omega), if_pos (by simp; omega)]
  rfl
theorem put4 (p : Pic) (b : Int) : pPut p [] 4 b = { p with men := upd p.men (Int.toNat p.man) b, man := IntKind.u8.wrap (p.man + 1), bus := b } := by
  unfold pPut
  rw [if_neg (show ¬ ((Int.tmod 4 8 : Int) == 0) = true by decide), if_neg (show ¬ ((Int.tmod 4 8 : Int) == 1) = true by decide), if_neg (show ¬ ((Int.tmod 4 8 : Int) == 3) = true by decide), if_pos (show ((Int.tmod 4 8 : Int) == 4) = true by decide)]
theorem put1 (p : Pic) (b : Int) : pPut p [] 1 b = { p with mask := b, bus := b } := by
  unfold pPut
  rw [if_neg (show ¬ ((Int.tmod 1 8 : Int) == 0) = true by decide), if_pos (show ((Int.tmod 1 8 : Int) == 1) = true by decide)]
theorem put0 (p : Pic) (b : Int) : pPut p [] 0 b = { p with scroll := sControl p.scroll b, control := b, bus := b } := by
  unfold pPut
  rw [if_pos (show ((Int.tmod 0 8 : Int) == 0) = true by decide)]

/-- The sprites' bytes, laid one behind the other. -/
structure Laid (P : Pic) (f : Nat → Int) (c : Nat) (p : Pic) : Prop where
  ex : ∃ m z, p = { P with men := m, man := ((c % 256 : Nat) : Int), bus := z } ∧ ∀ j, j < c → m j = f j
  ok : Pic.ok p
theorem laid_put {P : Pic} {f : Nat → Int} {c : Nat} {p : Pic} (h : Laid P f c p) (hc : c < 256) {b : Int} (hb : b = f c) (w : rng 256 b) : Laid P f (c + 1) (pPut p [] 4 b) := by
  have hok := pPut_w p [] 4 b h.ok (by decide) w
  obtain ⟨m, z, e, hm⟩ := h.ex
  refine ⟨?_, hok⟩
  rw [put4, e]
  refine ⟨upd m c b, b, ?_, ?_⟩
  · have e1 : Int.toNat ((c % 256 : Nat) : Int) = c := by omega
    have e2 : IntKind.u8.wrap (((c % 256 : Nat) : Int) + 1) = (((c + 1) % 256 : Nat) : Int) := by rw [IntKind.wrap_u8]; omega
    show (⟨_, _, _, upd m (Int.toNat ((c % 256 : Nat) : Int)) b, IntKind.u8.wrap (((c % 256 : Nat) : Int) + 1), _, _, _, _, _, _, _, _, _, _, _, _⟩ : Pic) = _
    rw [e1, e2]
  · intro j hj
    unfold upd
    by_cases e : j = c
    · subst e; simp [hb]
    · have : Nat.beq j c = false := by
        cases h : Nat.beq j c
        · rfl
        · exact absurd (Nat.eq_of_beq_eq_true h) e
      rw [this]; exact hm j (by omega)

/-- A sprite of full tiles. -/
def sp (i : Nat) : Sprite := ⟨255, 255, 0, ((10 * i + 8 : Nat) : Int), decide (i = 0)⟩
def lst (g : Nat → Sprite) : Nat → Nat → List Sprite
  | _, 0 => []
  | i, n + 1 => g i :: lst g (i + 1) n
/-- Y of the sprites: k of them on line 100. -/
def menF (k : Nat) (j : Nat) : Int := if j % 4 = 0 then (if j / 4 < k then 100 else 255) else if j % 4 = 3 then (((10 * (j / 4) + 8) % 256 : Nat) : Int) else 0

theorem skip_all {q : Pic} {k : Nat} {l : Nat} (hl : q.line = (l : Int)) (hl2 : l < 240) (hm : ∀ j, j < 256 → q.men j = menF k j) (L : List Sprite) (hs : l < 100 ∨ 0 = 1) : ∀ n i, i + n = 64 → chooseL q n (4 * i) L = (L, q)
  | 0, i, h => rfl
  | n + 1, i, h => by
    have e : q.men (4 * i) = menF k (4 * i) := hm _ (by omega)
    have hv : menF k (4 * i) = 100 ∨ menF k (4 * i) = 255 := by
      unfold menF; rw [if_pos (by omega)]; split
      · exact .inl rfl
      · exact .inr rfl
    have hneg : IntKind.i64.wrap (q.line - IntKind.i64.wrap (q.men (4 * i))) < 0 := by
      rw [e, hl]
      rcases hv with h | h
      · rw [h, w100, i64_s (by omega) (by omega)]; omega
      · rw [h, w255, i64_s (by omega) (by omega)]; omega
    unfold chooseL
    rw [if_pos hneg, show 4 * i + 4 = 4 * (i + 1) by omega]
    exact skip_all hl hl2 hm L hs n (i + 1) (by omega)
theorem skip_rest {q : Pic} {k : Nat} {l : Nat} (hl : q.line = (l : Int)) (hl2 : l < 240) (hm : ∀ j, j < 256 → q.men j = menF k j) (L : List Sprite) : ∀ n i, i + n = 64 → k ≤ i → chooseL q n (4 * i) L = (L, q)
  | 0, i, h, hk => rfl
  | n + 1, i, h, hk => by
    have e : q.men (4 * i) = menF k (4 * i) := hm _ (by omega)
    have hv : menF k (4 * i) = 255 := by
      unfold menF; rw [if_pos (by omega), if_neg (by omega)]
    have hneg : IntKind.i64.wrap (q.line - IntKind.i64.wrap (q.men (4 * i))) < 0 := by
      rw [e, hl, hv, w255, i64_s (by omega) (by omega)]; omega
    unfold chooseL
    rw [if_pos hneg, show 4 * i + 4 = 4 * (i + 1) by omega]
    exact skip_rest hl hl2 hm L n (i + 1) (by omega) (by omega)
/-- What is chosen on a line that the sprites of line 100 reach. -/
theorem choose_r {q : Pic} {k r : Nat} (hr : r < 8) (hk : k ≤ 19) (hl : q.line = ((100 + r : Nat) : Int)) (hm : ∀ j, j < 256 → q.men j = menF k j) {g : Nat → Sprite} (hg : ∀ i L, i < k → pFetch q L ((4 * i : Nat) : Int) (r : Int) = g i) :
    ∀ n i (L : List Sprite), i + n = 64 → i ≤ k → i ≤ 8 → L.length = i → chooseL q n (4 * i) L = (L ++ lst g i (min k 8 - i), { q with flags := if 8 < k then bOr .u8 q.flags 32 else q.flags })
  | 0, i, L, h, h1, h2, h3 => by omega
  | n + 1, i, L, h, h1, h2, h3 => by
    by_cases hik : i = k
    · rw [skip_rest hl (by omega) hm L (n + 1) i h (by omega), if_neg (by omega), show min k 8 - i = 0 by omega]
      simp [lst]
    · have e : q.men (4 * i) = 100 := by
        rw [hm _ (by omega)]; unfold menF; rw [if_pos (by omega), if_pos (by omega)]
      have hrow : IntKind.i64.wrap (q.line - IntKind.i64.wrap (q.men (4 * i))) = (r : Int) := by
        rw [e, hl, i64_s (x := 100) (by omega) (by omega), i64_s (by omega) (by omega)]; omega
      have hh : ¬ ((r : Int) ≥ pHeight q L) := by
        rcases pHeight_le q L with h | h <;> rw [h] <;> omega
      unfold chooseL
      rw [hrow, if_neg (by omega), if_neg hh]
      by_cases h8 : i = 8
      · rw [if_pos (by omega), if_pos (by omega), show min k 8 - i = 0 by omega]
        simp [lst]
      · rw [if_neg (by omega), hg i L (by omega), show 4 * i + 4 = 4 * (i + 1) by omega,
          choose_r hr hk hl hm hg n (i + 1) (L ++ [g i]) (by omega) (by omega) (by omega) (by simp [h3]), show min k 8 - i = (min k 8 - (i + 1)) + 1 by omega]
        simp [lst]

theorem two_full : ∀ a : Fin 8, two 255 255 ((a : Nat) : Int) = 3 := by decide +kernel
theorem man_at {i x : Nat} (hi : i < 8) (hx : x < 256) : manNo (sp i) (x : Int) = if 10 * i + 8 ≤ x ∧ x < 10 * i + 16 then 3 else 0 := by
  have e : manAt (sp i) (x : Int) = (x : Int) - ((10 * i + 8 : Nat) : Int) := by
    unfold manAt sp
    rw [i64_s (x := ((10 * i + 8 : Nat) : Int)) (by omega) (by omega), i64_s (by omega) (by omega)]
  unfold manNo
  rw [e]
  by_cases c : 10 * i + 8 ≤ x ∧ x < 10 * i + 16
  · rw [if_neg (by omega), if_neg (by omega), if_pos c]
    have : ¬ (((bAnd .u8 (sp i).look 64) : Int) != 0) = true := by show ¬ ((bAnd .u8 0 64 : Int) != 0) = true; decide +kernel
    rw [if_neg this]
    have := two_full ⟨x - (10 * i + 8), by omega⟩
    show two 255 255 ((x : Int) - ((10 * i + 8 : Nat) : Int)) = 3
    rw [← this]; congr 1; simp only; omega
  · rw [if_neg c]
    by_cases c1 : (x : Int) - ((10 * i + 8 : Nat) : Int) < 0
    · rw [if_pos c1]
    · rw [if_neg c1, if_pos (by omega)]
/-- Is one of n sprites at x? -/
def onAt (n x : Nat) : Prop := 8 ≤ x ∧ (x - 8) / 10 < n ∧ (x - 8) % 10 < 8
instance (n x : Nat) : Decidable (onAt n x) := by unfold onAt; infer_instance
theorem find_lst {x : Nat} (hx : x < 256) : ∀ n i, i + n ≤ 8 → findMan (x : Int) (lst sp i n) = if 10 * i + 8 ≤ x ∧ onAt (i + n) x then (3, sp ((x - 8) / 10)) else (0, noMan)
  | 0, i, h => by
    rw [if_neg (by unfold onAt; omega)]; rfl
  | n + 1, i, h => by
    show findMan (x : Int) (sp i :: lst sp (i + 1) n) = _
    unfold findMan
    rw [man_at (by omega) hx]
    by_cases c : 10 * i + 8 ≤ x ∧ x < 10 * i + 16
    · rw [if_pos c, if_neg (by decide), if_pos (by unfold onAt; omega), show (x - 8) / 10 = i by omega]
    · rw [if_neg c, if_pos rfl, find_lst hx n (i + 1) (by omega)]
      by_cases d : 10 * (i + 1) + 8 ≤ x ∧ onAt (i + 1 + n) x
      · rw [if_pos d, if_pos (by unfold onAt at *; omega)]
      · rw [if_neg d, if_neg (by unfold onAt at *; omega)]
theorem lst_len (g : Nat → Sprite) : ∀ n i, (lst g i n).length = n
  | 0, _ => rfl
  | n + 1, i => by simp [lst, lst_len g n]
end Go.Proofs.Ytgnhhnmpeklciaa
