/-
  Layer 14: the plain law of the rounds. No condition.
-/
import Derived.Test.YtonbliaaicacgaaLE
import Derived.Test.YtonbliaaicacgaaLF
namespace Go.Proofs.Ytonbliaaicacgaa
open Go VX IntWalk
set_option maxRecDepth 100000
set_option linter.unusedSimpArgs false
set_option linter.unusedVariables false

theorem count_loop {A : Type} {rel : (Int × Bool) → (Int × Bool) ⊕ ((Int × Bool) ⊕ A) → Prop} (hgo : ∀ k : Nat, k < 64 → rel ((k : Int), false) (.inl (IntKind.i64.wrap ((k : Int) + 1), false))) (hend : rel (64, false) (.inr (.inl (64, false)))) :
    ∀ m k : Nat, k + m = 64 → LoopR rel ((k : Int), false) (.inl (64, false))
  | 0, k, h => by obtain rfl : k = 64 := by omega
                  exact .last hend
  | m + 1, k, h => by
    have := hgo k (by omega)
    rw [i64_in _ (by omega)] at this
    exact .more this (by simpa using count_loop hgo hend m (k + 1) (by omega))

theorem i64_next (n : Int) (hn : n < 1000) (i : Int) (h0 : 0 ≤ i) (h : i < n) : IntKind.i64.wrap (i + 1) = i + 1 := i64_in _ (by omega)

theorem same_dec (a b : Scroll) : (((a.V : Int) == b.V) && (((a.T : Int) == b.T) && (((a.X : Int) == b.X) && ((a.W == b.W) && true)))) = true ↔ a = b := by
  obtain ⟨V, T, X, W⟩ := a
  obtain ⟨V', T', X', W'⟩ := b
  simp

theorem same_ff {a b : Scroll} (h : a ≠ b) : (((a.V : Int) == b.V) && (((a.T : Int) == b.T) && (((a.X : Int) == b.X) && ((a.W == b.W) && true)))) = false := by
  cases e : (((a.V : Int) == b.V) && (((a.T : Int) == b.T) && (((a.X : Int) == b.X) && ((a.W == b.W) && true)))) with
  | false => rfl
  | true => exact absurd ((same_dec a b).1 e) h

theorem rounds_true (s0 : Scroll) (hs : Fits s0) : FnSpec Try.prog 7 1000 [Scroll.enc s0] [] (.bool true) [] := by
  have hX0 := hs.x0
  have e := look_eq s0 hs
  obtain ⟨c, l, a, d, r, hp, hV⟩ := of_parts (s0.V % 32768) (by omega) (by omega)
  rw [hV] at e
  generalize hT : s0.T % 32768 = T at e
  generalize hX : s0.X % 8 = X at e
  have hT : 0 ≤ T ∧ T < 32768 := by omega
  have hX : 0 ≤ X ∧ X < 8 := by omega
  have hb := at_b hp
  -- so many columns
  have cols : ∀ k : Nat, k < 64 → (it sRight k (sLook s0) = sLook s0 ↔ k = 0) := by
    intro k hk
    obtain ⟨c', a', hp', e', f'⟩ := rights k (W := false) hp hT hX
    rw [e, e']
    constructor
    · intro h
      have hv : at_ c' l a' d r = at_ c l a d r := congrArg Scroll.V h
      have h1 : c' = c := by rw [← at_c hp', hv, at_c hp]
      have h2 : a' = a := by rw [← at_a hp', hv, at_a hp]
      subst h1; subst h2
      obtain ⟨_, _, _, _, _, _, _, _, _, _⟩ := hp
      omega
    · intro h
      subst h
      have h0 : it sRight 0 ⟨at_ c l a d r, T, X, false⟩ = ⟨at_ c l a d r, T, X, false⟩ := rfl
      rw [h0] at e'
      exact e'.symm
  have all : it sRight 64 (sLook s0) = sLook s0 := by
    obtain ⟨c', a', hp', e', f'⟩ := rights 64 (W := false) hp hT hX
    rw [e, e']
    have : c' = c ∧ a' = a := by
      obtain ⟨_, _, _, _, _, _, _, _, _, _⟩ := hp
      obtain ⟨_, _, _, _, _, _, _, _, _, _⟩ := hp'
      omega
    rw [this.1, this.2]
  have l1 := iter_for (S := Scroll) (n := 64) (g := sRight) (w := IntKind.i64.wrap) (step := lawRounds_L1n s0) (fun i t => rfl) (i64_next 64 (by decide)) 64 0 (sLook s0) (by decide) (by decide)
  rw [all] at l1
  have inner : ∀ (k : Nat) (x : Int × Bool) (y : Int × Bool → Int × Scroll → (Int × Scroll) ⊕ (Int × Scroll)), x.1 = (k : Int) → k < 64 → (∀ i t, y x (i, t) = if (decide (i < x.1)) = true then .inl (IntKind.i64.wrap (i + 1), sRight t) else .inr (i, t)) → iter (y x) (k + 1) (0, sLook s0) = some (x.1, it sRight k (sLook s0)) := by
    intro k x y hx hk hy
    exact iter_for (S := Scroll) (n := x.1) (g := sRight) (w := IntKind.i64.wrap) (step := y x) hy (i64_next x.1 (by omega)) k 0 (sLook s0) (by decide) (by omega)
  have l2 := iter_for (S := Scroll) (n := 480) (g := sDown) (w := IntKind.i64.wrap) (step := lawRounds_L2n s0 (64, sLook s0)) (fun i t => rfl) (i64_next 480 (by decide)) 480 0 (sLook s0) (by decide) (by decide)
  have hline : ((bAnd .u16 (bShr .u16 ((sLook s0).V) 5) 31) : Int) = l := by
    rw [e]
    simp (disch := omega) only [shr_u16_5, and_u16_31, Int.ediv_one, Int.mul_one]
    exact at_l hp
  by_cases hl : l < 30
  · have all2 : it sDown 480 (sLook s0) = sLook s0 := by
      obtain ⟨l', d', r', hp', hl', e', f'⟩ := downs 480 (W := false) hp hl hT hX
      rw [e, e']
      have : l' = l ∧ d' = d ∧ r' = r := by
        obtain ⟨_, _, _, _, _, _, _, _, _, _⟩ := hp
        obtain ⟨_, _, _, _, _, _, _, _, _, _⟩ := hp'
        omega
      rw [this.1, this.2.1, this.2.2]
    rw [all2] at l2
    have l3 : LoopR (lawRounds_L3nyn s0 (64, sLook s0) (480, sLook s0)) (0, false) (.inl (64, false)) := by
      refine count_loop (A := Bool) ?_ ?_ 64 0 rfl
      · intro k hk
        have li := inner k ((k : Int), false) (fun x => lawRounds_L4nyny s0 (64, sLook s0) (480, sLook s0) x) rfl hk (fun i t => rfl)
        by_cases h0 : k = 0
        · subst h0
          exact .p2 (by decide) _ _ li ((same_dec _ _).2 ((cols 0 hk).2 rfl)) (by decide)
        · exact .p3 (by simp only [decide_eq_true_eq]; omega) _ _ li (same_ff fun h => h0 ((cols k hk).1 h))
      · exact .p4 (by decide)
    have := lawRounds_p1 s0 _ _ l1 _ _ l2 _ l3 awake_t (by rw [hline]; exact decide_eq_true hl) (by rw [(same_dec _ _).2 rfl]; rfl)
    rwa [(same_dec _ _).2 rfl] at this
  · have l3 : LoopR (lawRounds_L3nn s0 (64, sLook s0) (480, it sDown 480 (sLook s0))) (0, false) (.inl (64, false)) := by
      refine count_loop (A := Bool) ?_ ?_ 64 0 rfl
      · intro k hk
        have li := inner k ((k : Int), false) (fun x => lawRounds_L4nny s0 (64, sLook s0) (480, it sDown 480 (sLook s0)) x) rfl hk (fun i t => rfl)
        by_cases h0 : k = 0
        · subst h0
          exact .p2 (by decide) _ _ li ((same_dec _ _).2 ((cols 0 hk).2 rfl)) (by decide)
        · exact .p3 (by simp only [decide_eq_true_eq]; omega) _ _ li (same_ff fun h => h0 ((cols k hk).1 h))
      · exact .p4 (by decide)
    have := lawRounds_p3 s0 _ _ l1 _ _ l2 _ l3 awake_t (by rw [hline]; exact decide_eq_false hl)
    rwa [(same_dec _ _).2 rfl] at this

end Go.Proofs.Ytonbliaaicacgaa
