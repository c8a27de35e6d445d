/-
  Layer 14: moves and writes as quotients and remainders; loops that count. No condition.
-/
import Derived.Test.YtonbliaaicacgaaLC
namespace Go.Proofs.Ytonbliaaicacgaa
open Go VX IntWalk
set_option maxRecDepth 100000
set_option linter.unusedSimpArgs false
set_option linter.unusedVariables false

/-- 'g' so many times. -/
def it {S : Type} (g : S → S) : Nat → S → S
  | 0, s => s
  | k + 1, s => it g k (g s)

theorem it_last {S : Type} (g : S → S) : ∀ (k : Nat) (s : S), it g (k + 1) s = g (it g k s)
  | 0, s => rfl
  | k + 1, s => it_last g k (g s)

/-- A loop that counts. -/
theorem iter_for {S : Type} {n : Int} {g : S → S} {w : Int → Int} {step : Int × S → (Int × S) ⊕ (Int × S)} (hstep : ∀ i t, step (i, t) = if (decide (i < n)) = true then .inl (w (i + 1), g t) else .inr (i, t))
    (hw : ∀ i, 0 ≤ i → i < n → w (i + 1) = i + 1) : ∀ (k : Nat) (i : Int) (t : S), 0 ≤ i → i + k = n → iter step (k + 1) (i, t) = some (n, it g k t)
  | 0, i, t, h0, h => by
    have : ¬ decide (i < n) = true := by simp; omega
    rw [iter, hstep, if_neg this]
    simp [it]; omega
  | k + 1, i, t, h0, h => by
    have : decide (i < n) = true := by simp; omega
    rw [iter, hstep, if_pos this, hw i h0 (by omega)]
    simpa [it] using iter_for hstep hw k (i + 1) (g t) (by omega) (by omega)

theorem u8_next (n : Int) (hn : n < 256) (i : Int) (h0 : 0 ≤ i) (h : i < n) : IntKind.u8.wrap (i + 1) = i + 1 := u8_in _ (by omega)

structure Good (s : Scroll) : Prop where
  v0 : 0 ≤ s.V
  v1 : s.V < 32768
  t0 : 0 ≤ s.T
  t1 : s.T < 32768
  x0 : 0 ≤ s.X
  x1 : s.X < 8

structure Fits (s : Scroll) : Prop where
  v0 : 0 ≤ s.V
  v1 : s.V < 65536
  t0 : 0 ≤ s.T
  t1 : s.T < 65536
  x0 : 0 ≤ s.X
  x1 : s.X < 256

theorem right_eq (s : Scroll) (h : Fits s) : right s = ⟨s.V % 32768, s.T % 32768, s.X % 8, s.W⟩ := by
  obtain ⟨_, _, _, _, _, _⟩ := h
  unfold right
  simp (disch := omega) only [and_u16_32767, and_u8_7, Int.ediv_one, Int.mul_one]

theorem right_good (s : Scroll) (h : Good s) : right s = s := by
  obtain ⟨_, _, _, _, _, _⟩ := h
  rw [right_eq s ⟨by omega, by omega, by omega, by omega, by omega, by omega⟩]
  obtain ⟨V, T, X, W⟩ := s
  simp only [Scroll.mk.injEq, and_true]
  simp only at *
  omega

theorem put_eq (a m b : Int) (ha : 0 ≤ a ∧ a < 65536) (hb : 0 ≤ b ∧ b < 65536) (hm : 0 ≤ m ∧ m < 65536) : put a m b = a - bAnd .u16 a m + bAnd .u16 b m :=
  bOr_put (k := .u16) rfl ha.1 ha.2 hb.1 hb.2 hm.1 hm.2

theorem look_eq (s : Scroll) (h : Fits s) : sLook s = ⟨s.V % 32768, s.T % 32768, s.X % 8, false⟩ := by
  unfold sLook; rw [right_eq s h]

theorem address1_eq (s : Scroll) (h : Good s) (b : Int) (hb : 0 ≤ b ∧ b < 256) (hw : s.W = false) : sAddress s b = ⟨s.V, s.T % 256 + b % 64 * 256, s.X, true⟩ := by
  unfold sAddress
  rw [right_good s h, if_neg (by rw [hw]; decide), hw]
  obtain ⟨_, _, _, _, _, _⟩ := h
  simp (disch := omega) only [and_u8_63, Int.ediv_one, Int.mul_one, u16_in, shl_u16_8]
  rw [put_eq _ _ _ (by omega) (by omega) (by decide)]
  simp (disch := omega) only [and_u16_32512]
  simp only [Scroll.mk.injEq, true_and, Bool.not_false, and_true]
  omega

theorem address2_eq (s : Scroll) (h : Good s) (b : Int) (hb : 0 ≤ b ∧ b < 256) (hw : s.W = true) : sAddress s b = ⟨s.T / 256 * 256 + b, s.T / 256 * 256 + b, s.X, false⟩ := by
  unfold sAddress
  rw [right_good s h, if_pos hw, hw]
  obtain ⟨_, _, _, _, _, _⟩ := h
  simp (disch := omega) only [u16_in]
  rw [put_eq _ _ _ (by omega) (by omega) (by decide)]
  simp (disch := omega) only [and_u16_255, Int.ediv_one, Int.mul_one]
  simp only [Scroll.mk.injEq, true_and, Bool.not_true, and_true]
  omega

theorem address_both (s : Scroll) (h : Fits s) (high low : Int) (hh : 0 ≤ high ∧ high < 256) (hl : 0 ≤ low ∧ low < 256) :
    sAddress (sAddress (sLook s) high) low = ⟨high % 64 * 256 + low, high % 64 * 256 + low, s.X % 8, false⟩ := by
  obtain ⟨_, _, _, _, _, _⟩ := h
  rw [look_eq s ⟨by omega, by omega, by omega, by omega, by omega, by omega⟩, address1_eq _ ⟨by simp only; omega, by simp only; omega, by simp only; omega, by simp only; omega, by simp only; omega, by simp only; omega⟩ high hh rfl,
    address2_eq _ ⟨by simp only; omega, by simp only; omega, by simp only; omega, by simp only; omega, by simp only; omega, by simp only; omega⟩ low hl rfl]
  simp only [Scroll.mk.injEq, true_and, and_true]
  omega

theorem step_V (s : Scroll) (h : Good s) (far : Bool) : (sStep s far).V = (s.V + bif far then 32 else 1) % 32768 ∧ Good (sStep s far) := by
  obtain ⟨_, _, _, _, _, _⟩ := h
  unfold sStep
  cases far
  · rw [if_neg (by decide)]
    simp (disch := omega) only [u16_in]
    rw [right_eq _ ⟨by simp only; omega, by simp only; omega, by simp only; omega, by simp only; omega, by simp only; omega, by simp only; omega⟩]
    exact ⟨by simp only [cond_false], ⟨by simp only; omega, by simp only; omega, by simp only; omega, by simp only; omega, by simp only; omega, by simp only; omega⟩⟩
  · rw [if_pos rfl]
    simp (disch := omega) only [u16_in]
    rw [right_eq _ ⟨by simp only; omega, by simp only; omega, by simp only; omega, by simp only; omega, by simp only; omega, by simp only; omega⟩]
    exact ⟨by simp only [cond_true]; omega, ⟨by simp only; omega, by simp only; omega, by simp only; omega, by simp only; omega, by simp only; omega, by simp only; omega⟩⟩

theorem steps_V (far : Bool) : ∀ (k : Nat) (s : Scroll), Good s → (it (fun s => sStep s far) k s).V = (s.V + (bif far then 32 else 1) * k) % 32768 ∧ Good (it (fun s => sStep s far) k s)
  | 0, s, h => ⟨by have := h.v0; have := h.v1; simp [it]; omega, h⟩
  | k + 1, s, h => by
    obtain ⟨e, g⟩ := step_V s h far
    obtain ⟨e2, g2⟩ := steps_V far k _ g
    refine ⟨?_, g2⟩
    show (it (fun s => sStep s far) k (sStep s far)).V = _
    rw [e2, e]
    cases far <;> simp only [cond_true, cond_false] <;> omega

theorem addresses_true (s : Scroll) (hs : Fits s) (high low n : Int) (far : Bool) (hh : 0 ≤ high ∧ high < 256) (hl : 0 ≤ low ∧ low < 256) (hn : 0 ≤ n ∧ n < 256) :
    FnSpec Try.prog 6 1000 [Scroll.enc s, .int .u8 high, .int .u8 low, .int .u8 n, .bool far] [] (.bool true) [] := by
  have eb := address_both s hs high low hh hl
  have hx0 := hs.x0
  have gb : Good (sAddress (sAddress (sLook s) high) low) := by rw [eb]; exact ⟨by simp only; omega, by simp only; omega, by simp only; omega, by simp only; omega, by simp only; omega, by simp only; omega⟩
  have ea : IntKind.i64.wrap ((IntKind.i64.wrap ((IntKind.i64.wrap (bAnd .u8 high 63)) * 256)) + (IntKind.i64.wrap low)) = high % 64 * 256 + low := by
    simp (disch := omega) only [and_u8_63, Int.ediv_one, Int.mul_one, i64_in]
  obtain ⟨e1, _⟩ := steps_V far n.toNat _ gb
  have hk : ((n.toNat : Nat) : Int) = n := Int.toNat_of_nonneg hn.1
  rw [hk] at e1
  have c2 : (((IntKind.i64.wrap ((sAddress (sAddress (sLook s) high) low).V)) : Int) != (IntKind.i64.wrap ((IntKind.i64.wrap ((IntKind.i64.wrap (bAnd .u8 high 63)) * 256)) + (IntKind.i64.wrap low)))) = false := by
    rw [ea, eb]; simp (disch := omega) only [i64_in, bne_self_eq_false]
  have c3 : (((sAddress (sAddress (sLook s) high) low).V : Int) != (sAddress (sAddress (sLook s) high) low).T) = false := by
    rw [eb]; simp only [bne_self_eq_false]
  have c4 : (sAddress (sAddress (sLook s) high) low).W = false := by rw [eb]
  cases far
  · have l := iter_for (S := Scroll) (n := n) (g := fun s => sStep s false) (w := IntKind.u8.wrap) (step := lawAddresses_L1nnnnn s high low n false) (fun i t => rfl) (u8_next n hn.2) n.toNat 0 (sAddress (sAddress (sLook s) high) low) (by decide) (by omega)
    have := lawAddresses_p2 s high low n false _ _ l awake_t c2 c3 c4 rfl
    have hv : (((IntKind.i64.wrap (it (fun s => sStep s false) n.toNat (sAddress (sAddress (sLook s) high) low)).V) : Int) == (Int.tmod (IntKind.i64.wrap ((IntKind.i64.wrap ((IntKind.i64.wrap ((IntKind.i64.wrap (bAnd .u8 high 63)) * 256)) + (IntKind.i64.wrap low))) + (IntKind.i64.wrap (1 * (IntKind.i64.wrap n))))) 32768)) = true := by
      rw [ea, e1, eb]
      simp (disch := omega) only [i64_in, Int.tmod_eq_emod_of_nonneg, cond_false, beq_self_eq_true]
    rwa [hv] at this
  · have l := iter_for (S := Scroll) (n := n) (g := fun s => sStep s true) (w := IntKind.u8.wrap) (step := lawAddresses_L1nnnny s high low n true) (fun i t => rfl) (u8_next n hn.2) n.toNat 0 (sAddress (sAddress (sLook s) high) low) (by decide) (by omega)
    have := lawAddresses_p1 s high low n true _ _ l awake_t c2 c3 c4 rfl
    have hv : (((IntKind.i64.wrap (it (fun s => sStep s true) n.toNat (sAddress (sAddress (sLook s) high) low)).V) : Int) == (Int.tmod (IntKind.i64.wrap ((IntKind.i64.wrap ((IntKind.i64.wrap ((IntKind.i64.wrap (bAnd .u8 high 63)) * 256)) + (IntKind.i64.wrap low))) + (IntKind.i64.wrap (32 * (IntKind.i64.wrap n))))) 32768)) = true := by
      rw [ea, e1, eb]
      simp (disch := omega) only [i64_in, Int.tmod_eq_emod_of_nonneg, cond_true, beq_self_eq_true]
    rwa [hv] at this

end Go.Proofs.Ytonbliaaicacgaa
