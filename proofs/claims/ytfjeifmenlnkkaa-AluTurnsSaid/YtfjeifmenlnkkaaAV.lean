/-
  Layer 8: the law on turns. Written by gen_av.py. No condition.
-/
import Derived.Test.YtfjeifmenlnkkaaAN
import Derived.Test.YtfjeifmenlnkkaaAM
namespace Go.Proofs.Ytfjeifmenlnkkaa
open Go VX IntWalk
set_option maxRecDepth 100000
set_option linter.unusedSimpArgs false
set_option linter.unusedVariables false

/-- 'g' so many times. -/
def it {S : Type} (g : S → S) : Nat → S → S
  | 0, s => s
  | k + 1, s => it g k (g s)

/-- A loop that counts. -/
theorem iter_for {S : Type} {n : Int} {g : S → S} {w : Int → Int} {step : Int × S → (Int × S) ⊕ (Int × S)} (hstep : ∀ i t, step (i, t) = if (decide (i < n)) = true then .inl (w (i + 1), g t) else .inr (i, t))
    (hw : ∀ i, 0 ≤ i → i < n → w (i + 1) = i + 1) : ∀ (k : Nat) (i : Int) (t : S), 0 ≤ i → i + k = n → iter step (k + 1) (i, t) = some (n, it g k t)
  | 0, i, t, h0, h => by
    have : ¬ decide (i < n) = true := by simp; omega
    rw [iter, hstep, if_neg this]
    simp [it]; omega
  | k + 1, i, t, h0, h => by
    have : decide (i < n) = true := by simp; omega
    rw [iter, hstep, if_pos this, hw i h0 (by omega)]
    simpa [it] using iter_for hstep hw k (i + 1) (g t) (by omega) (by omega)

theorem b2i_dec1 (b : Bool) : decide (b2i b = 1) = b := by cases b <;> rfl

theorem rolB (A X Y S : Int) (b0 b1 b2 b3 b4 b5 b6 b7 m0 m1 m2 m3 m4 m5 m6 m7 : Bool) (ha : 0 ≤ A ∧ A < 256) (hx : 0 ≤ X ∧ X < 256) (hy : 0 ≤ Y ∧ Y < 256) (hs : 0 ≤ S ∧ S < 256) :
    u_rol ⟨A, X, Y, S, pk b0 b1 b2 b3 b4 b5 b6 b7⟩ (pk m0 m1 m2 m3 m4 m5 m6 m7) = (⟨A, X, Y, S, pk m7 (zer (pk b0 m0 m1 m2 m3 m4 m5 m6)) b2 b3 b4 b5 b6 (neg (pk b0 m0 m1 m2 m3 m4 m5 m6))⟩, pk b0 m0 m1 m2 m3 m4 m5 m6) := by
  have e : pk m0 m1 m2 m3 m4 m5 m6 m7 * 2 % 256 + b2i b0 = pk b0 m0 m1 m2 m3 m4 m5 m6 := by
    have := b2i_b m0
    have := b2i_b m1
    have := b2i_b m2
    have := b2i_b m3
    have := b2i_b m4
    have := b2i_b m5
    have := b2i_b m6
    have := b2i_b m7
    have := b2i_b b0
    unfold pk; omega
  have e2 : decide (pk m0 m1 m2 m3 m4 m5 m6 m7 / 128 % 2 = 1) = m7 := by rw [bit_128, b2i_dec1]
  rw [c_rol A X Y S (pk m0 m1 m2 m3 m4 m5 m6 m7) b0 b1 b2 b3 b4 b5 b6 b7 ha hx hy hs (pk_b _ _ _ _ _ _ _ _), e, e2]

theorem rorB (A X Y S : Int) (b0 b1 b2 b3 b4 b5 b6 b7 m0 m1 m2 m3 m4 m5 m6 m7 : Bool) (ha : 0 ≤ A ∧ A < 256) (hx : 0 ≤ X ∧ X < 256) (hy : 0 ≤ Y ∧ Y < 256) (hs : 0 ≤ S ∧ S < 256) :
    u_ror ⟨A, X, Y, S, pk b0 b1 b2 b3 b4 b5 b6 b7⟩ (pk m0 m1 m2 m3 m4 m5 m6 m7) = (⟨A, X, Y, S, pk m0 (zer (pk m1 m2 m3 m4 m5 m6 m7 b0)) b2 b3 b4 b5 b6 (neg (pk m1 m2 m3 m4 m5 m6 m7 b0))⟩, pk m1 m2 m3 m4 m5 m6 m7 b0) := by
  have e : pk m0 m1 m2 m3 m4 m5 m6 m7 / 2 + 128 * b2i b0 = pk m1 m2 m3 m4 m5 m6 m7 b0 := by
    have := b2i_b m0
    have := b2i_b m1
    have := b2i_b m2
    have := b2i_b m3
    have := b2i_b m4
    have := b2i_b m5
    have := b2i_b m6
    have := b2i_b m7
    have := b2i_b b0
    unfold pk; omega
  have e2 : decide (pk m0 m1 m2 m3 m4 m5 m6 m7 / 1 % 2 = 1) = m0 := by rw [bit_1, b2i_dec1]
  rw [c_ror A X Y S (pk m0 m1 m2 m3 m4 m5 m6 m7) b0 b1 b2 b3 b4 b5 b6 b7 ha hx hy hs (pk_b _ _ _ _ _ _ _ _), e, e2]

theorem turns_true (u : Unit) (hu : Bytes u) (m : Int) (hm : 0 ≤ m ∧ m < 256) : FnSpec Try.prog 10 1000 [Unit.enc u, .int .u8 m] [] (.bool true) [] := by
  obtain ⟨A, X, Y, S, P⟩ := u
  obtain ⟨ha, hx, hy, hs, hp⟩ := hu
  obtain ⟨b0, b1, b2, b3, b4, b5, b6, b7, hP⟩ := pk_of P hp
  obtain ⟨m0, m1, m2, m3, m4, m5, m6, m7, hM⟩ := pk_of m hm
  simp only at ha hx hy hs hp hP
  subst hP
  subst hM
  have r21 : ∀ u m, uChange_21 u m = u_rol u m := fun _ _ => rfl
  have r22 : ∀ u m, uChange_22 u m = u_ror u m := fun _ _ => rfl
  have e1 := rolB A X Y S b0 b1 b2 b3 b4 b5 b6 b7 m0 m1 m2 m3 m4 m5 m6 m7 ha hx hy hs
  have l := iter_for (S := Int × Unit) (n := 9) (g := fun t => ((uChange_21 t.2 t.1).2, (uChange_21 t.2 t.1).1)) (w := IntKind.i64.wrap) (step := lawTurns_L1n ⟨A, X, Y, S, pk b0 b1 b2 b3 b4 b5 b6 b7⟩ (pk m0 m1 m2 m3 m4 m5 m6 m7)) (fun i t => rfl) (fun i h0 h => i64_in _ (by omega)) 9 0 (pk m0 m1 m2 m3 m4 m5 m6 m7, ⟨A, X, Y, S, pk b0 b1 b2 b3 b4 b5 b6 b7⟩) (by decide) (by decide)
  have e9 : it (fun t : Int × Unit => ((uChange_21 t.2 t.1).2, (uChange_21 t.2 t.1).1)) 9 (pk m0 m1 m2 m3 m4 m5 m6 m7, ⟨A, X, Y, S, pk b0 b1 b2 b3 b4 b5 b6 b7⟩) = (pk m0 m1 m2 m3 m4 m5 m6 m7, ⟨A, X, Y, S, pk b0 (zer (pk m0 m1 m2 m3 m4 m5 m6 m7)) b2 b3 b4 b5 b6 (neg (pk m0 m1 m2 m3 m4 m5 m6 m7))⟩) := by
    simp only [it, r21, rolB _ _ _ _ _ _ _ _ _ _ _ _ _ _ _ _ _ _ _ _ ha hx hy hs]
  rw [e9] at l
  have ex : uChange_22 (uChange_21 ⟨A, X, Y, S, pk b0 b1 b2 b3 b4 b5 b6 b7⟩ (pk m0 m1 m2 m3 m4 m5 m6 m7)).1 (uChange_21 ⟨A, X, Y, S, pk b0 b1 b2 b3 b4 b5 b6 b7⟩ (pk m0 m1 m2 m3 m4 m5 m6 m7)).2 = (⟨A, X, Y, S, pk b0 (zer (pk m0 m1 m2 m3 m4 m5 m6 m7)) b2 b3 b4 b5 b6 (neg (pk m0 m1 m2 m3 m4 m5 m6 m7))⟩, pk m0 m1 m2 m3 m4 m5 m6 m7) := by
    simp only [r21, r22, rolB _ _ _ _ _ _ _ _ _ _ _ _ _ _ _ _ _ _ _ _ ha hx hy hs, rorB _ _ _ _ _ _ _ _ _ _ _ _ _ _ _ _ _ _ _ _ ha hx hy hs]
  have := lawTurns_p1 _ _ _ _ l awake_t (by rw [ex]; exact beq_self_eq_true _) (beq_self_eq_true _) (by rw [ex]; simp only [and1_pk, beq_self_eq_true])
  rw [ex] at this
  simpa using this

end Go.Proofs.Ytfjeifmenlnkkaa
