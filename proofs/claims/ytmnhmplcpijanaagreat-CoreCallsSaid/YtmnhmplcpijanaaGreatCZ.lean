/-
  CoreCounts: each instruction takes as many cycles as layer 9 tells. No condition.
-/
import Derived.Test.YtmnhmplcpijanaaGreatCX
import Derived.Test.YtmnhmplcpijanaaGreatCS
import Derived.Test.YtmnhmplcpijanaaGreatVN
namespace Go.Proofs.YtmnhmplcpijanaaGreat
open Go VX
set_option linter.unusedVariables false
set_option linter.unusedSimpArgs false
set_option maxRecDepth 100000

theorem awake_tt : awakeF = true := by kernel_rfl

/-- The cycles of a class. -/
def lens (i : Nat) (cr tk : Bool) : Int :=
  match i with
  | 0 => 3 | 1 => 5 | 2 => 3 | 3 => 4 | 4 => 6 | 5 => 4 | 6 => 4 | 7 => 6 | 8 => 4 | 9 => 4 | 10 => 6 | 11 => 4
  | 12 => bif cr then 5 else 4 | 13 => 7 | 14 => 5 | 15 => bif cr then 5 else 4 | 16 => 7 | 17 => 5 | 18 => 6 | 19 => 8 | 20 => 6
  | 21 => bif cr then 6 else 5 | 22 => 8 | 23 => 6 | 24 => 2 | 25 => 2 | 26 => 2 | 27 => 2 | 28 => bif tk then (bif cr then 4 else 3) else 2
  | 29 => 3 | 30 => 5 | 31 => 6 | 32 => 6 | 33 => 6 | 34 => 7 | 35 => 3 | 36 => 3 | 37 => 4 | 38 => 4 | _ => 0
def stepsG (k : Code) (crosses takes : Bool) : Int :=
  if ((k.Mode : Int) == 10) = true then stepsF_J5ny k crosses takes
  else if (stepsF_J5nn k crosses takes) = true then stepsF_J7nny k crosses takes
  else IntKind.i64.wrap ((stepsF_J3n k crosses takes) + (IntKind.i64.wrap (2 * (oneS (stepsF_J4n k crosses takes)))))
def lensB (b : Nat) : Bool := let k := codeF (b : Int); k.Op == 69 || (stepsG k false false == lens (clsOf k) false false && stepsG k true false == lens (clsOf k) true false && stepsG k false true == lens (clsOf k) false true && stepsG k true true == lens (clsOf k) true true)
theorem lens_all : allN lensB 8 0 = true := by kernel_rfl
theorem steps_eq {b : Int} (w : rng 256 b) (hj : (codeF b).Op ≠ 69) (cr tk : Bool) : stepsF (codeF b) cr tk = lens (clsOf (codeF b)) cr tk := by
  have h := allN_int lens_all b w.1 (by have := w.2; simpa using this)
  unfold lensB at h
  rw [Int.toNat_of_nonneg w.1] at h
  simp only [Bool.or_eq_true, Bool.and_eq_true, beq_iff_eq, hj, false_or] at h
  have e : stepsF (codeF b) cr tk = stepsG (codeF b) cr tk := by
    unfold stepsF stepsF_J1
    rw [byte_some b w, if_neg (show ¬ (!true) = true by decide), if_neg (by simpa using hj)]
    rfl
  rw [e]
  cases cr <;> cases tk
  · exact h.1.1.1
  · exact h.1.2
  · exact h.1.1.2
  · exact h.2

/-- What is taken hangs on flags alone that are as they were. -/
def takesB (P : Nat) : Bool := (List.range 8).all fun i => uTakes ⟨0, 0, 0, 0, right (P : Int)⟩ (52 + (i : Int)) == uTakes ⟨0, 0, 0, 0, (P : Int)⟩ (52 + (i : Int))
theorem takes_all : allN takesB 8 0 = true := by kernel_rfl
theorem takes_P (u : Un) (op : Int) : uTakes u op = uTakes ⟨0, 0, 0, 0, u.P⟩ op := by
  unfold uTakes
  by_cases h : 52 ≤ op ∧ op ≤ 59
  · rw [if_pos h, if_pos h]
    rcases (show op = 52 ∨ op = 53 ∨ op = 54 ∨ op = 55 ∨ op = 56 ∨ op = 57 ∨ op = 58 ∨ op = 59 by omega) with h | h | h | h | h | h | h | h <;> subst h <;> rfl
  · rw [if_neg h, if_neg h]
theorem takes_right (u : Un) (op : Int) (w : rng 256 u.P) : uTakes { u with P := right u.P } op = uTakes u op := by
  rw [takes_P { u with P := right u.P }, takes_P u]
  by_cases h : 52 ≤ op ∧ op ≤ 59
  · have h2 := allN_int takes_all u.P w.1 (by have := w.2; simpa using this)
    unfold takesB at h2
    rw [Int.toNat_of_nonneg w.1, List.all_eq_true] at h2
    have := h2 (op - 52).toNat (List.mem_range.2 (by omega))
    rw [Int.toNat_of_nonneg (by omega), show 52 + (op - 52) = op by omega] at this
    simpa using this
  · unfold uTakes; rw [if_neg h, if_neg h]

/-- How many cycles a tree has in a memory. -/
def lenP (P : List Int) (t : Pr Regs) (L : List RAcc) : Nat := (runP P t L).2.2.length

theorem len_far (P : List Int) (L : List RAcc) (a m : Int) (q : Bool) (k : Int → Pr Regs) (n : Nat) (h : ∀ a L, lenP P (k a) L = n) : lenP P (farP a m q k) L = if q = true ∧ a / 256 * 256 + (a + m) % 256 = (a + m) % 65536 then n else n + 1 := by
  unfold farP
  split
  · exact h _ _
  · exact congrArg (· + 1) (h _ _)

theorem no_cross {lo hi m : Int} (h1 : rng 256 lo) (h2 : rng 256 hi) (h3 : rng 256 m) : ((lo + 256 * hi) / 256 * 256 + (lo + 256 * hi + m) % 256 = (lo + 256 * hi + m) % 65536) ↔ ¬ lo + m > 255 := by
  obtain ⟨a1, a2⟩ := h1; obtain ⟨b1, b2⟩ := h2; obtain ⟨c1, c2⟩ := h3
  omega

section
variable (P : List Int) (c : Code) (r : Regs) (L : List RAcc)
/-- The bytes behind the code. -/
def lowAt : Int := byteOf P L (rd r.PC)
def highAt : Int := byteOf P L (rd (nx r.PC))

theorem len_r6 (h : rng 256 r.U.X) : lenP P (rP pl6 c r) L + 1 = if lowAt P r L + r.U.X > 255 then 5 else 4 := by
  have := len_far P L (lowAt P r L + 256 * highAt P r L) r.U.X true (fun a => .acc (rd a) fun g => .ret (((r.go (nx r.PC)).go (nx (nx r.PC))).u (uRead ((r.go (nx r.PC)).go (nx (nx r.PC))).U c.Op g))) 1 (fun _ _ => rfl)
  have e : lenP P (rP pl6 c r) L = lenP P (farP (lowAt P r L + 256 * highAt P r L) r.U.X true (fun a => .acc (rd a) fun g => .ret (((r.go (nx r.PC)).go (nx (nx r.PC))).u (uRead ((r.go (nx r.PC)).go (nx (nx r.PC))).U c.Op g)))) L + 2 := rfl
  rw [e, this]
  have hc := no_cross (rng_byteOf P L (rd r.PC)) (rng_byteOf P L (rd (nx r.PC))) h
  by_cases h2 : lowAt P r L + r.U.X > 255
  · rw [if_pos h2, if_neg (fun q => (hc.1 q.2) h2)]
  · rw [if_neg h2, if_pos ⟨rfl, hc.2 h2⟩]
theorem len_r7 (h : rng 256 r.U.Y) : lenP P (rP pl7 c r) L + 1 = if lowAt P r L + r.U.Y > 255 then 5 else 4 := by
  have := len_far P L (lowAt P r L + 256 * highAt P r L) r.U.Y true (fun a => .acc (rd a) fun g => .ret (((r.go (nx r.PC)).go (nx (nx r.PC))).u (uRead ((r.go (nx r.PC)).go (nx (nx r.PC))).U c.Op g))) 1 (fun _ _ => rfl)
  have e : lenP P (rP pl7 c r) L = lenP P (farP (lowAt P r L + 256 * highAt P r L) r.U.Y true (fun a => .acc (rd a) fun g => .ret (((r.go (nx r.PC)).go (nx (nx r.PC))).u (uRead ((r.go (nx r.PC)).go (nx (nx r.PC))).U c.Op g)))) L + 2 := rfl
  rw [e, this]
  have hc := no_cross (rng_byteOf P L (rd r.PC)) (rng_byteOf P L (rd (nx r.PC))) h
  by_cases h2 : lowAt P r L + r.U.Y > 255
  · rw [if_pos h2, if_neg (fun q => (hc.1 q.2) h2)]
  · rw [if_neg h2, if_pos ⟨rfl, hc.2 h2⟩]
def ptAt : Int := byteOf P L (rd (lowAt P r L))
def ptAt2 : Int := byteOf P L (rd (lowAt P r L / 256 * 256 + (lowAt P r L + 1) % 256))
theorem len_r9 (h : rng 256 r.U.Y) : lenP P (rP pl9 c r) L + 1 = if ptAt P r L + r.U.Y > 255 then 6 else 5 := by
  have := len_far P L (ptAt P r L + 256 * ptAt2 P r L) r.U.Y true (fun a => .acc (rd a) fun g => .ret ((r.go (nx r.PC)).u (uRead (r.go (nx r.PC)).U c.Op g))) 1 (fun _ _ => rfl)
  have e : lenP P (rP pl9 c r) L = lenP P (farP (ptAt P r L + 256 * ptAt2 P r L) r.U.Y true (fun a => .acc (rd a) fun g => .ret ((r.go (nx r.PC)).u (uRead (r.go (nx r.PC)).U c.Op g)))) L + 3 := rfl
  rw [e, this]
  have hc := no_cross (rng_byteOf P L (rd (lowAt P r L))) (rng_byteOf P L (rd (lowAt P r L / 256 * 256 + (lowAt P r L + 1) % 256))) h
  by_cases h2 : ptAt P r L + r.U.Y > 255
  · rw [if_pos h2, if_neg (fun q => (hc.1 q.2) h2)]
  · rw [if_neg h2, if_pos ⟨rfl, hc.2 h2⟩]
theorem len_f6 (n : Nat) (k : Int → Regs → Pr Regs) (hk : ∀ a r L, lenP P (k a r) L = n) : lenP P (pl6 false r k) L = n + 3 := by
  have := len_far P L (lowAt P r L + 256 * highAt P r L) r.U.X false (fun a => k a ((r.go (nx r.PC)).go (nx (nx r.PC)))) n (fun _ _ => hk _ _ _)
  have e : lenP P (pl6 false r k) L = lenP P (farP (lowAt P r L + 256 * highAt P r L) r.U.X false (fun a => k a ((r.go (nx r.PC)).go (nx (nx r.PC))))) L + 2 := rfl
  rw [e, this, if_neg (fun q => by cases q.1)]
theorem len_f7 (n : Nat) (k : Int → Regs → Pr Regs) (hk : ∀ a r L, lenP P (k a r) L = n) : lenP P (pl7 false r k) L = n + 3 := by
  have := len_far P L (lowAt P r L + 256 * highAt P r L) r.U.Y false (fun a => k a ((r.go (nx r.PC)).go (nx (nx r.PC)))) n (fun _ _ => hk _ _ _)
  have e : lenP P (pl7 false r k) L = lenP P (farP (lowAt P r L + 256 * highAt P r L) r.U.Y false (fun a => k a ((r.go (nx r.PC)).go (nx (nx r.PC))))) L + 2 := rfl
  rw [e, this, if_neg (fun q => by cases q.1)]
theorem len_f9 (n : Nat) (k : Int → Regs → Pr Regs) (hk : ∀ a r L, lenP P (k a r) L = n) : lenP P (pl9 false r k) L = n + 4 := by
  have := len_far P L (ptAt P r L + 256 * ptAt2 P r L) r.U.Y false (fun a => k a (r.go (nx r.PC))) n (fun _ _ => hk _ _ _)
  have e : lenP P (pl9 false r k) L = lenP P (farP (ptAt P r L + 256 * ptAt2 P r L) r.U.Y false (fun a => k a (r.go (nx r.PC)))) L + 3 := rfl
  rw [e, this, if_neg (fun q => by cases q.1)]
/-- Where a branch leads. -/
def toAt : Int := (nx r.PC + sgn (lowAt P r L)) % 65536
theorem len_br : lenP P (brP c r) L + 1 = if uTakes r.U c.Op = true then (if nx r.PC / 256 * 256 + toAt P r L % 256 = toAt P r L then 3 else 4) else 2 := by
  have e : lenP P (brP c r) L = lenP P (if uTakes r.U c.Op = true then .acc (rd (nx r.PC)) fun _ =>
    if nx r.PC / 256 * 256 + toAt P r L % 256 = toAt P r L then .ret ((r.go (nx r.PC)).go (toAt P r L)) else .acc (rd (nx r.PC / 256 * 256 + toAt P r L % 256)) fun _ => .ret ((r.go (nx r.PC)).go (toAt P r L))
    else .ret (r.go (nx r.PC))) L + 1 := rfl
  rw [e]
  by_cases h : uTakes r.U c.Op = true
  · rw [if_pos h, if_pos h]
    by_cases h2 : nx r.PC / 256 * 256 + toAt P r L % 256 = toAt P r L
    · rw [if_pos h2, if_pos h2]; rfl
    · rw [if_neg h2, if_neg h2]; rfl
  · rw [if_neg h, if_neg h]; rfl
end
end Go.Proofs.YtmnhmplcpijanaaGreat
