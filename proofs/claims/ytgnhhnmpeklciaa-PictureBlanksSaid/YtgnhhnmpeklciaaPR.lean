/-
  PictureBlanks, of any control, time and way. No condition.
-/
import Derived.Test.YtgnhhnmpeklciaaPQ
namespace Go.Proofs.Ytgnhhnmpeklciaa
open Go VX
set_option linter.unusedVariables false
set_option linter.unusedSimpArgs false
set_option linter.unusedSectionVars false
set_option maxRecDepth 100000

section
variable {p : Pic} (w : Pic.ok p)
theorem get2 (p : Pic) : pGet p [] 2 = (({ p with scroll := (sLook p.scroll), flags := (bAndNot .u8 p.flags 128), bus := (bOr .u8 p.flags (bAnd .u8 p.bus 31)) } : Pic), (bOr .u8 p.flags (bAnd .u8 p.bus 31))) := by
  unfold pGet; rw [if_pos (show ((Int.tmod 2 8 : Int) == 2) = true from by decide)]
include w
theorem b_get (hf : p.flags = 0 ∨ p.flags = 128) : ((bAnd .u8 (pGet p [] 2).2 128 : Int) != 0) = decide (p.flags = 128) := by
  rw [get2]
  obtain ⟨g1, g2, _⟩ := get_of w.bus
  rcases hf with h | h <;> simp only [h]
  · rw [g2]; rfl
  · simpa using g1
theorem b_off (hf : p.flags = 0 ∨ p.flags = 128) : (pGet p [] 2).1.flags = 0 := by
  rw [get2]
  show bAndNot .u8 p.flags 128 = 0
  rcases hf with h | h <;> rw [h]
  · exact x128.2.1
  · exact x128.1
theorem b_nmi (hf : p.flags = 0 ∨ p.flags = 128) : pNMI p [] = (decide (p.flags = 128) && ((bAnd .u8 p.control 128 : Int) != 0)) := by
  unfold pNMI
  rcases hf with h | h <;> rw [h]
  · rw [if_neg (by rw [x128.2.2.2]; decide)]; rfl
  · rw [if_pos x128.2.2.1]; rfl
theorem b_put (b : Int) : pPut p [] 0 b = ({ p with scroll := (sControl p.scroll b), control := b, bus := b } : Pic) := by
  unfold pPut; rw [if_pos (show ((Int.tmod 0 8 : Int) == 0) = true from by decide)]
end

theorem blanks_true (control n : Int) (look : Bool) (wc : rng 256 control) (wn : rng 65536 n) : FnSpec Try.prog 5 1000 [.int .u8 control, .int .u16 n, .bool look] [] (.bool true) [] := by
  have hT : IntKind.i64.wrap (82178 + Int.tmod (IntKind.i64.wrap n) 6828) = ((82178 + (n % 6828).toNat : Nat) : Int) := by
    obtain ⟨a, b⟩ := wn
    rw [i64_in2 (x := n) a (by omega), Int.tmod_eq_emod_of_nonneg a, i64_in2 (by omega) (by omega)]; omega
  generalize hTn : 82178 + (n % 6828).toNat = T at hT
  have hT2 : T ≤ 89005 := by omega
  have q0 : Qt (pPut picZero [] 0 control) [] ((0 / 341 : Nat) : Int) ((0 % 341 : Nat) : Int) (frN 0) (flN 0) control := by
    have hok := pPut_w picZero [] 0 control zero_ok (by decide) wc
    rw [b_put zero_ok] at hok ⊢
    exact ⟨rfl, rfl, rfl, rfl, rfl, rfl, rfl, rfl, hok⟩
  have fin : ∀ p' : Pic, Qt p' [] ((T / 341 : Nat) : Int) ((T % 341 : Nat) : Int) (frN T) (flN T) control → (p'.flags = 0 ∨ p'.flags = 128) ∧ decide (p'.flags = 128) = decide (82183 ≤ T ∧ T < 89003) ∧ p'.frames = frN T := by
    intro p' q
    refine ⟨?_, ?_, q.frames⟩
    · rw [q.flags]; unfold flN; split
      · exact .inr rfl
      · exact .inl rfl
    · rw [q.flags]; unfold flN; split
      · rename_i h; simp [h]
      · rename_i h; rw [decide_eq_false h]; rfl
  have hx : ((bAnd .u8 control 128 : Int) != 0) = !((bAnd .u8 (bXor .u8 control 128) 128 : Int) != 0) := (get_of wc).2.2
  have e4 : ((bAnd .u8 control 128 : Int) == 0) = ((bAnd .u8 (bXor .u8 control 128) 128 : Int) != 0) := by
    have : ((bAnd .u8 control 128 : Int) == 0) = !((bAnd .u8 control 128 : Int) != 0) := by simp [bne]
    rw [this, hx]; simp
  have wok : ∀ i : Nat, i < T → IntKind.i64.wrap ((i : Int) + 1) = ((i + 1 : Nat) : Int) := fun i hi => by rw [i64_in2 (by omega) (by omega)]; omega
  -- what is told in the end
  have told : ∀ (p' : Pic) (B : Bool), Qt p' [] ((T / 341 : Nat) : Int) ((T % 341 : Nat) : Int) (frN T) (flN T) control → B = decide (82183 ≤ T ∧ T < 89003) →
      pNMI p' [] = (B && ((bAnd .u8 control 128 : Int) != 0)) ∧ ((bAnd .u8 (pGet p' [] 2).2 128 : Int) != 0) = B ∧ pNMI (pGet p' [] 2).1 [] = false ∧ ((bAnd .u8 (pGet (pGet p' [] 2).1 [] 2).2 128 : Int) == 0) = true ∧
      pNMI (pPut p' [] 0 (bXor .u8 control 128)) [] = (B && ((bAnd .u8 control 128 : Int) == 0)) ∧ pFrame (pPut p' [] 0 (bXor .u8 control 128)) [] = frN T := by
    intro p' B q hB
    obtain ⟨f1, f2, f3⟩ := fin p' q
    have wg := pGet_w1 p' [] 2 q.ok (by decide)
    have o1 := b_off q.ok f1
    refine ⟨?_, ?_, ?_, ?_, ?_, ?_⟩
    · rw [b_nmi q.ok f1, f2, ← hB, q.control]
    · rw [b_get q.ok f1, f2, ← hB]
    · rw [b_nmi wg (.inl o1), o1]; rfl
    · have := b_get wg (.inl o1)
      rw [o1] at this
      have h0 : ((bAnd .u8 (pGet (pGet p' [] 2).1 [] 2).2 128 : Int) != 0) = false := this
      simpa [bne] using h0
    · have wp : Pic.ok (pPut p' [] 0 (bXor .u8 control 128)) := pPut_w p' [] 0 _ q.ok (by decide) (rng_wrap_u8 _)
      rw [b_nmi wp (by rw [b_put q.ok]; exact f1), b_put q.ok, e4]
      show (decide (p'.flags = 128) && _) = _
      rw [f2, ← hB]
    · rw [b_put q.ok]; exact f3
  by_cases h1 : 82183 ≤ T
  · have c1 : (decide (((IntKind.i64.wrap (82178 + (Int.tmod (IntKind.i64.wrap n) 6828))) : Int) ≥ 82183)) = true := by rw [hT]; exact decide_eq_true (by omega)
    obtain ⟨p', t, q⟩ := q_run (rel := lawBlanks_L1y control n look) (T := T) (by omega) (fun i p hi hok hl => by
        have := lawBlanks_L1y.p1 (control := control) (n := n) (look := look) (xd := ([], (i : Int), p)) (by rw [hT]; exact decide_eq_true (by show (i : Int) < (T : Int); omega)) hok hl (Nat.zero_le _)
        simp only [wok i hi] at this; exact this) (fun p => .p2 (by rw [hT]; exact decide_eq_false (by show ¬ ((T : Int) < (T : Int)); omega))) T 0 _ (by omega) q0
    by_cases h2 : T < 89003
    · have c2 : (decide (((IntKind.i64.wrap (82178 + (Int.tmod (IntKind.i64.wrap n) 6828))) : Int) < 89003)) = true := by rw [hT]; exact decide_eq_true (by omega)
      obtain ⟨t1, t2, t3, t4, t5, t6⟩ := told p' true q (by simp [h1, h2])
      cases look with
      | true => exact (t4 ▸ lawBlanks_p1 control n true zero_ok c1 ([], (T : Int), p') t c2 (by show (!(pNMI p' [] == _)) = false; rw [t1]; simp) rfl q.ok (by show (_ == _) = true; rw [t2, c2]; rfl) (by show (!(pNMI (pGet p' [] 2).1 [])) = true; rw [t3]; rfl) : _)
      | false =>
        have k := lawBlanks_p2 control n false zero_ok c1 ([], (T : Int), p') t c2 (by show (!(pNMI p' [] == _)) = false; rw [t1]; simp) rfl q.ok (by show (_ == _) = true; rw [t5]; simp)
        have e : ((pFrame (pPut p' [] 0 (bXor .u8 control 128)) [] : Int) == 1) = true := by rw [t6]; unfold frN; rw [if_pos h1]; rfl
        exact e ▸ k
    · have c2 : (decide (((IntKind.i64.wrap (82178 + (Int.tmod (IntKind.i64.wrap n) 6828))) : Int) < 89003)) = false := by rw [hT]; exact decide_eq_false (by omega)
      obtain ⟨t1, t2, t3, t4, t5, t6⟩ := told p' false q (by simp [h2])
      cases look with
      | true => exact (t4 ▸ lawBlanks_p3 control n true zero_ok c1 ([], (T : Int), p') t c2 (by show (!(pNMI p' [] == _)) = false; rw [t1]; rfl) rfl q.ok (by show (_ == _) = true; rw [t2, c2]; rfl) (by show (!(pNMI (pGet p' [] 2).1 [])) = true; rw [t3]; rfl) : _)
      | false =>
        have k := lawBlanks_p4 control n false zero_ok c1 ([], (T : Int), p') t c2 (by show (!(pNMI p' [] == _)) = false; rw [t1]; rfl) rfl q.ok (by show (_ == _) = true; rw [t5]; rfl)
        have e : ((pFrame (pPut p' [] 0 (bXor .u8 control 128)) [] : Int) == 1) = true := by rw [t6]; unfold frN; rw [if_pos h1]; rfl
        exact e ▸ k
  · have c1 : (decide (((IntKind.i64.wrap (82178 + (Int.tmod (IntKind.i64.wrap n) 6828))) : Int) ≥ 82183)) = false := by rw [hT]; exact decide_eq_false (by omega)
    obtain ⟨p', t, q⟩ := q_run (rel := lawBlanks_L1n control n look) (T := T) (by omega) (fun i p hi hok hl => by
        have := lawBlanks_L1n.p1 (control := control) (n := n) (look := look) (xd := ([], (i : Int), p)) (by rw [hT]; exact decide_eq_true (by show (i : Int) < (T : Int); omega)) hok hl (Nat.zero_le _)
        simp only [wok i hi] at this; exact this) (fun p => .p2 (by rw [hT]; exact decide_eq_false (by show ¬ ((T : Int) < (T : Int)); omega))) T 0 _ (by omega) q0
    obtain ⟨t1, t2, t3, t4, t5, t6⟩ := told p' false q (by simp [h1])
    cases look with
    | true => exact (t4 ▸ lawBlanks_p5 control n true zero_ok c1 ([], (T : Int), p') t (by show (!(pNMI p' [] == _)) = false; rw [t1]; rfl) rfl q.ok (by show (_ == _) = true; rw [t2]; rfl) (by show (!(pNMI (pGet p' [] 2).1 [])) = true; rw [t3]; rfl) : _)
    | false =>
      have k := lawBlanks_p6 control n false zero_ok c1 ([], (T : Int), p') t (by show (!(pNMI p' [] == _)) = false; rw [t1]; rfl) rfl q.ok (by show (_ == _) = true; rw [t5]; rfl)
      have e : ((pFrame (pPut p' [] 0 (bXor .u8 control 128)) [] : Int) == 0) = true := by rw [t6]; unfold frN; rw [if_neg h1]; rfl
      exact e ▸ k
end Go.Proofs.Ytgnhhnmpeklciaa
