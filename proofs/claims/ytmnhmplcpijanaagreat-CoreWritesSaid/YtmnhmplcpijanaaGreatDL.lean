/-
  What an instruction writes. No condition.
-/
import Derived.Test.YtmnhmplcpijanaaGreatCY
namespace Go.Proofs.YtmnhmplcpijanaaGreat
open Go VX
set_option linter.unusedVariables false
set_option linter.unusedSimpArgs false
set_option maxRecDepth 100000

/-- A place is found by reads alone, whatever is done there. -/
def Shape (P : List Int) (L : List RAcc) (r : Regs) (t : Kt → Pr Regs) : Prop :=
  ∃ pre a r', (∀ x ∈ pre, x.Put = false) ∧ 1 ≤ pre.length ∧ pre.length ≤ 5 ∧ r'.U = r.U ∧ rng 65536 a ∧ ∀ k, runP P (t k) L = ((runP P (k a r') L).1, (runP P (k a r') L).2.1, pre ++ (runP P (k a r') L).2.2)

theorem rd_put (a : Int) : (rd a).Put = false := rfl
theorem rng65 (a : Int) : rng 65536 (a % 65536) := ⟨by omega, by omega⟩
section
variable (P : List Int) (L : List RAcc) (q : Bool) (r : Regs)
theorem far_shape (a m : Int) : ∃ pre, (∀ x ∈ pre, x.Put = false) ∧ pre.length ≤ 1 ∧ ∀ k : Int → Pr Regs, runP P (farP a m q k) L = ((runP P (k ((a + m) % 65536)) L).1, (runP P (k ((a + m) % 65536)) L).2.1, pre ++ (runP P (k ((a + m) % 65536)) L).2.2) := by
  by_cases h : q = true ∧ a / 256 * 256 + (a + m) % 256 = (a + m) % 65536
  · exact ⟨[], by simp, by simp, fun k => by unfold farP; rw [if_pos h]; rfl⟩
  · exact ⟨[rd (a / 256 * 256 + (a + m) % 256)], by simp [rd], by simp, fun k => by unfold farP; rw [if_neg h]; rfl⟩
theorem all_rd : ∀ l : List Int, ∀ x ∈ l.map rd, x.Put = false := by
  intro l x hx; obtain ⟨a, _, rfl⟩ := List.mem_map.1 hx; rfl
theorem shape2 : Shape P L r (pl2 q r) := ⟨[rd r.PC], byteOf P L (rd r.PC), r.go (nx r.PC), all_rd [_], by simp, by simp, rfl, rng_in (rng_byteOf _ _ _), fun k => rfl⟩
theorem shape3 : Shape P L r (pl3 q r) := ⟨[rd r.PC, rd (byteOf P L (rd r.PC))], (byteOf P L (rd r.PC) + r.U.X) % 256, r.go (nx r.PC), all_rd [_, _], by simp, by simp, rfl, rng_mod _, fun k => rfl⟩
theorem shape4 : Shape P L r (pl4 q r) := ⟨[rd r.PC, rd (byteOf P L (rd r.PC))], (byteOf P L (rd r.PC) + r.U.Y) % 256, r.go (nx r.PC), all_rd [_, _], by simp, by simp, rfl, rng_mod _, fun k => rfl⟩
theorem shape5 : Shape P L r (pl5 q r) := ⟨[rd r.PC, rd (nx r.PC)], byteOf P L (rd r.PC) + 256 * byteOf P L (rd (nx r.PC)), (r.go (nx r.PC)).go (nx (nx r.PC)), all_rd [_, _], by simp, by simp, rfl, rng_pair (rng_byteOf _ _ _) (rng_byteOf _ _ _), fun k => rfl⟩
theorem shape8 : Shape P L r (pl8 q r) := by
  let g := (byteOf P L (rd r.PC) + r.U.X) % 256
  exact ⟨[rd r.PC, rd (byteOf P L (rd r.PC)), rd g, rd (g / 256 * 256 + (g + 1) % 256)], byteOf P L (rd g) + 256 * byteOf P L (rd (g / 256 * 256 + (g + 1) % 256)), r.go (nx r.PC), all_rd [_, _, _, _], by simp, by simp, rfl, rng_pair (rng_byteOf _ _ _) (rng_byteOf _ _ _), fun k => rfl⟩
theorem shape6 : Shape P L r (pl6 q r) := by
  obtain ⟨pre, h1, h2, h3⟩ := far_shape P L q (byteOf P L (rd r.PC) + 256 * byteOf P L (rd (nx r.PC))) r.U.X
  refine ⟨[rd r.PC, rd (nx r.PC)] ++ pre, (byteOf P L (rd r.PC) + 256 * byteOf P L (rd (nx r.PC)) + r.U.X) % 65536, (r.go (nx r.PC)).go (nx (nx r.PC)), ?_, by simp, by simp; omega, rfl, rng65 _, fun k => ?_⟩
  · intro x hx
    rcases List.mem_append.1 hx with hx | hx
    · exact all_rd [_, _] x hx
    · exact h1 x hx
  · have := h3 (fun a => k a ((r.go (nx r.PC)).go (nx (nx r.PC))))
    show (_, _, rd r.PC :: rd (nx r.PC) :: (runP P (farP (byteOf P L (rd r.PC) + 256 * byteOf P L (rd (nx r.PC))) r.U.X q fun a => k a ((r.go (nx r.PC)).go (nx (nx r.PC)))) L).2.2) = _
    rw [this]
    exact Prod.ext (congrArg (·.1) this) (Prod.ext (congrArg (·.2.1) this) rfl)
theorem shape7 : Shape P L r (pl7 q r) := by
  obtain ⟨pre, h1, h2, h3⟩ := far_shape P L q (byteOf P L (rd r.PC) + 256 * byteOf P L (rd (nx r.PC))) r.U.Y
  refine ⟨[rd r.PC, rd (nx r.PC)] ++ pre, (byteOf P L (rd r.PC) + 256 * byteOf P L (rd (nx r.PC)) + r.U.Y) % 65536, (r.go (nx r.PC)).go (nx (nx r.PC)), ?_, by simp, by simp; omega, rfl, rng65 _, fun k => ?_⟩
  · intro x hx
    rcases List.mem_append.1 hx with hx | hx
    · exact all_rd [_, _] x hx
    · exact h1 x hx
  · have := h3 (fun a => k a ((r.go (nx r.PC)).go (nx (nx r.PC))))
    show (_, _, rd r.PC :: rd (nx r.PC) :: (runP P (farP (byteOf P L (rd r.PC) + 256 * byteOf P L (rd (nx r.PC))) r.U.Y q fun a => k a ((r.go (nx r.PC)).go (nx (nx r.PC)))) L).2.2) = _
    rw [this]
    exact Prod.ext (congrArg (·.1) this) (Prod.ext (congrArg (·.2.1) this) rfl)
theorem shape9 : Shape P L r (pl9 q r) := by
  let g := byteOf P L (rd r.PC)
  let a := byteOf P L (rd g) + 256 * byteOf P L (rd (g / 256 * 256 + (g + 1) % 256))
  obtain ⟨pre, h1, h2, h3⟩ := far_shape P L q a r.U.Y
  refine ⟨[rd r.PC, rd g, rd (g / 256 * 256 + (g + 1) % 256)] ++ pre, (a + r.U.Y) % 65536, r.go (nx r.PC), ?_, by simp, by simp; omega, rfl, rng65 _, fun k => ?_⟩
  · intro x hx
    rcases List.mem_append.1 hx with hx | hx
    · exact all_rd [_, _, _] x hx
    · exact h1 x hx
  · have := h3 (fun a => k a (r.go (nx r.PC)))
    show (_, _, rd r.PC :: rd g :: rd (g / 256 * 256 + (g + 1) % 256) :: (runP P (farP a r.U.Y q fun a => k a (r.go (nx r.PC))) L).2.2) = _
    rw [this]
    exact Prod.ext (congrArg (·.1) this) (Prod.ext (congrArg (·.2.1) this) rfl)
end

/-- What is done in an instruction that isn't of the flow. -/
def Kinded (P : List Int) (L : List RAcc) (q : Regs) (b : Int) (l : List Acc) : Prop :=
  ∃ pre, (∀ x ∈ pre, x.Put = false) ∧ 2 ≤ pre.length ∧ pre.length ≤ 7 ∧
    ((aKind (codeF b).Op = 3 ∧ ∃ a, rng 65536 a ∧ l = pre ++ [wr a (uStore q.U (codeF b).Op)]) ∨
     (aKind (codeF b).Op = 2 ∧ (codeF b).Mode ≠ 0 ∧ ∃ a n, rng 65536 a ∧ l = pre ++ [rd a, wr a (byteOf P L (rd a)), wr a n]) ∨
     (aKind (codeF b).Op ≠ 3 ∧ ¬ (aKind (codeF b).Op = 2 ∧ (codeF b).Mode ≠ 0) ∧ l = pre))

theorem kind_r {P : List Int} {L : List RAcc} {q : Regs} {b : Int} {pl : Pl} {r : Regs} (h : Shape P L r (pl true r)) (hk : aKind (codeF b).Op = 1) : Kinded P L q b (rd q.PC :: (runP P (rP pl (codeF b) r) L).2.2) := by
  obtain ⟨pre, a, r', h1, h2, h3, h4, h5, h6⟩ := h
  refine ⟨rd q.PC :: (pre ++ [rd a]), ?_, by simp, by simp; omega, .inr (.inr ⟨by rw [hk]; decide, (fun h => by rw [hk] at h; exact absurd h.1 (by decide)), ?_⟩)⟩
  · intro x hx
    rcases List.mem_cons.1 hx with rfl | hx
    · rfl
    · rcases List.mem_append.1 hx with hx | hx
      · exact h1 x hx
      · rw [List.mem_singleton.1 hx]; rfl
  · unfold rP; rw [h6]; rfl
theorem kind_s {P : List Int} {L : List RAcc} {q : Regs} {b : Int} {pl : Pl} {r : Regs} (h : Shape P L r (pl false r)) (hk : aKind (codeF b).Op = 3) (hu : r.U = q.U) : Kinded P L q b (rd q.PC :: (runP P (sP pl (codeF b) r) L).2.2) := by
  obtain ⟨pre, a, r', h1, h2, h3, h4, h5, h6⟩ := h
  refine ⟨rd q.PC :: pre, ?_, by simp; omega, by simp; omega, .inl ⟨hk, a, h5, ?_⟩⟩
  · intro x hx
    rcases List.mem_cons.1 hx with rfl | hx
    · rfl
    · exact h1 x hx
  · unfold sP; rw [h6, ← hu, ← h4]; rfl
theorem kind_c {P : List Int} {L : List RAcc} {q : Regs} {b : Int} {pl : Pl} {r : Regs} (h : Shape P L r (pl false r)) (hk : aKind (codeF b).Op = 2) (hm : (codeF b).Mode ≠ 0) : Kinded P L q b (rd q.PC :: (runP P (cP pl (codeF b) r) L).2.2) := by
  obtain ⟨pre, a, r', h1, h2, h3, h4, h5, h6⟩ := h
  refine ⟨rd q.PC :: pre, ?_, by simp; omega, by simp; omega, .inr (.inl ⟨hk, hm, a, (uChange r'.U (codeF b).Op (byteOf P L (rd a))).2, h5, ?_⟩)⟩
  · intro x hx
    rcases List.mem_cons.1 hx with rfl | hx
    · rfl
    · exact h1 x hx
  · unfold cP; rw [h6]; rfl
theorem kind_imp {P : List Int} {L : List RAcc} {q : Regs} {b : Int} {r : Regs} (h3 : aKind (codeF b).Op ≠ 3) (hm : (codeF b).Mode = 0) : Kinded P L q b (rd q.PC :: (runP P (impP (codeF b) r) L).2.2) :=
  ⟨[rd q.PC, rd r.PC], all_rd [_, _], by simp, by simp, .inr (.inr ⟨h3, fun h => h.2 hm, rfl⟩)⟩
theorem kind_imm {P : List Int} {L : List RAcc} {q : Regs} {b : Int} {r : Regs} (hk : aKind (codeF b).Op = 1) : Kinded P L q b (rd q.PC :: (runP P (immP (codeF b) r) L).2.2) :=
  ⟨[rd q.PC, rd r.PC], all_rd [_, _], by simp, by simp, .inr (.inr ⟨by rw [hk]; decide, (fun h => by rw [hk] at h; exact absurd h.1 (by decide)), rfl⟩)⟩
theorem kind_br {P : List Int} {L : List RAcc} {q : Regs} {b : Int} {r : Regs} (hk : aKind (codeF b).Op = 5) : Kinded P L q b (rd q.PC :: (runP P (brP (codeF b) r) L).2.2) := by
  have h3 : aKind (codeF b).Op ≠ 3 := by rw [hk]; decide
  have h2 : ¬ (aKind (codeF b).Op = 2 ∧ (codeF b).Mode ≠ 0) := fun h => by rw [hk] at h; exact absurd h.1 (by decide)
  let d := byteOf P L (rd r.PC)
  have e : (runP P (brP (codeF b) r) L).2.2 = rd r.PC :: (runP P (if uTakes r.U (codeF b).Op = true then .acc (rd (nx r.PC)) fun _ =>
    if nx r.PC / 256 * 256 + (nx r.PC + sgn d) % 65536 % 256 = (nx r.PC + sgn d) % 65536 then .ret ((r.go (nx r.PC)).go ((nx r.PC + sgn d) % 65536)) else .acc (rd (nx r.PC / 256 * 256 + (nx r.PC + sgn d) % 65536 % 256)) fun _ => .ret ((r.go (nx r.PC)).go ((nx r.PC + sgn d) % 65536))
    else .ret (r.go (nx r.PC))) L).2.2 := rfl
  rw [e]
  by_cases h : uTakes r.U (codeF b).Op = true
  · rw [if_pos h]
    by_cases hc : nx r.PC / 256 * 256 + (nx r.PC + sgn d) % 65536 % 256 = (nx r.PC + sgn d) % 65536
    · rw [if_pos hc]; exact ⟨[rd q.PC, rd r.PC, rd _], all_rd [_, _, _], by simp, by simp, .inr (.inr ⟨h3, h2, rfl⟩)⟩
    · rw [if_neg hc]; exact ⟨[rd q.PC, rd r.PC, rd _, rd _], all_rd [_, _, _, _], by simp, by simp, .inr (.inr ⟨h3, h2, rfl⟩)⟩
  · rw [if_neg h]; exact ⟨[rd q.PC, rd r.PC], all_rd [_, _], by simp, by simp, .inr (.inr ⟨h3, h2, rfl⟩)⟩

theorem kinded_0 {P : List Int} {L : List RAcc} {q : Regs} {b : Int} (hj : aKind (codeF b).Op ≠ 6) {i : Nat} (h : cls (codeF b) i = true) (h1 : 0 ≤ i) (h2 : i < 6) : Kinded P L q b (rd q.PC :: (runP P ((bodyT.getD i fun _ r => .ret r) (codeF b) (q.go (nx q.PC))) L).2.2) := by
  rcases (show i = 0 ∨ i = 1 ∨ i = 2 ∨ i = 3 ∨ i = 4 ∨ i = 5 by omega) with e_ | e_ | e_ | e_ | e_ | e_
  all_goals subst e_
  all_goals simp only [cls, clsT, Bool.and_eq_true, Bool.or_eq_true, beq_iff_eq, List.getElem?_cons_succ, List.getElem?_cons_zero] at h
  · exact kind_r (pl := pl2) (shape2 _ _ _ _) h.1.2
  · exact kind_c (pl := pl2) (shape2 _ _ _ _) h.1.2 (by rw [h.1.1]; decide)
  · exact kind_s (pl := pl2) (shape2 _ _ _ _) h.1.2 rfl
  · exact kind_r (pl := pl3) (shape3 _ _ _ _) h.1.2
  · exact kind_c (pl := pl3) (shape3 _ _ _ _) h.1.2 (by rw [h.1.1]; decide)
  · exact kind_s (pl := pl3) (shape3 _ _ _ _) h.1.2 rfl
theorem kinded_6 {P : List Int} {L : List RAcc} {q : Regs} {b : Int} (hj : aKind (codeF b).Op ≠ 6) {i : Nat} (h : cls (codeF b) i = true) (h1 : 6 ≤ i) (h2 : i < 12) : Kinded P L q b (rd q.PC :: (runP P ((bodyT.getD i fun _ r => .ret r) (codeF b) (q.go (nx q.PC))) L).2.2) := by
  rcases (show i = 6 ∨ i = 7 ∨ i = 8 ∨ i = 9 ∨ i = 10 ∨ i = 11 by omega) with e_ | e_ | e_ | e_ | e_ | e_
  all_goals subst e_
  all_goals simp only [cls, clsT, Bool.and_eq_true, Bool.or_eq_true, beq_iff_eq, List.getElem?_cons_succ, List.getElem?_cons_zero] at h
  · exact kind_r (pl := pl4) (shape4 _ _ _ _) h.1.2
  · exact kind_c (pl := pl4) (shape4 _ _ _ _) h.1.2 (by rw [h.1.1]; decide)
  · exact kind_s (pl := pl4) (shape4 _ _ _ _) h.1.2 rfl
  · exact kind_r (pl := pl5) (shape5 _ _ _ _) h.1.2
  · exact kind_c (pl := pl5) (shape5 _ _ _ _) h.1.2 (by rw [h.1.1]; decide)
  · exact kind_s (pl := pl5) (shape5 _ _ _ _) h.1.2 rfl
theorem kinded_12 {P : List Int} {L : List RAcc} {q : Regs} {b : Int} (hj : aKind (codeF b).Op ≠ 6) {i : Nat} (h : cls (codeF b) i = true) (h1 : 12 ≤ i) (h2 : i < 18) : Kinded P L q b (rd q.PC :: (runP P ((bodyT.getD i fun _ r => .ret r) (codeF b) (q.go (nx q.PC))) L).2.2) := by
  rcases (show i = 12 ∨ i = 13 ∨ i = 14 ∨ i = 15 ∨ i = 16 ∨ i = 17 by omega) with e_ | e_ | e_ | e_ | e_ | e_
  all_goals subst e_
  all_goals simp only [cls, clsT, Bool.and_eq_true, Bool.or_eq_true, beq_iff_eq, List.getElem?_cons_succ, List.getElem?_cons_zero] at h
  · exact kind_r (pl := pl6) (shape6 _ _ _ _) h.1.2
  · exact kind_c (pl := pl6) (shape6 _ _ _ _) h.1.2 (by rw [h.1.1]; decide)
  · exact kind_s (pl := pl6) (shape6 _ _ _ _) h.1.2 rfl
  · exact kind_r (pl := pl7) (shape7 _ _ _ _) h.1.2
  · exact kind_c (pl := pl7) (shape7 _ _ _ _) h.1.2 (by rw [h.1.1]; decide)
  · exact kind_s (pl := pl7) (shape7 _ _ _ _) h.1.2 rfl
theorem kinded_18 {P : List Int} {L : List RAcc} {q : Regs} {b : Int} (hj : aKind (codeF b).Op ≠ 6) {i : Nat} (h : cls (codeF b) i = true) (h1 : 18 ≤ i) (h2 : i < 24) : Kinded P L q b (rd q.PC :: (runP P ((bodyT.getD i fun _ r => .ret r) (codeF b) (q.go (nx q.PC))) L).2.2) := by
  rcases (show i = 18 ∨ i = 19 ∨ i = 20 ∨ i = 21 ∨ i = 22 ∨ i = 23 by omega) with e_ | e_ | e_ | e_ | e_ | e_
  all_goals subst e_
  all_goals simp only [cls, clsT, Bool.and_eq_true, Bool.or_eq_true, beq_iff_eq, List.getElem?_cons_succ, List.getElem?_cons_zero] at h
  · exact kind_r (pl := pl8) (shape8 _ _ _ _) h.1.2
  · exact kind_c (pl := pl8) (shape8 _ _ _ _) h.1.2 (by rw [h.1.1]; decide)
  · exact kind_s (pl := pl8) (shape8 _ _ _ _) h.1.2 rfl
  · exact kind_r (pl := pl9) (shape9 _ _ _ _) h.1.2
  · exact kind_c (pl := pl9) (shape9 _ _ _ _) h.1.2 (by rw [h.1.1]; decide)
  · exact kind_s (pl := pl9) (shape9 _ _ _ _) h.1.2 rfl
theorem kinded_24 {P : List Int} {L : List RAcc} {q : Regs} {b : Int} (hj : aKind (codeF b).Op ≠ 6) {i : Nat} (h : cls (codeF b) i = true) (h1 : 24 ≤ i) (h2 : i < 30) : Kinded P L q b (rd q.PC :: (runP P ((bodyT.getD i fun _ r => .ret r) (codeF b) (q.go (nx q.PC))) L).2.2) := by
  rcases (show i = 24 ∨ i = 25 ∨ i = 26 ∨ i = 27 ∨ i = 28 ∨ i = 29 by omega) with e_ | e_ | e_ | e_ | e_ | e_
  all_goals subst e_
  all_goals simp only [cls, clsT, Bool.and_eq_true, Bool.or_eq_true, beq_iff_eq, List.getElem?_cons_succ, List.getElem?_cons_zero] at h
  · exact kind_imp (by rw [h.1.2]; decide) h.1.1
  · exact kind_imp (by rw [h.1.2]; decide) h.1.1
  · exact kind_imp (by rw [h.1.2]; decide) h.1.1
  · exact kind_imm h.1.2
  · exact kind_br h.1.2
  · exact absurd h.1.2 hj
theorem kinded_30 {P : List Int} {L : List RAcc} {q : Regs} {b : Int} (hj : aKind (codeF b).Op ≠ 6) {i : Nat} (h : cls (codeF b) i = true) (h1 : 30 ≤ i) (h2 : i < 36) : Kinded P L q b (rd q.PC :: (runP P ((bodyT.getD i fun _ r => .ret r) (codeF b) (q.go (nx q.PC))) L).2.2) := by
  rcases (show i = 30 ∨ i = 31 ∨ i = 32 ∨ i = 33 ∨ i = 34 ∨ i = 35 by omega) with e_ | e_ | e_ | e_ | e_ | e_
  all_goals subst e_
  all_goals simp only [cls, clsT, Bool.and_eq_true, Bool.or_eq_true, beq_iff_eq, List.getElem?_cons_succ, List.getElem?_cons_zero] at h
  · exact absurd h.1.2 hj
  · exact absurd h.1.2 hj
  · exact absurd h.1.2 hj
  · exact absurd h.1.2 hj
  · exact absurd h.1.2 hj
  · exact absurd h.1.2 hj
theorem kinded_36 {P : List Int} {L : List RAcc} {q : Regs} {b : Int} (hj : aKind (codeF b).Op ≠ 6) {i : Nat} (h : cls (codeF b) i = true) (h1 : 36 ≤ i) (h2 : i < 40) : Kinded P L q b (rd q.PC :: (runP P ((bodyT.getD i fun _ r => .ret r) (codeF b) (q.go (nx q.PC))) L).2.2) := by
  rcases (show i = 36 ∨ i = 37 ∨ i = 38 ∨ i = 39 by omega) with e_ | e_ | e_ | e_
  all_goals subst e_
  all_goals simp only [cls, clsT, Bool.and_eq_true, Bool.or_eq_true, beq_iff_eq, List.getElem?_cons_succ, List.getElem?_cons_zero] at h
  · exact absurd h.1.2 hj
  · exact absurd h.1.2 hj
  · exact absurd h.1.2 hj
  · exact absurd h.1.2 hj
theorem kinded {P : List Int} {L : List RAcc} {q : Regs} (hj : aKind (codeF (codeAt P L q)).Op ≠ 6) : Kinded P L q (codeAt P L q) (runP P (iprog q) L).2.2 := by
  have e : (runP P (iprog q) L).2.2 = rd q.PC :: (runP P ((bodyT.getD (clsOf (codeF (codeAt P L q))) fun _ r => .ret r) (codeF (codeAt P L q)) (q.go (nx q.PC))) L).2.2 := rfl
  rw [e]
  have w := rng_byteOf P L (rd q.PC)
  have w : rng 256 (codeAt P L q) := w
  generalize codeAt P L q = b at w hj ⊢
  have h := cls_of w
  have hlt := cls_lt h
  rcases (show (0 ≤ clsOf (codeF b) ∧ clsOf (codeF b) < 6) ∨ (6 ≤ clsOf (codeF b) ∧ clsOf (codeF b) < 12) ∨ (12 ≤ clsOf (codeF b) ∧ clsOf (codeF b) < 18) ∨ (18 ≤ clsOf (codeF b) ∧ clsOf (codeF b) < 24) ∨ (24 ≤ clsOf (codeF b) ∧ clsOf (codeF b) < 30) ∨ (30 ≤ clsOf (codeF b) ∧ clsOf (codeF b) < 36) ∨ (36 ≤ clsOf (codeF b) ∧ clsOf (codeF b) < 40) by omega) with e_ | e_ | e_ | e_ | e_ | e_ | e_
  · exact kinded_0 hj h e_.1 e_.2
  · exact kinded_6 hj h e_.1 e_.2
  · exact kinded_12 hj h e_.1 e_.2
  · exact kinded_18 hj h e_.1 e_.2
  · exact kinded_24 hj h e_.1 e_.2
  · exact kinded_30 hj h e_.1 e_.2
  · exact kinded_36 hj h e_.1 e_.2
end Go.Proofs.YtmnhmplcpijanaaGreat
