/-
  AluNames: what the Go function computes is true. Written by gen_np.py. No condition.
-/
import Derived.Test.YtfjeifmenlnkkaaNB
namespace Go.Proofs.Ytfjeifmenlnkkaa
open Go VX
set_option linter.unusedVariables false
set_option linter.unusedSimpArgs false
set_option maxRecDepth 100000

def findAll : Nat → Bool
  | 0 => true
  | k + 1 => (findF (nameB (k : Int)) == ((k : Int), true)) && !eqB (nameB (k : Int)) ⟨#[]⟩ && findAll k
theorem findAll_70 : findAll 70 = true := by kernel_rfl
theorem findAll_get : ∀ (m k : Nat), findAll m = true → k < m → findF (nameB (k : Int)) = ((k : Int), true) ∧ eqB (nameB (k : Int)) ⟨#[]⟩ = false
  | 0, k, _, h => by omega
  | m + 1, k, h, hk => by
    simp only [findAll, Bool.and_eq_true, beq_iff_eq, Bool.not_eq_true'] at h
    by_cases e : k = m
    · subst e; exact h.1
    · exact findAll_get m k h.2 (by omega)
theorem find_none : findF ⟨#[]⟩ = (0, false) := by kernel_rfl
theorem eqB_none : eqB ⟨#[]⟩ ⟨#[]⟩ = true := by kernel_rfl
theorem nameB_no {op : Int} (h : 69 < op) : nameB op = ⟨#[]⟩ := by unfold nameB; rw [if_neg (by omega)]
theorem find_op {op : Int} (h : 0 ≤ op ∧ op ≤ 69) : findF (nameB op) = (op, true) ∧ eqB (nameB op) ⟨#[]⟩ = false := by
  obtain ⟨k, rfl⟩ := Int.eq_ofNat_of_zero_le h.1
  exact findAll_get 70 k findAll_70 (by omega)
theorem namesB_get {i : Int} (h : 0 ≤ i ∧ i ≤ 69) : List.getD namesB (Int.toNat i) ⟨#[]⟩ = nameB i := by unfold nameB; rw [if_pos h]
theorem kinds_eq {op : Int} (h : 0 ≤ op ∧ op < 256) : aKind op = rKind op := by
  unfold aKind rKind
  simp only [IntKind.wrap_i64, decide_eq_true_eq]
  repeat' split
  all_goals first | rfl | omega
theorem kind_rng (op : Int) : 0 ≤ aKind op ∧ aKind op < 256 := by
  unfold aKind
  repeat' split
  all_goals decide

theorem law7_L1nynnnyn_all (op : Int) (name : ByteArray) : ∀ (k : Nat) (i : Int) (x : Bool), 0 ≤ i → i + (k : Int) = 70 →
    (∃ r, LoopR (law7_L1nynnnyn op name) (i, x) (.inl r) ∧ findFrom (ByteArray.extract name 0 (Int.toNat 8)) k i = (0, false)) ∨ (∃ j, 0 ≤ j ∧ j < 70 ∧ LoopR (law7_L1nynnnyn op name) (i, x) (.inr (if (findF (ByteArray.extract name 0 (Int.toNat 8))).2 = true then (IntKind.i64.wrap (findF (ByteArray.extract name 0 (Int.toNat 8))).1 : Int) == j else false)) ∧ findFrom (ByteArray.extract name 0 (Int.toNat 8)) k i = (j, true)) := by
  intro k
  induction k with
  | zero =>
    intro i x h0 hi
    exact .inl ⟨_, .last (.p4 (by simp; omega)), rfl⟩
  | succ k ih =>
    intro i x h0 hi
    have hw2 : IntKind.i64.wrap (i + 1) = i + 1 := i64_id ⟨by omega, by omega⟩
    have hlt : (decide (i < 70)) = true := by simp; omega
    have hg := namesB_get (i := i) ⟨h0, by omega⟩
    unfold findFrom
    cases he : eqB (nameB i) (ByteArray.extract name 0 (Int.toNat 8)) with
    | true =>
      rw [if_pos rfl]
      refine .inr ⟨i, h0, by omega, .last ?_, rfl⟩
      have hc : (ByteArray.toList (List.getD namesB (Int.toNat i) ⟨#[]⟩) == ByteArray.toList (ByteArray.extract name 0 (Int.toNat 8))) = true := by rw [hg]; exact he
      cases hF : (findF (ByteArray.extract name 0 (Int.toNat 8))).2 with
      | true =>
        rw [if_pos rfl]
        exact law7_L1nynnnyn.p1 (xd := (i, x)) hlt h0 hc hF
      | false =>
        rw [if_neg (by simp)]
        exact law7_L1nynnnyn.p2 (xd := (i, x)) hlt h0 hc hF
    | false =>
      rw [if_neg (by simp)]
      have hc : (ByteArray.toList (List.getD namesB (Int.toNat i) ⟨#[]⟩) == ByteArray.toList (ByteArray.extract name 0 (Int.toNat 8))) = false := by rw [hg]; exact he
      have st := law7_L1nynnnyn.p3 (op := op) (name := name) (xd := (i, x)) hlt h0 hc
      simp only [hw2] at st
      rcases ih (i + 1) x (by omega) (by omega) with ⟨r, h1, h2⟩ | ⟨j, ha, hb, h1, h2⟩
      · exact .inl ⟨r, .more st h1, h2⟩
      · exact .inr ⟨j, ha, hb, .more st h1, h2⟩

theorem law7_L1nnnnnyn_all (op : Int) (name : ByteArray) : ∀ (k : Nat) (i : Int) (x : Bool), 0 ≤ i → i + (k : Int) = 70 →
    (∃ r, LoopR (law7_L1nnnnnyn op name) (i, x) (.inl r) ∧ findFrom name k i = (0, false)) ∨ (∃ j, 0 ≤ j ∧ j < 70 ∧ LoopR (law7_L1nnnnnyn op name) (i, x) (.inr (if (findF name).2 = true then (IntKind.i64.wrap (findF name).1 : Int) == j else false)) ∧ findFrom name k i = (j, true)) := by
  intro k
  induction k with
  | zero =>
    intro i x h0 hi
    exact .inl ⟨_, .last (.p4 (by simp; omega)), rfl⟩
  | succ k ih =>
    intro i x h0 hi
    have hw2 : IntKind.i64.wrap (i + 1) = i + 1 := i64_id ⟨by omega, by omega⟩
    have hlt : (decide (i < 70)) = true := by simp; omega
    have hg := namesB_get (i := i) ⟨h0, by omega⟩
    unfold findFrom
    cases he : eqB (nameB i) name with
    | true =>
      rw [if_pos rfl]
      refine .inr ⟨i, h0, by omega, .last ?_, rfl⟩
      have hc : (ByteArray.toList (List.getD namesB (Int.toNat i) ⟨#[]⟩) == ByteArray.toList name) = true := by rw [hg]; exact he
      cases hF : (findF name).2 with
      | true =>
        rw [if_pos rfl]
        exact law7_L1nnnnnyn.p1 (xd := (i, x)) hlt h0 hc hF
      | false =>
        rw [if_neg (by simp)]
        exact law7_L1nnnnnyn.p2 (xd := (i, x)) hlt h0 hc hF
    | false =>
      rw [if_neg (by simp)]
      have hc : (ByteArray.toList (List.getD namesB (Int.toNat i) ⟨#[]⟩) == ByteArray.toList name) = false := by rw [hg]; exact he
      have st := law7_L1nnnnnyn.p3 (op := op) (name := name) (xd := (i, x)) hlt h0 hc
      simp only [hw2] at st
      rcases ih (i + 1) x (by omega) (by omega) with ⟨r, h1, h2⟩ | ⟨j, ha, hb, h1, h2⟩
      · exact .inl ⟨r, .more st h1, h2⟩
      · exact .inr ⟨j, ha, hb, .more st h1, h2⟩

theorem names_true (op : Int) (name : ByteArray) (w : rng 256 op) : FnSpec Try.prog 7 1000 [.int .u8 op, .string name] [] (.bool true) [] := by
  have haw : (!awakeF) = false := rfl
  have w' : 0 ≤ op ∧ op < 256 := w
  have hio : IntKind.i64.wrap op = op := i64_id ⟨w'.1, by omega⟩
  have hi : 0 ≤ IntKind.i64.wrap op ∧ IntKind.i64.wrap op < 256 := by rw [hio]; exact w'
  have c3 : (!(ByteArray.toList (aNameB op) == ByteArray.toList (rNameB (IntKind.i64.wrap op)))) = false := by rw [hio]; simp [aNameB, rNameB]
  have c4 : (((IntKind.i64.wrap (aKind op)) : Int) != (rKind (IntKind.i64.wrap op))) = false := by
    have := kind_rng op
    rw [hio, i64_id ⟨this.1, by omega⟩, kinds_eq w']; simp
  rcases (show (0 ≤ op ∧ op ≤ 69) ∨ 69 < op by omega) with ho | ho
  · obtain ⟨f1, f2⟩ := find_op ho
    have c5 : (!((findF (rNameB op)).2 == (!(ByteArray.toList (rNameB op) == ByteArray.toList ⟨#[]⟩)))) = false := by
      have : (ByteArray.toList (rNameB op) == ByteArray.toList ⟨#[]⟩) = false := f2
      rw [this, show findF (rNameB op) = (op, true) from f1]; rfl
    have c6 : (findF (rNameB op)).2 = true := by rw [show findF (rNameB op) = (op, true) from f1]
    have c7 : (((findF (rNameB op)).1 : Int) != op) = false := by rw [show findF (rNameB op) = (op, true) from f1]; simp
    rcases bt (decide (((ByteArray.size name : Nat) : Int) > 8)) with hbig | hbig
    ·
      rcases law7_L1nynnnyn_all op name 70 0 false (by omega) (by omega) with ⟨r, h1, h2⟩ | ⟨j, ha, hb, h1, h2⟩
      · have h2 : findF (ByteArray.extract name 0 (Int.toNat 8)) = (0, false) := h2
        have := law7_p1 op name w haw hbig hi w c3 c4 (by rw [hio]; exact c5) (by rw [hio]; exact c6) (by rw [hio]; exact c7) r h1 (by rw [h2]; rfl)
        rw [h2] at this; exact this
      · have h2 : findF (ByteArray.extract name 0 (Int.toNat 8)) = (j, true) := h2
        have hj : IntKind.i64.wrap j = j := i64_id ⟨ha, by omega⟩
        have e : (if (findF (ByteArray.extract name 0 (Int.toNat 8))).2 = true then (IntKind.i64.wrap (findF (ByteArray.extract name 0 (Int.toNat 8))).1 : Int) == j else false) = true := by rw [h2]; simp [hj]
        rw [e] at h1
        exact law7_p2 op name w haw hbig hi w c3 c4 (by rw [hio]; exact c5) (by rw [hio]; exact c6) (by rw [hio]; exact c7) true h1
    ·
      rcases law7_L1nnnnnyn_all op name 70 0 false (by omega) (by omega) with ⟨r, h1, h2⟩ | ⟨j, ha, hb, h1, h2⟩
      · have h2 : findF name = (0, false) := h2
        have := law7_p5 op name w haw hbig hi w c3 c4 (by rw [hio]; exact c5) (by rw [hio]; exact c6) (by rw [hio]; exact c7) r h1 (by rw [h2]; rfl)
        rw [h2] at this; exact this
      · have h2 : findF name = (j, true) := h2
        have hj : IntKind.i64.wrap j = j := i64_id ⟨ha, by omega⟩
        have e : (if (findF name).2 = true then (IntKind.i64.wrap (findF name).1 : Int) == j else false) = true := by rw [h2]; simp [hj]
        rw [e] at h1
        exact law7_p6 op name w haw hbig hi w c3 c4 (by rw [hio]; exact c5) (by rw [hio]; exact c6) (by rw [hio]; exact c7) true h1
  · have e := nameB_no ho
    have c5 : (!((findF (rNameB op)).2 == (!(ByteArray.toList (rNameB op) == ByteArray.toList ⟨#[]⟩)))) = false := by
      rw [show rNameB op = ⟨#[]⟩ from e, find_none, show (ByteArray.toList ⟨#[]⟩ == ByteArray.toList ⟨#[]⟩) = true from eqB_none]; rfl
    have c6 : (findF (rNameB op)).2 = false := by rw [show rNameB op = ⟨#[]⟩ from e, find_none]
    rcases bt (decide (((ByteArray.size name : Nat) : Int) > 8)) with hbig | hbig
    ·
      rcases law7_L1nynnnyn_all op name 70 0 false (by omega) (by omega) with ⟨r, h1, h2⟩ | ⟨j, ha, hb, h1, h2⟩
      · have h2 : findF (ByteArray.extract name 0 (Int.toNat 8)) = (0, false) := h2
        have := law7_p3 op name w haw hbig hi w c3 c4 (by rw [hio]; exact c5) (by rw [hio]; exact c6) r h1 (by rw [h2]; rfl)
        rw [h2] at this; exact this
      · have h2 : findF (ByteArray.extract name 0 (Int.toNat 8)) = (j, true) := h2
        have hj : IntKind.i64.wrap j = j := i64_id ⟨ha, by omega⟩
        have e : (if (findF (ByteArray.extract name 0 (Int.toNat 8))).2 = true then (IntKind.i64.wrap (findF (ByteArray.extract name 0 (Int.toNat 8))).1 : Int) == j else false) = true := by rw [h2]; simp [hj]
        rw [e] at h1
        exact law7_p4 op name w haw hbig hi w c3 c4 (by rw [hio]; exact c5) (by rw [hio]; exact c6) true h1
    ·
      rcases law7_L1nnnnnyn_all op name 70 0 false (by omega) (by omega) with ⟨r, h1, h2⟩ | ⟨j, ha, hb, h1, h2⟩
      · have h2 : findF name = (0, false) := h2
        have := law7_p7 op name w haw hbig hi w c3 c4 (by rw [hio]; exact c5) (by rw [hio]; exact c6) r h1 (by rw [h2]; rfl)
        rw [h2] at this; exact this
      · have h2 : findF name = (j, true) := h2
        have hj : IntKind.i64.wrap j = j := i64_id ⟨ha, by omega⟩
        have e : (if (findF name).2 = true then (IntKind.i64.wrap (findF name).1 : Int) == j else false) = true := by rw [h2]; simp [hj]
        rw [e] at h1
        exact law7_p8 op name w haw hbig hi w c3 c4 (by rw [hio]; exact c5) (by rw [hio]; exact c6) true h1
end Go.Proofs.Ytfjeifmenlnkkaa
