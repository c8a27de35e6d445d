/-
  Lists that grow, as Lean's own lists. No condition.
-/
import Derived.Test.YtgnhhnmpeklciaaVLm
namespace Go.Proofs.Ytgnhhnmpeklciaa.VX
open Go

/-- A stretch of rows, as a list says. -/
def rowsL {α : Type} (cells : α → List Value) (d : α) (z : Nat) (L : List α) : Seg := .rows L.length z fun j => cells (L.getD j d)
/-- A stretch of integers, as a list says. -/
def intsL (k : IntKind) (L : List Int) : Seg := .ints k L.length fun j => L.getD j 0

theorem getD_snoc {α : Type} (d x : α) : ∀ (L : List α) (j : Nat), (L ++ [x]).getD j d = bif Nat.beq j L.length then x else L.getD j d
  | [], 0 => rfl
  | [], j + 1 => by
    show d = bif Nat.beq (j + 1) 0 then x else d
    rfl
  | a :: L, 0 => rfl
  | a :: L, j + 1 => by
    have := getD_snoc d x L j
    show (L ++ [x]).getD j d = bif Nat.beq j L.length then x else L.getD j d
    exact this

theorem len_snoc {α : Type} (L : List α) (x : α) : L.length + 1 = (L ++ [x]).length := by simp

theorem beqSelf (n : Nat) : Nat.beq n n = true := Nat.beq_refl n

theorem rowsL_snoc {α : Type} {cells : α → List Value} {d : α} {z : Nat} (L : List α) (x : α) (h : (cells x).length = z) : addSegs [rowsL cells d z L] (cells x) = [rowsL cells d z (L ++ [x])] := by
  unfold rowsL
  simp only [addSegs, h, beqSelf, cond_true, List.length_append, List.length_cons, List.length_nil, Nat.zero_add, List.cons.injEq, Seg.rows.injEq, and_true, true_and]
  funext j
  simp only [upd, getD_snoc]
  cases Nat.beq j L.length <;> rfl

theorem intsL_snoc {k : IntKind} (L : List Int) (x : Int) : addSegs [intsL k L] [.int k x] = [intsL k (L ++ [x])] := by
  unfold intsL
  simp only [addSegs, beq_self_eq_true, cond_true, List.length_append, List.length_cons, List.length_nil, Nat.zero_add, List.cons.injEq, Seg.ints.injEq, and_true, true_and]
  funext j
  simp only [upd, getD_snoc]

/-- A list's slice, of one more. -/
theorem sl_snoc {α : Type} (n z : Nat) (L : List α) (x : α) : Value.slice (some ⟨n, 0, some 0⟩) (L.length + 1) z = .slice (some ⟨n, 0, some 0⟩) (L ++ [x]).length z := by rw [len_snoc]
theorem rows_size {α : Type} (cells : α → List Value) (d : α) (z t : Nat) (ro : Bool) (L : List α) : (⟨[rowsL cells d z L], t, ro⟩ : Blk).size = L.length * z := by
  simp [Blk.size, segsSize, Seg.size, rowsL]
theorem ints_size (k : IntKind) (t : Nat) (ro : Bool) (L : List Int) : (⟨[intsL k L], t, ro⟩ : Blk).size = L.length * 1 := by
  simp [Blk.size, segsSize, Seg.size, intsL]

/-- A list that was laid whole. -/
theorem rowsL_of {α : Type} {cells : α → List Value} {d : α} {z : Nat} (L : List α) (h : ∀ x, (cells x).length = z) (hz : 0 < z) : SegsOk [rowsL cells d z L] (L.flatMap cells) := by
  have hl : ∀ L : List α, (L.flatMap cells).length = L.length * z := by
    intro L
    induction L with
    | nil => simp
    | cons a r ih => rw [List.flatMap_cons, List.length_append, ih, h, List.length_cons, Nat.add_mul]; omega
  refine ⟨by rw [hl]; simp [rowsL, segsSize, Seg.size], fun o v hv => ?_⟩
  have e : segsGet? [rowsL cells d z L] o = (bif Nat.blt o (L.length * z) then (bif Nat.blt o (L.length * z) then (cells (L.getD (o / z) d))[o % z]? else none) else none) := rfl
  rw [e] at hv
  cases hb : Nat.blt o (L.length * z) <;> rw [hb] at hv
  · simp at hv
  · simp only [cond_true] at hv
    have hlt := blt_tt hb
    clear e hb
    induction L generalizing o with
    | nil => simp at hlt
    | cons a r ih =>
      rw [List.flatMap_cons]
      rcases Nat.lt_or_ge o z with h1 | h1
      · rw [List.getElem?_append_left (by rw [h]; exact h1)]
        rw [Nat.div_eq_of_lt h1, Nat.mod_eq_of_lt h1] at hv
        exact hv
      · rw [List.getElem?_append_right (by rw [h]; exact h1), h]
        refine ih (o - z) ?_ (by rw [List.length_cons, Nat.add_mul] at hlt; omega)
        have e1 : o / z = (o - z) / z + 1 := by
          have := Nat.add_div_right (o - z) hz
          rw [show o - z + z = o by omega] at this; exact this
        have e2 : o % z = (o - z) % z := by
          have := Nat.add_mod_right (o - z) z
          rw [show o - z + z = o by omega] at this; exact this
        rw [e1, e2] at hv
        exact hv
theorem intsL_of {k : IntKind} (L : List Int) : SegsOk [intsL k L] (L.map (Value.int k)) := by
  refine ⟨by simp [intsL, segsSize, Seg.size], fun o v hv => ?_⟩
  have e : segsGet? [intsL k L] o = (bif Nat.blt o L.length then (bif Nat.blt o L.length then some (Value.int k (L.getD o 0)) else none) else none) := rfl
  rw [e] at hv
  cases hb : Nat.blt o L.length <;> rw [hb] at hv
  · simp at hv
  · simp only [cond_true, Option.some.injEq] at hv
    subst hv
    have hlt := blt_tt hb
    simp [hlt]

/-- What a contract comes to, its lists under other names. -/
def renP (σ : List (Nat × Nat)) (n0 n' : Nat) (v v2 : Value) (H1 H' : Heap) : Prop := tagTo σ v v2 = v2 ∧ (cvH σ n0 (lk H1) H' ∧ renOk σ n0 n' = true)
theorem fn_ren {P : Program} {g : FuncId} {n0 : Nat} {A : List Value} {H H1 H' : Heap} {v v2 : Value} (f : FnSpec P g n0 A H v H1) (σ : List (Nat × Nat)) (n' : Nat) (h : (v2 = v2 ∧ (subT H' ∧ true = true)) = renP σ n0 n' v v2 H1 H') : FnSpec P g n0 A H v2 H' := by
  have h2 : renP σ n0 n' v v2 H1 H' := h ▸ ⟨rfl, subT_all H', rfl⟩
  exact f.ren v2 h2.2.2 h2.1 h2.2.1

/-- What stands ahead of a contract, lists being nil yet. -/
def nilP (σ : List (Nat × Nat)) (n n0 : Nat) (A A0 : List Value) (H H0 : Heap) : Prop := List.zipWith (tagTo σ) A A0 = A0 ∧ (A.length = A0.length ∧ (cvH σ n (lk H) H0 ∧ (renOk σ n n0 && (Nat.ble n n0 && Nat.ble 1000 n)) = true))
theorem fn_nil {P : Program} (hG : P.globals.size ≤ 1000) {g : FuncId} {n0 : Nat} {A0 : List Value} {H0 H1 : Heap} {v : Value} (f : FnSpec P g n0 A0 H0 v H1) (σ : List (Nat × Nat)) (n : Nat) (A : List Value) (H : Heap)
    (h : (A0 = A0 ∧ (A.length = A.length ∧ (subT H0 ∧ true = true))) = nilP σ n n0 A A0 H H0) : FnSpec P g n A H v H1 := by
  have h2 : nilP σ n n0 A A0 H H0 := h ▸ ⟨rfl, rfl, subT_all H0, rfl⟩
  obtain ⟨h3, h4, h5, h6⟩ := h2
  simp only [Bool.and_eq_true] at h6
  exact f.pre σ hG (ble_tt h6.2.1) (ble_tt h6.2.2) h6.1 h3.symm h4 h5

end Go.Proofs.Ytgnhhnmpeklciaa.VX
