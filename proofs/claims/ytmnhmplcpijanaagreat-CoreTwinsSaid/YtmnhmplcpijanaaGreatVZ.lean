/-
  Tables of tables of integers, and handed slices of integers. No condition.
-/
import Derived.Test.YtmnhmplcpijanaaGreatVW
import Derived.Test.YtmnhmplcpijanaaGreatVT
import Derived.Test.YtmnhmplcpijanaaGreatVN
namespace Go.Proofs.YtmnhmplcpijanaaGreat.VX
open Go Go.RowKit Go.WideShapes Go.ChangeShapes Go.WideElems
set_option linter.unusedSimpArgs false
set_option linter.unusedVariables false

/-- A table of tables of integers: the cells of a variable's block. -/
theorem tbl_cells2 {P : Program} {W : World} {laid : List (String × DataW Unit)} (h : laidMet P laid W) {n : String} {d : DataW Unit} (hm : (n, d) ∈ laid) {L : List (List Int)} {k : IntKind} (hd : d = .agg (L.map fun l => .agg (l.map fun x => .lit (.int k x)))) {g : Nat} (hg : P.globalNamed n = some g)
    {ta tr te : TypeId} (ht : (P.globals[g]?).map (·.type) = some ta) {n1 n2 : Nat} (hu : P.underlying ta = some (.array n1 tr)) (hur : P.underlying tr = some (.array n2 te)) (hue : P.underlying te = some (.int k)) (hcr : P.cellsOf tr = n2) (hc : P.cellsOf te = 1)
    (hl : L.length = n1) (hl2 : ∀ l ∈ L, l.length = n2) :
    ∃ cs t fr, W.heap[g]? = some (.cells cs t fr) ∧ ∀ r j, r < n1 → j < n2 → cs[r * n2 + j]? = some (.int k ((L.getD r []).getD j 0)) := by
  obtain ⟨ps, hv, _, _⟩ := h
  obtain ⟨g', t', cs, fuel, p, e1, e2, e3, e4⟩ := laid_entry hv hm
  obtain rfl := Option.some.inj (hg.symm.trans e1)
  obtain rfl := Option.some.inj (ht.symm.trans e2)
  obtain ⟨xs, m, _, ex, _, hxl, hel⟩ := DataW.trod_array hu e4
  have hxs : (xs.map (·.1)) = L.map fun l => .agg (l.map fun x => .lit (.int k x)) := by
    have := (Prod.mk.inj ex).1
    rw [hd] at this
    exact (DataW.agg.inj this).symm
  have hcell : ∀ r j, r < n1 → j < n2 → cs[r * n2 + j]? = some (.int k ((L.getD r []).getD j 0)) := by
    intro r j hr hj
    have hE := hel r hr
    rw [hcr, List.getElem?_eq_getElem (by omega)] at hE
    obtain ⟨ys, m2, _, ey, _, hyl, hyel⟩ := DataW.trod_array hur hE
    have hF := hyel j hj
    rw [hc, Nat.mul_one, List.getElem?_eq_getElem (by omega)] at hF
    obtain ⟨z, q1, q2, _⟩ := DataW.trod_int hue hF
    have e4 : (xs.map (·.1))[r]? = (L.map fun l => (DataW.agg (l.map fun x => .lit (.int k x)) : DataW Unit))[r]? := by rw [hxs]
    rw [List.getElem?_map, List.getElem?_map, List.getElem?_eq_getElem (by omega : r < xs.length), List.getElem?_eq_getElem (by omega : r < L.length)] at e4
    have e5 : xs[r].1 = DataW.agg ((L[r]'(by omega)).map fun x => .lit (.int k x)) := Option.some.inj e4
    have e6 : (ys.map (·.1)) = (L[r]'(by omega)).map fun x => DataW.lit (.int k x) := by
      have := (Prod.mk.inj (ey : (xs[r].1, xs[r].2) = _)).1
      exact DataW.agg.inj (Eq.trans (Eq.symm this) e5)
    have e7 : (ys.map (·.1))[j]? = ((L[r]'(by omega)).map fun x => (DataW.lit (.int k x) : DataW Unit))[j]? := by rw [e6]
    have hlr : (L[r]'(by omega)).length = n2 := hl2 _ (List.getElem_mem _)
    rw [List.getElem?_map, List.getElem?_map, List.getElem?_eq_getElem (by omega : j < ys.length), List.getElem?_eq_getElem (by omega : j < (L[r]'(by omega)).length), q2] at e7
    have hz : z = (L.getD r []).getD j 0 := by
      simp only [Option.map_some, Option.some.injEq, DataW.lit.injEq, Lit.int.injEq, true_and] at e7
      rw [e7, List.getD, List.getD, List.getElem?_eq_getElem (by omega : r < L.length)]
      simp only [Option.getD_some]
      rw [List.getElem?_eq_getElem (by omega)]; rfl
    rw [← hz]
    have h0 : ((((cs.toList.drop (r * n2)).take n2).drop j).take 1)[0]? = some (.int k z) := by rw [q1]; rfl
    rw [List.getElem?_take, List.getElem?_drop, List.getElem?_take, List.getElem?_drop] at h0
    simp only [Nat.lt_one_iff, if_true, Nat.add_zero, hj] at h0
    simpa using h0
  have hheap : ∃ t fr, W.heap[g]? = some (.cells cs t fr) := by
    simp only [World.var?, hg, Option.bind_some] at e3
    split at e3
    · rename_i c t fr hh
      simp only [Option.some.injEq] at e3
      subst e3
      exact ⟨_, _, hh⟩
    · simp at e3
  obtain ⟨t, fr, hh⟩ := hheap
  exact ⟨cs, t, fr, hh, hcell⟩

/-- A block of single cells, out of its cells. -/
theorem blk_ones {μ : Mu} {o : Option Obj} {cs : Array Value} {t : TypeId} {fr : Nat × Nat} (hh : o = some (.cells cs t fr)) (l : List Value) (hs : l.all scalar = true) (hl : ∀ (j : Nat) (v : Value), l[j]? = some v → cs[j]? = some v) (ty : TypeId) :
    BlkRel μ ⟨l.map .one, ty, true⟩ o := by
  refine ⟨cs, t, fr, hh, (fun hro => nomatch hro), fun off v hv => ?_⟩
  have hg : ∀ (l : List Value) (off : Nat), segsGet? (l.map .one) off = l[off]? := by
    intro l
    induction l with
    | nil => intro off; rfl
    | cons c l ih =>
      intro off
      cases off with
      | zero => rfl
      | succ off =>
        simp only [List.map_cons, segsGet?, Seg.size]
        have : Nat.blt (off + 1) 1 = false := by cases h : Nat.blt (off + 1) 1 with | false => rfl | true => have := blt_tt h; omega
        rw [this]
        simpa using ih off
  have hv' : l[off]? = some v := by rw [← hg l off]; exact hv
  exact ⟨v, hl off v hv', .of_scalar (List.all_eq_true.1 hs v (List.mem_of_getElem? hv'))⟩

/-- A handed slice of integers, as a row of integers. -/
def HandedInts (W : World) (k : IntKind) (f : Nat → Int) (N d : Nat) (v : Value) : Prop :=
  ∃ b, b < W.heap.size ∧ (∀ μ ty, BlkRel μ ⟨[.gap d, .ints k N f], ty, true⟩ W.heap[b]?) ∧ ∀ (μ : Mu) (id : Nat), μ id = some b → VRel μ (.slice (some ⟨id, 0, some d⟩) N 0) v

theorem handed_ints {W : World} {k : IntKind} {f : Nat → Int} {N d : Nat} {v : Value} (h : HandedAt W 1 (fun i => [.int k (f i)]) N d v) : HandedInts W k f N d v := by
  obtain ⟨b, hb, hB, hR⟩ := h
  refine ⟨b, hb, fun μ ty => ?_, hR⟩
  obtain ⟨cs, t, fr, ho, h1, h2⟩ := hB μ ty
  refine ⟨cs, t, fr, ho, (fun hro => nomatch hro), fun off u hu => h2 off u ?_⟩
  have e1 : (Blk.get? ⟨[.gap d, .ints k N f], ty, true⟩ off) = (bif Nat.blt off d then none else bif Nat.blt (off - d) N then (bif Nat.blt (off - d) N then some (.int k (f (off - d))) else none) else none) := rfl
  have e2 : (Blk.get? ⟨[.gap d, .rows N 1 fun i => [.int k (f i)]], ty, true⟩ off) = (bif Nat.blt off d then none else bif Nat.blt (off - d) (N * 1) then (bif Nat.blt (off - d) (N * 1) then [Value.int k (f ((off - d) / 1))][(off - d) % 1]? else none) else none) := rfl
  rw [e1] at hu
  rw [e2, Nat.mul_one, Nat.div_one, Nat.mod_one]
  exact hu

theorem open_bytes {H : Type} {enc : TypeId × Value → H} {P : Program} {W : World} {r : Reach} {b0 base : Nat} {sp : Nat → Bool} {held : Bool} {t e : TypeId} {v : Value} {dd : DataW H} {p : List MemPlace}
    (ht : P.underlying t = some (.slice e)) (he : P.underlying e = some (.int .u8)) (hz : P.cellsOf e = 1) (hany : ∃ (b : Nat) (cs : Array Value) (ty : TypeId) (fr : Nat × Nat), W.heap[b]? = some (Obj.cells cs ty fr))
    (hval : Value.okWide P W r b0 t v) (h : DataW.Trod enc P W base sp held t v dd p) :
    ∃ (N d : Nat) (f : Nat → Int), (∀ j, rng 256 (f j)) ∧ HandedInts W .u8 f N d v := by
  obtain ⟨N, d, g, hg, hh⟩ := open_handed ht hz (by decide) (fun a : Int => [.int .u8 a]) (rng 256) 0 (by decide) (fun _ => rfl) (fun fuel cs x hx => by
    obtain ⟨z, h1, _, h2⟩ := DataW.trod_int he hx
    exact ⟨z, wf_u8 h2, h1⟩) hany hval h
  exact ⟨N, d, g, hg, handed_ints hh⟩

/-- A handed slice is no longer than what a number of the language counts. -/
theorem handed_le {H : Type} {enc : TypeId × Value → H} {P : Program} {W : World} {r : Reach} {b0 base : Nat} {sp : Nat → Bool} {held : Bool} {t e : TypeId} {v : Value} {dd : DataW H} {p : List MemPlace} {z N d : Nat} {cells : Nat → List Value}
    (ht : P.underlying t = some (.slice e)) (hval : Value.okWide P W r b0 t v) (h : DataW.Trod enc P W base sp held t v dd p) (hh : HandedAt W z cells N d v) : N ≤ 9223372036854775807 := by
  obtain ⟨b, _, _, hR⟩ := hh
  have hv := hR ⟨fun _ => some b, fun _ => 0, fun _ => none⟩ 1000 rfl
  obtain ⟨a, len, cap, rfl⟩ := okWide_slice ht hval
  obtain ⟨fuel, hf⟩ := h
  have hlen : len ≤ 9223372036854775807 := by
    rcases Go.Deep.open_slice ht hf with ⟨h1, _⟩ | ⟨a', len', cap', m, n, D, Pl, h1, _, hl, hm, _⟩
    · simp [Value.cells] at h1
      omega
    · simp [Value.cells] at h1
      obtain ⟨_, rfl, rfl⟩ := h1
      have : maxLen = 9223372036854775807 := by decide
      omega
  cases hv with
  | sliceS _ _ _ _ _ _ _ _ => exact hlen
  | sliceE _ _ _ _ _ _ _ => omega

end Go.Proofs.YtmnhmplcpijanaaGreat.VX
