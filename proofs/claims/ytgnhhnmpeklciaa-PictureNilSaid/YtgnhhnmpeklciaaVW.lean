/-
  Slices that are handed to a law: their elements by index; a law by its contract over tables and handed slices. No condition.
-/
import Derived.Test.YtgnhhnmpeklciaaVR
import Derived.Deep.Slices
import Derived.DataReads
namespace Go.Proofs.Ytgnhhnmpeklciaa.VX
open Go Go.RowKit Go.WideShapes Go.ChangeShapes Go.WideElems
set_option linter.unusedSimpArgs false
set_option linter.unusedVariables false

/-- A handed slice, as an abstract block and slice: elements of z cells. -/
def HandedAt (W : World) (z : Nat) (cells : Nat → List Value) (N d : Nat) (v : Value) : Prop :=
  ∃ b, b < W.heap.size ∧ (∀ μ ty, BlkRel μ ⟨[.gap d, .rows N z cells], ty, true⟩ W.heap[b]?) ∧ ∀ (μ : Mu) (id : Nat), μ id = some b → VRel μ (.slice (some ⟨id, 0, some d⟩) N 0) v

theorem lt_of_some {α : Type} {a : Array α} {i : Nat} {x : α} (h : a[i]? = some x) : i < a.size := by
  apply Classical.byContradiction
  intro hc
  rw [Array.getElem?_eq_none (by omega)] at h
  cases h

theorem open_handed {H : Type} {enc : TypeId × Value → H} {P : Program} {W : World} {r : Reach} {b0 base : Nat} {sp : Nat → Bool} {held : Bool} {t e : TypeId} {v : Value} {dd : DataW H} {p : List MemPlace} {z : Nat}
    (ht : P.underlying t = some (.slice e)) (hz : P.cellsOf e = z) (hpos : 0 < z) {α : Type} (cells : α → List Value) (ok : α → Prop) (x0 : α) (hx0 : ok x0) (hfl : ∀ a, (cells a).all scalar = true)
    (open1 : ∀ (fuel : Nat) (cs : List Value) (x : DataW H × List MemPlace), DataW.trod enc P W base sp held fuel e cs = some x → ∃ a, ok a ∧ cs = cells a)
    (hany : ∃ (b : Nat) (cs : Array Value) (ty : TypeId) (fr : Nat × Nat), W.heap[b]? = some (Obj.cells cs ty fr))
    (hval : Value.okWide P W r b0 t v) (h : DataW.Trod enc P W base sp held t v dd p) :
    ∃ (N d : Nat) (g : Nat → α), (∀ j, ok (g j)) ∧ HandedAt W z (fun i => cells (g i)) N d v := by
  obtain ⟨ba, ca, ta, fa, hba⟩ := hany
  have empty : ∀ (a : Option Addr) (c : Nat), v = .slice a 0 c → ∃ (N d : Nat) (g : Nat → α), (∀ j, ok (g j)) ∧ HandedAt W z (fun i => cells (g i)) N d v := by
    rintro a c rfl
    refine ⟨0, 0, fun _ => x0, fun _ => hx0, ba, lt_of_some hba, fun μ ty => ⟨ca, ta, fa, hba, (fun hro => nomatch hro), fun off u hu => ?_⟩, fun μ id hid => .sliceE _ _ _ _ _ _ (.inl rfl)⟩
    exfalso
    simp only [Blk.get?] at hu
    have e5 : segsGet? [.gap 0, .rows 0 z (fun i => cells x0)] off = (bif Nat.blt off 0 then none else bif Nat.blt (off - 0) (0 * z) then (Seg.rows 0 z (fun i => cells x0)).get? (off - 0) else none) := rfl
    rw [e5, Nat.zero_mul] at hu
    have e6 : ∀ n, Nat.blt n 0 = false := fun n => by cases h : Nat.blt n 0 with | false => rfl | true => have := blt_tt h; omega
    rw [e6, e6] at hu
    simp at hu
  obtain ⟨a, len, cap, rfl⟩ := okWide_slice ht hval
  obtain ⟨fuel, hf⟩ := h
  rcases Go.Deep.open_slice ht hf with ⟨h1, _⟩ | ⟨a', len', cap', m, n, D, Pl, h1, _, hl, _, hm, _, hel⟩
  · simp [Value.cells] at h1
    obtain ⟨rfl, rfl, rfl⟩ := h1
    exact empty _ _ rfl
  · simp [Value.cells] at h1
    obtain ⟨rfl, rfl, rfl⟩ := h1
    by_cases h0 : len = 0
    · subst h0
      exact empty _ _ rfl
    have hlm : len ≤ m := by rw [hm]; split <;> omega
    have hch : ∀ i, i < len → ∃ x : α, ok x ∧ ∀ j, j < z → W.cell? ((a'.add (i * z)).add j) = (cells x)[j]? := by
      intro i hi
      obtain ⟨cs', hc, ht'⟩ := hel i (by omega)
      obtain ⟨x, hx, rfl⟩ := open1 _ _ _ ht'
      rw [hz] at hc
      obtain ⟨_, _, hcell⟩ := World.cells?_some hc
      exact ⟨x, hx, hcell⟩
    haveI : Inhabited α := ⟨x0⟩
    obtain ⟨g0, hg0⟩ := Go.Deep.choose_lt (p := fun i x => ok x ∧ ∀ j, j < z → W.cell? ((a'.add (i * z)).add j) = (cells x)[j]?) hch
    obtain ⟨b, off, spot⟩ := a'
    have first : ∃ v0, W.cell? (((⟨b, off, spot⟩ : Addr).add (0 * z)).add 0) = some v0 := by
      obtain ⟨cs', hc, _⟩ := hel 0 (by omega)
      rw [hz] at hc
      obtain ⟨_, hl', hcell⟩ := World.cells?_some hc
      exact ⟨cs'[0]'(by omega), by rw [hcell 0 hpos, List.getElem?_eq_getElem]⟩
    obtain ⟨v0, hv0⟩ := first
    have hspot : spot = none := by
      have := World.cell?_spot hv0
      simpa [Addr.add] using this
    subst hspot
    have hblk : ∃ cs ty fr, W.heap[b]? = some (.cells cs ty fr) ∧ ∀ o u, W.cell? ⟨b, o, none⟩ = some u → cs[o]? = some u := by
      rw [add_plain, add_plain] at hv0
      unfold World.cell? at hv0
      split at hv0
      · rename_i c ty fr hh
        exact ⟨c, ty, fr, hh, fun o u hu => by unfold World.cell? at hu; simp only [hh] at hu; simpa using hu⟩
      · cases hv0
    obtain ⟨cs, ty0, fr, hh, hcs⟩ := hblk
    classical
    refine ⟨len, off, fun j => if j < len then g0 j else x0, fun j => (show ok (if j < len then g0 j else x0) by
      by_cases hj : j < len
      · rw [if_pos hj]; exact (hg0 j hj).1
      · rw [if_neg hj]; exact hx0), b, lt_of_some hh, fun μ ty => ⟨cs, ty0, fr, hh, (fun hro => nomatch hro), fun o u hu => ?_⟩, fun μ id hid => ?_⟩
    · have e5 : (Blk.get? ⟨[.gap off, .rows len z (fun i => cells (if i < len then g0 i else x0))], ty, true⟩ o) = (bif Nat.blt o off then none else bif Nat.blt (o - off) (len * z) then (Seg.rows len z (fun i => cells (if i < len then g0 i else x0))).get? (o - off) else none) := rfl
      rw [e5] at hu
      cases h1 : Nat.blt o off <;> rw [h1] at hu
      · simp only [cond_false] at hu
        cases h2 : Nat.blt (o - off) (len * z) <;> rw [h2] at hu
        · simp at hu
        · simp only [cond_true, Seg.get?, h2] at hu
          have hlt := blt_tt h2
          have hge := blt_ff h1
          have hq : (o - off) / z < len := Nat.div_lt_of_lt_mul (by rw [Nat.mul_comm]; exact hlt)
          have hr : (o - off) % z < z := Nat.mod_lt _ hpos
          rw [if_pos hq] at hu
          have hcell := (hg0 _ hq).2 _ hr
          rw [add_plain, add_plain, hu] at hcell
          have heq : off + (o - off) / z * z + (o - off) % z = o := by
            have := Nat.div_add_mod (o - off) z
            rw [Nat.mul_comm] at this
            omega
          rw [heq] at hcell
          exact ⟨u, hcs o u hcell, .of_scalar (List.all_eq_true.1 (hfl _) u (List.mem_of_getElem? hu))⟩
      · simp at hu
    · have := VRel.sliceS hid off 0 len 0 cap hl (.inl rfl)
      rwa [Nat.add_zero] at this

/-- A struct's cell, of one word. -/
theorem trod_cell_int {H : Type} {enc : TypeId × Value → H} {P : Program} {W : World} {base : Nat} {sp : Nat → Bool} {held : Bool} {t : TypeId} {fs : Array Field} {fuel : Nat} {cs : List Value} {x : DataW H × List MemPlace}
    (ht : P.underlying t = some (.struct fs)) (h : DataW.trod enc P W base sp held fuel t cs = some x) {i : Nat} {f : Field} (hf : fs[i]? = some f) {k : IntKind} (hu : P.underlying f.type = some (.int k)) (hc : P.cellsOf f.type = 1) :
    ∃ n, cs[f.offset]? = some (.int k n) ∧ (Lit.int k n).wf = true := by
  obtain ⟨xs, n, _, _, _, hl, he⟩ := DataW.trod_struct ht h
  have hi : i < xs.length := by rw [hl]; exact lt_of_some hf
  have := he i f hf
  rw [hc, List.getElem?_eq_getElem hi] at this
  obtain ⟨z, h1, _, h2⟩ := DataW.trod_int hu this
  have h0 : ((cs.drop f.offset).take 1)[0]? = some (.int k z) := by rw [h1]; rfl
  exact ⟨z, by simpa using h0, h2⟩

theorem trod_len {H : Type} {enc : TypeId × Value → H} {P : Program} {W : World} {base : Nat} {sp : Nat → Bool} {held : Bool} {t : TypeId} {fs : Array Field} {fuel : Nat} {cs : List Value} {x : DataW H × List MemPlace}
    (ht : P.underlying t = some (.struct fs)) (h : DataW.trod enc P W base sp held fuel t cs = some x) : cs.length = P.cellsOf t := by
  obtain ⟨xs, n, _, _, hl, _, _⟩ := DataW.trod_struct ht h
  exact hl

/-- An array of integers, handed by value. -/
theorem open_arr_ints {H : Type} {enc : TypeId × Value → H} {P : Program} {W : World} {r : Reach} {b0 base : Nat} {sp : Nat → Bool} {held : Bool} {t e : TypeId} {n : Nat} {k : IntKind} {v : Value} {dd : DataW H} {p : List MemPlace}
    (ht : P.underlying t = some (.array n e)) (he : P.underlying e = some (.int k)) (hc : P.cellsOf e = 1) (hct : P.cellsOf t = n)
    (hval : Value.okWide P W r b0 t v) (h : DataW.Trod enc P W base sp held t v dd p) :
    ∃ f : Nat → Int, (∀ j, j < n → (Lit.int k (f j)).wf = true) ∧ v = .agg ⟨(List.range n).map fun j => .int k (f j)⟩ := by
  simp only [Value.okWide, ht] at hval
  obtain ⟨cs, rfl, hsz, _⟩ := hval
  obtain ⟨fuel, hf⟩ := h
  obtain ⟨xs, m, _, _, hl, hxl, hel⟩ := DataW.trod_array ht hf
  have hch : ∀ j, j < n → ∃ z : Int, (Lit.int k z).wf = true ∧ cs[j]? = some (.int k z) := by
    intro j hj
    have hE := hel j hj
    rw [hc, Nat.mul_one, List.getElem?_eq_getElem (by omega)] at hE
    obtain ⟨z, q1, _, q2⟩ := DataW.trod_int he hE
    refine ⟨z, q2, ?_⟩
    have h0 : (((Value.agg cs).cells.toList.drop j).take 1)[0]? = some (.int k z) := by rw [q1]; rfl
    simpa [Value.cells] using h0
  obtain ⟨f, hf2⟩ := Go.Deep.choose_lt (p := fun j z => (Lit.int k z).wf = true ∧ cs[j]? = some (.int k z)) hch
  refine ⟨f, fun j hj => (hf2 j hj).1, ?_⟩
  congr 1
  apply Array.ext
  · simp; omega
  · intro j h1 h2
    have hj : j < n := by omega
    have := (hf2 j hj).2
    rw [Array.getElem?_eq_getElem h1] at this
    have e2 : cs[j] = .int k (f j) := Option.some.inj this
    rw [e2]
    simp

/-- The names: the package's variables, and one handed block. -/
def muH (P : Program) (b : Nat) : Mu := ⟨fun i => if i < P.globals.size then some i else if i = 1000 then some b else none, fun _ => 0, fun _ => none⟩

theorem muH_1000 {P : Program} (hG : P.globals.size ≤ 1000) (b : Nat) : muH P b 1000 = some b := by
  show (if 1000 < P.globals.size then some 1000 else if 1000 = 1000 then some b else none) = some b
  rw [if_neg (by omega), if_pos rfl]

/-- A law by its contract, over tables and one handed slice. -/
theorem calls_of_spec_hand {P : Program} {f : FuncId} {A : List Value} {Hl H' : Heap} (hG : P.globals.size ≤ 1000) (sp : FnSpec P f 1001 A Hl (.bool true) H') {W : World} {args : Array Value} (hg : P.globals.size ≤ W.heap.size) {b : Nat} (hb0 : b < W.heap.size)
    (hb : ∀ i B, lk Hl i = some B → B.ro = true ∧ ∃ b', muH P b i = some b' ∧ BlkRel (muH P b) B W.heap[b']?) (ha : VRels (muH P b) A args.toList) :
    Calls P f args W fun e W' => e = .returned (.bool true) ∧ Below W.heap.size W W' := by
  have hr : Rep (muH P b) (lk Hl) W := by
    refine ⟨fun i B e _ => (hb i B e).2, fun i j A B b e1 e2 _ _ _ => ⟨(hb i A e1).1, (hb j B e2).1⟩, fun i b' e => ?_, fun i B b e hr => (by rw [(hb i B e).1] at hr; cases hr), (fun b cs e => nomatch e), fun i B b e hr => (by rw [(hb i B e).1] at hr; cases hr)⟩
    simp only [muH] at e
    split at e
    · simp at e; omega
    · split at e
      · simp at e; omega
      · cases e
  have := sp.runs (muH P b) W args.toList (fun g h => by simp [muH, h]) (fun i hi => by simp only [muH]; rw [if_neg (by omega), if_neg (by omega)]) ha hr
  refine this.mono fun e W' ⟨μ', rv, _, _, hv, he, k⟩ => ?_
  cases hv
  exact ⟨he, ⟨k.os, k.tape, k.output, k.size, fun b hb' => k.same b hb' (by rintro ⟨i, B, e, hr, _⟩; rw [(hb i B e).1] at hr; cases hr)⟩⟩

end Go.Proofs.Ytgnhhnmpeklciaa.VX
