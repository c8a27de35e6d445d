/-
  What single operations of the model do in a world for which an abstract heap stands. No condition.
-/
import Derived.Test.YtgnhhnmpeklciaaVC
namespace Go.Proofs.Ytgnhhnmpeklciaa.VX
open Go
set_option linter.unusedSimpArgs false
set_option linter.unusedVariables false

theorem wp_of_value {P : Program} {o : Oper} {a : Act} {w w' : World} {K : Act → World → Prop} {Q : Exit → Act → World → Prop} {v : Value}
    (h : (execOp a.eval o).run P w = .ok (.value v) w') (k : K (a.put o.dst v) w') : o.wp P a w K Q := by
  unfold Oper.wp; rw [h]; exact k

theorem wp_of_skip {P : Program} {o : Oper} {a : Act} {w w' : World} {K : Act → World → Prop} {Q : Exit → Act → World → Prop}
    (h : (execOp a.eval o).run P w = .ok .skip w') (k : K (a.put o.dst undef) w') : o.wp P a w K Q := by
  unfold Oper.wp; rw [h]; exact k

theorem wp_of_enter {P : Program} {o : Oper} {a : Act} {w w' : World} {K : Act → World → Prop} {Q : Exit → Act → World → Prop} {f : FuncId} {args : Array Value}
    (h : (execOp a.eval o).run P w = .ok (.enter f args) w') (k : Calls P f args w' fun e w'' => ∃ rv, e = .returned rv ∧ K (a.put o.dst rv) w'') : o.wp P a w K Q := by
  unfold Oper.wp; rw [h]
  refine k.mono ?_
  rintro e w'' ⟨rv, rfl, hk⟩
  exact hk

-- ---------------------------------------------------------------- the types' tables

theorem isAgg_run {P : Program} {t : TypeId} {b : Bool} (h : isAggB P t = some b) (w : World) : (isAgg t).run P w = .ok b w := by
  unfold isAggB at h
  unfold isAgg underlying program
  cases hu : P.underlying t with
  | none => simp [hu] at h
  | some d =>
    rw [hu] at h
    simp only [Sem.run_bind, Sem.run, Result.andThen_ok, hu]
    cases d <;> simp at h <;> subst h <;> rfl

theorem sizeOf_run {P : Program} {t : TypeId} {n : Nat} (h : sizeB P t = some n) (w : World) : (sizeOf t).run P w = .ok n w := by
  unfold sizeB at h
  unfold sizeOf typeInfo program
  cases hi : P.info? t with
  | none => simp [hi] at h
  | some i =>
    simp [hi] at h
    subst h
    simp [Sem.run_bind, Sem.run, hi]

theorem underlying_run {P : Program} {t : TypeId} {d : TypeDesc} (h : P.underlying t = some d) (w : World) : (underlying t).run P w = .ok d w := by
  unfold underlying program
  simp [Sem.run_bind, Sem.run, h]

theorem zeroValue_run {P : Program} {t : TypeId} {i : TypeInfo} {z : Value} (h : P.info? t = some i) (hz : i.zero = some z) (w : World) : (zeroValue t).run P w = .ok z w := by
  unfold zeroValue typeInfo program
  simp [Sem.run_bind, Sem.run, h, hz]

-- ---------------------------------------------------------------- reading

theorem cell_of {w : World} {b o : Nat} {cs : Array Value} {t : TypeId} {fr : Nat × Nat} {v : Value} (h : w.heap[b]? = some (.cells cs t fr)) (hv : cs[o]? = some v) : w.cell? ⟨b, o, none⟩ = some v := by
  simp [World.cell?, h, hv]

theorem add_off (b o n : Nat) : (Addr.add ⟨b, o, none⟩ n) = ⟨b, o + n, none⟩ := by
  unfold Addr.add
  split
  · rename_i h; subst h; rfl
  · rfl

theorem gets_spec {μ : Mu} {B : Blk} {cs : Array Value} (h : ∀ off v, B.get? off = some v → ∃ r, cs[off]? = some r ∧ VRel μ v r) :
    ∀ (n o : Nat) (l : List Value), gets B o n = some l → ∃ rs : List Value, VRels μ l rs ∧ l.length = n ∧ ∀ j r, rs[j]? = some r → cs[o + j]? = some r
  | 0, o, l, hl => by
    simp [gets] at hl; subst hl
    exact ⟨[], .nil, rfl, fun j r hr => by simp at hr⟩
  | n + 1, o, l, hl => by
    simp only [gets] at hl
    cases hb : B.get? o with
    | none => simp [hb] at hl
    | some v =>
      rw [hb] at hl
      cases hg : gets B (o + 1) n with
      | none => simp [hg] at hl
      | some l' =>
        simp [hg] at hl; subst hl
        obtain ⟨rs, h1, h2, h3⟩ := gets_spec h n (o + 1) l' hg
        obtain ⟨r, hr, hv⟩ := h o v hb
        refine ⟨r :: rs, .cons hv h1, by simp [h2], fun j x hx => ?_⟩
        cases j with
        | zero => simp at hx; subst hx; simpa using hr
        | succ j => have := h3 j x (by simpa using hx); rw [show o + (j + 1) = o + 1 + j by omega]; exact this

theorem loadAt_run_one {P : Program} {t : TypeId} {w : World} {b o : Nat} {v : Value} (ht : isAggB P t = some false) (hc : w.cell? ⟨b, o, none⟩ = some v) :
    (Instr.loadAt t (.pointer (some ⟨b, o, none⟩))).run P w = .ok v w := by
  unfold Instr.loadAt Instr.sureAddr loadVar
  simp only [Sem.run_bind, Sem.run_pure, Result.andThen_ok, isAgg_run ht w, Bool.false_eq_true, if_false]
  simp [hc]

theorem loadAt_run_agg {P : Program} {t : TypeId} {w : World} {b o n : Nat} {rs : List Value} (ht : isAggB P t = some true) (hn : sizeB P t = some n) (hl : rs.length = n)
    (hc : ∀ j r, rs[j]? = some r → w.cell? ⟨b, o + j, none⟩ = some r) :
    (Instr.loadAt t (.pointer (some ⟨b, o, none⟩))).run P w = .ok (.agg ⟨rs⟩) w := by
  unfold Instr.loadAt Instr.sureAddr loadVar
  simp only [Sem.run_bind, Sem.run_pure, Result.andThen_ok, isAgg_run ht w, if_true, sizeOf_run hn w]
  subst hl
  have := run_loadCells_list (P := P) (w := w) ⟨b, o, none⟩ rs (fun j v hv => by rw [add_off]; exact hc j v hv)
  simp [this]

/-- A stretch that begins at a place. -/
theorem segAt_get : ∀ {l : List Seg} {st : Nat} {s : Seg}, segAt l st = some s → ∀ (o : Nat) (v : Value), s.get? o = some v → segsGet? l (st + o) = some v
  | [], st, s, h, _, _, _ => by simp [segAt] at h
  | x :: r, st, s, h, o, v, hv => by
    simp only [segAt] at h
    cases e : Nat.beq st 0 <;> rw [e] at h
    · simp only [cond_false] at h
      cases e2 : Nat.blt st x.size <;> rw [e2] at h
      · simp only [cond_false] at h
        have h2 := blt_ff e2
        have := segAt_get h o v hv
        simp only [segsGet?]
        have e3 : Nat.blt (st + o) x.size = false := by
          cases e4 : Nat.blt (st + o) x.size with
          | false => rfl
          | true => have := blt_tt e4; omega
        rw [e3]
        simp only [cond_false]
        rw [show st + o - x.size = st - x.size + o by omega]
        exact this
      · simp at h
    · simp only [cond_true, Option.some.injEq] at h
      subst h
      have := beq_tt e
      subst this
      have hlt := Seg.get_lt hv
      simp only [segsGet?, Nat.zero_add]
      have e3 : Nat.blt o x.size = true := by
        cases e4 : Nat.blt o x.size with
        | true => rfl
        | false => have := blt_ff e4; omega
      rw [e3]
      simpa using hv

theorem segAtG_get {l : List Seg} {st : Nat} {s : Seg} (h : segAtG l st = some s) (hg : ∀ q ∈ gapOb l st, q) : ∀ (o : Nat) (v : Value), s.get? o = some v → segsGet? l (st + o) = some v := by
  intro o v hv
  unfold segAtG at h
  split at h
  · rename_i n sg
    obtain rfl := Option.some.inj h
    have e : st = n := hg _ (by simp [gapOb])
    subst e
    have e2 : Nat.blt (st + o) (Seg.gap st).size = false := by
      cases e4 : Nat.blt (st + o) (Seg.gap st).size with
      | false => rfl
      | true => have := blt_tt e4; simp only [Seg.size] at this; omega
    have hb := Seg.get_lt hv
    have e5 : segsGet? [.gap st, sg] (st + o) = (bif Nat.blt (st + o) (Seg.gap st).size then (Seg.gap st).get? (st + o) else bif Nat.blt (st + o - st) sg.size then sg.get? (st + o - st) else segsGet? [] (st + o - st - sg.size)) := rfl
    rw [e5, e2]
    simp only [cond_false]
    rw [show st + o - st = o by omega, show Nat.blt o sg.size = true from Nat.ble_eq_true_of_le hb]
    simpa using hv
  · exact segAt_get h o v hv

theorem xload_ok {P : Program} {H h : HF} {t : TypeId} {p v : Value} {i : Nat} {ob : List Prop} (hx : xload P H t p = some (v, i, ob)) (hob : ∀ q ∈ ob, q) (hH : h i = H i)
    {μ : Mu} {w : World} (r : Rep μ h w) {rp : Value} (hp : VRel μ p rp) : ∃ rv, (Instr.loadAt t rp).run P w = .ok rv w ∧ VRel μ v rv := by
  unfold xload at hx
  split at hx
  · rename_i i' off
    cases hB : H i' with
    | none => simp [hB] at hx
    | some B =>
      rw [hB] at hx
      cases ha : isAggB P t with
      | none => simp [ha] at hx
      | some b =>
        rw [ha] at hx
        cases b with
        | true =>
          cases hs : sizeB P t with
          | none => simp [hs] at hx
          | some n =>
            simp only [hs] at hx
            cases hg : gets B off n with
            | none => simp [hg] at hx
            | some l =>
              simp [hg] at hx
              obtain ⟨rfl, rfl, rfl⟩ := hx
              rw [← hH] at hB
              obtain ⟨b, hb, cs, ty, fr, he, _, hcs⟩ := r.blk i' B hB (.inr hp.ptr_ne)
              cases hp with
              | ptr hb' _ =>
                rw [hb] at hb'
                obtain rfl : b = _ := by simpa using hb'
                obtain ⟨rs, h1, h2, h3⟩ := gets_spec hcs n off l hg
                exact ⟨.agg ⟨rs⟩, loadAt_run_agg ha hs (by rw [← h1.length, h2]) (fun j x hx => cell_of he (h3 j x hx)), .agg h1⟩
        | false =>
          cases hg : B.get? off with
          | none => simp [hg] at hx
          | some x =>
            simp [hg] at hx
            obtain ⟨rfl, rfl, rfl⟩ := hx
            rw [← hH] at hB
            obtain ⟨b, hb, cs, ty, fr, he, _, hcs⟩ := r.blk i' B hB (.inr hp.ptr_ne)
            cases hp with
            | ptr hb' _ =>
              rw [hb] at hb'
              obtain rfl : b = _ := by simpa using hb'
              obtain ⟨rv, hr, hv⟩ := hcs off x hg
              exact ⟨rv, loadAt_run_one ha (cell_of he hr), hv⟩
  · rename_i i' off s
    cases hB : H i' with
    | none => simp [hB] at hx
    | some B =>
      rw [hB] at hx
      cases ha : isAggB P t with
      | none => simp [ha] at hx
      | some b =>
        rw [ha] at hx
        cases b with
        | true => simp at hx
        | false =>
          simp only at hx
          have fin : ∀ sg, segAtG B.segs s = some sg → (∀ q ∈ gapOb B.segs s, q) → sg.get? off = some v → i = i' → ∃ rv, (Instr.loadAt t rp).run P w = .ok rv w ∧ VRel μ v rv := by
            intro sg hsg hgp hgv hi
            subst hi
            rw [← hH] at hB
            obtain ⟨b, hb, cs, ty, fr, he, _, hcs⟩ := r.blk i B hB (.inr hp.ptr_ne)
            cases hp with
            | ptrS hb' _ _ =>
              rw [hb] at hb'
              obtain rfl : b = _ := by simpa using hb'
              obtain ⟨rv, hr, hv⟩ := hcs (s + off) v (segAtG_get hsg hgp off v hgv)
              exact ⟨rv, loadAt_run_one ha (cell_of he hr), hv⟩
          split at hx
          · rename_i k n a hsg
            simp at hx
            obtain ⟨rfl, rfl, rfl⟩ := hx
            have hlt : off < n := hob _ (by simp)
            exact fin _ hsg (fun q hq => hob q (List.mem_append_left _ hq)) (by simp only [Seg.get?]; rw [show Nat.blt off n = true from Nat.ble_eq_true_of_le hlt]; rfl) rfl
          · rename_i n a hsg
            simp at hx
            obtain ⟨rfl, rfl, rfl⟩ := hx
            have hlt : off < n := hob _ (by simp)
            exact fin _ hsg (fun q hq => hob q (List.mem_append_left _ hq)) (by simp only [Seg.get?]; rw [show Nat.blt off n = true from Nat.ble_eq_true_of_le hlt]; rfl) rfl
          · simp at hx
  · simp at hx

-- ---------------------------------------------------------------- writing

theorem VRel.cells {μ : Mu} {v r : Value} (h : VRel μ v r) (hs : v.cells.toList.all storable = true) : VRels μ v.cells.toList r.cells.toList ∧ r.cells.toList.all storable = true := by
  have key : ∀ {l m : List Value}, VRels μ l m → l.all storable = true → m.all storable = true := by
    intro l m hm
    induction l generalizing m with
    | nil => cases hm; intro _; rfl
    | cons x l ih =>
      cases hm with
      | cons a b =>
        intro hall
        simp only [List.all_cons, Bool.and_eq_true] at hall ⊢
        refine ⟨?_, ih b hall.2⟩
        cases a <;> first | rfl | (simp [storable] at hall; done) | (rename_i hr _; obtain ⟨_, _, _, rfl⟩ := hr; rfl)
  cases h with
  | agg a => exact ⟨a, key a hs⟩
  | junk r => simp [Value.cells, storable] at hs
  | und => simp [Value.cells, storable] at hs
  | tup a => simp [Value.cells, storable] at hs
  | bool b => exact ⟨.cons (.bool b) .nil, rfl⟩
  | int k n => exact ⟨.cons (.int k n) .nil, rfl⟩
  | float k n => exact ⟨.cons (.float k n) .nil, rfl⟩
  | string s => exact ⟨.cons (.string s) .nil, rfl⟩
  | ptrNil => exact ⟨.cons .ptrNil .nil, rfl⟩
  | ptr e off => exact ⟨.cons (.ptr e off) .nil, rfl⟩
  | ptrS e s off => exact ⟨.cons (.ptrS e s off) .nil, rfl⟩
  | sliceNil => exact ⟨.cons .sliceNil .nil, rfl⟩
  | slice e off l c c' hc hz => exact ⟨.cons (.slice e off l c c' hc hz) .nil, rfl⟩
  | sliceS e s off l c c' hc hz => exact ⟨.cons (.sliceS e s off l c c' hc hz) .nil, rfl⟩
  | sliceE i s off c a c' hz => exact ⟨.cons (.sliceE i s off c a c' hz) .nil, rfl⟩
  | mapNil => exact ⟨.cons .mapNil .nil, rfl⟩
  | nilFunc => exact ⟨.cons .nilFunc .nil, rfl⟩
  | nilIface => exact ⟨.cons .nilIface .nil, rfl⟩
  | func fn a b => exact ⟨.cons (.func fn a b) .nil, rfl⟩
  | iface t a => exact ⟨.cons (.iface t a) .nil, rfl⟩
  | lst z l f hs2 hr k => obtain ⟨a, n, c, rfl⟩ := hr; exact ⟨.cons (.lst z l f hs2 ⟨a, n, c, rfl⟩ k) .nil, rfl⟩
  | fptr l hs2 hf k => exact ⟨.cons (.fptr l hs2 hf k) .nil, rfl⟩
  | emp a c => exact ⟨.cons (.emp a c) .nil, rfl⟩

theorem storeCells_run {P : Program} : ∀ (us : List Value) (w : World) (b o i n : Nat) (t : TypeId), (∃ cs, w.heap[b]? = some (.cells cs t (0, 0)) ∧ cs.size = n) → o + i + us.length ≤ n → us.all storable = true →
    (storeCells ⟨b, o, none⟩ us i).run P w = .ok () (World.putCells w b (o + i) us)
  | [], w, b, o, i, n, t, _, _, _ => rfl
  | u :: us, w, b, o, i, n, t, ⟨cs, he, hn⟩, hle, hst => by
    simp only [List.all_cons, Bool.and_eq_true] at hst
    simp only [List.length_cons] at hle
    simp only [storeCells, World.putCells, Sem.run_bind]
    have hc : ∃ x, w.cell? ⟨b, o + i, none⟩ = some x := ⟨cs[o + i]'(by omega), cell_of he (by simp [show o + i < cs.size by omega])⟩
    obtain ⟨x, hx⟩ := hc
    have hf : w.frozen? ⟨b, o + i, none⟩ = false := by
      unfold World.frozen?
      rw [he]
      have : ¬ (o + i < 0) := by omega
      simp
    have hone : (store (Addr.add ⟨b, o, none⟩ i) u).run P w = .ok () (w.setCell ⟨b, o + i, none⟩ u) := by
      rw [add_off]
      unfold store
      cases u <;> first | (simp only [Sem.run, hx, hf, Bool.false_eq_true, if_false]; done) | (exact absurd hst.1 (by simp [storable]))
    rw [hone]
    simp only [Result.andThen_ok]
    have := storeCells_run (P := P) us (w.setCell ⟨b, o + i, none⟩ u) b o (i + 1) n t
      ⟨cs.setIfInBounds (o + i) u, by have := heap_setCell_same w b (o + i) cs t u he; simpa using this, by simpa using hn⟩ (by omega) hst.2
    rw [this]
    rfl

theorem storeAt_run {P : Program} {t : TypeId} {w : World} {b o n N : Nat} {ty : TypeId} {r : Value} (hn : sizeB P t = some n) (hl : r.cells.toList.length = n)
    (hb : ∃ cs, w.heap[b]? = some (.cells cs ty (0, 0)) ∧ cs.size = N) (hle : o + n ≤ N) (hst : r.cells.toList.all storable = true) :
    (Instr.storeAt t (.pointer (some ⟨b, o, none⟩)) r).run P w = .ok () (World.putCells w b o r.cells.toList) := by
  unfold Instr.storeAt Instr.sureAddr storeVar
  simp only [Sem.run_bind, Sem.run_pure, Result.andThen_ok, sizeOf_run hn w]
  have h1 : r.cells.size = n := by rw [← hl]; simp
  rw [if_neg (by simp [h1])]
  have := storeCells_run (P := P) r.cells.toList w b o 0 N ty hb (by rw [hl]; omega) hst
  simpa using this

def SameShape (a b : Option Blk) : Prop := ∀ B, b = some B → ∃ A, a = some A ∧ A.ro = B.ro ∧ A.size = B.size

theorem segPut_spec : ∀ {l l' : List Seg} {st o n : Nat} {v : Value}, segPut l st o v = some (l', n) → o < n →
    l' = segsSet l (st + o) v ∧ st + o < segsSize l
  | [], l', st, o, n, v, h, _ => by simp [segPut] at h
  | s :: r, l', st, o, n, v, h, ho => by
    simp only [segPut] at h
    cases e : Nat.beq st 0 <;> rw [e] at h
    · simp only [cond_false] at h
      cases e2 : Nat.blt st s.size <;> rw [e2] at h
      · simp only [cond_false] at h
        have h2 := blt_ff e2
        cases hp : segPut r (st - s.size) o v with
        | none => simp [hp] at h
        | some q =>
          obtain ⟨r', m⟩ := q
          simp [hp] at h
          obtain ⟨rfl, rfl⟩ := h
          obtain ⟨h3, h4⟩ := segPut_spec hp ho
          constructor
          · simp only [segsSet]
            have e3 : Nat.blt (st + o) s.size = false := by
              cases e4 : Nat.blt (st + o) s.size with
              | false => rfl
              | true => have := blt_tt e4; omega
            rw [e3, cond_false, h3, show st + o - s.size = st - s.size + o by omega]
          · simp [segsSize]; omega
      · simp at h
    · simp only [cond_true] at h
      have := beq_tt e
      subst this
      split at h
      · rename_i k m a k' x
        cases ek : k == k' <;> rw [ek] at h
        · simp at h
        · simp at h
          obtain ⟨rfl, rfl⟩ := h
          constructor
          · simp only [segsSet, Seg.size, Nat.zero_add]
            rw [show Nat.blt o m = true from Nat.ble_eq_true_of_le ho]
            simp only [cond_true, Seg.set, ek]
          · simp [segsSize, Seg.size]; omega
      · rename_i m a x
        simp at h
        obtain ⟨rfl, rfl⟩ := h
        constructor
        · simp only [segsSet, Seg.size, Nat.zero_add]
          rw [show Nat.blt o m = true from Nat.ble_eq_true_of_le ho]
          simp only [cond_true, Seg.set]
        · simp [segsSize, Seg.size]; omega
      · simp at h

theorem xstore_cells_ok {P : Program} {H h : HF} {t : TypeId} {p v : Value} {i off : Nat} {vs : List Value} (hx : xstore P H t p v = some (.cells i off vs)) (hH : SameShape (h i) (H i))
    {μ : Mu} {w : World} (r : Rep μ h w) {rp rv : Value} (hp : VRel μ p rp) (hv : VRel μ v rv) :
    ∃ w', (Instr.storeAt t rp rv).run P w = .ok () w' ∧ Rep μ (app (cellsEff i off vs) h) w' ∧ Keeps μ h w μ (app (cellsEff i off vs) h) w' := by
  unfold xstore at hx
  split at hx
  · rename_i i' o
    cases hB : H i' with
    | none => simp [hB] at hx
    | some B =>
      cases hs : sizeB P t with
      | none => simp [hB, hs] at hx
      | some n =>
        simp only [hB, hs] at hx
        cases hc : (!B.ro && Nat.beq v.cells.toList.length n && v.cells.toList.all storable && Nat.ble (o + n) B.size) <;> rw [hc] at hx
        · simp at hx
        · simp at hx
          obtain ⟨rfl, rfl, rfl⟩ := hx
          simp only [Bool.and_eq_true, Bool.not_eq_true'] at hc
          obtain ⟨⟨⟨h1, h2⟩, h3⟩, h4⟩ := hc
          obtain ⟨A, hA, hAr, hAs⟩ := hH B hB
          obtain ⟨b, hb, cs, ty, fr, he, hrw, hcs⟩ := r.blk i' A hA (.inr hp.ptr_ne)
          obtain ⟨rfl, rfl, hsz⟩ := hrw (by rw [hAr]; exact h1)
          cases hp with
          | ptr hb' _ =>
            rw [hb] at hb'
            obtain rfl : b = _ := by simpa using hb'
            obtain ⟨hcells, hst⟩ := hv.cells h3
            have hlen : rv.cells.toList.length = n := by rw [← hcells.length]; exact beq_tt h2
            have h4' := ble_tt h4
            refine ⟨_, storeAt_run hs hlen ⟨cs, he, rfl⟩ (by rw [hAs] at hsz; exact Nat.le_trans h4' hsz) hst, ?_⟩
            have hl : v.cells.toList.length = n := beq_tt h2
            exact r.cells hA (by rw [hAr]; exact h1) hb (by rw [hl, hAs]; exact h4') hcells
  · rename_i i' o s
    cases hB : H i' with
    | none => simp [hB] at hx
    | some B =>
      simp only [hB] at hx
      split at hx
      · rename_i B'' hs hBB
        cases hc : (!B''.ro && storable v) <;> rw [hc] at hx
        · simp at hx
        · simp only [cond_true] at hx
          split at hx <;> simp at hx
      · simp at hx
  · simp at hx

theorem xstore_whole_ok {P : Program} {H h : HF} {t : TypeId} {p v : Value} {i : Nat} {B' : Blk} {ob : Prop} (hx : xstore P H t p v = some (.whole i B' ob)) (hob : ob) (hH : h i = H i)
    {μ : Mu} {w : World} (r : Rep μ h w) {rp rv : Value} (hp : VRel μ p rp) (hv : VRel μ v rv) :
    ∃ w', (Instr.storeAt t rp rv).run P w = .ok () w' ∧ Rep μ (upd1 h (i, .blk B')) w' ∧ Keeps μ h w μ (upd1 h (i, .blk B')) w' := by
  unfold xstore at hx
  split at hx
  · rename_i i' off'
    cases hB : H i' with
    | none => simp [hB] at hx
    | some B =>
      cases hs : sizeB P t with
      | none => simp [hB, hs] at hx
      | some n =>
        simp only [hB, hs] at hx
        cases hc : (!B.ro && Nat.beq v.cells.toList.length n && v.cells.toList.all storable && Nat.ble (off' + n) B.size) <;> rw [hc] at hx <;> simp at hx
  · rename_i i' o s
    cases hB : H i' with
    | none => simp [hB] at hx
    | some B =>
      simp only [hB] at hx
      split at hx
      · rename_i hs
        rename_i B'' hBB
        obtain rfl : B = B'' := by simpa using hBB
        cases hc : (!B.ro && storable v) <;> rw [hc] at hx
        · simp at hx
        · simp only [cond_true] at hx
          split at hx
          · rename_i l n hp2
            simp only [Option.some.injEq, StoreOut.whole.injEq] at hx
            obtain ⟨rfl, rfl, rfl⟩ := hx
            simp only [Bool.and_eq_true, Bool.not_eq_true'] at hc
            rw [← hH] at hB
            obtain ⟨b, hb, cs, ty, fr, he, hrw, hcs⟩ := r.blk i' B hB (.inr hp.ptr_ne)
            obtain ⟨rfl, rfl, hsz⟩ := hrw hc.1
            cases hp with
            | ptrS hb' _ _ =>
              rw [hb] at hb'
              obtain rfl : b = _ := by simpa using hb'
              obtain ⟨h3, h4⟩ := segPut_spec hp2 hob
              have hvc : v.cells = #[v] := by cases v <;> first | rfl | (simp [storable] at hc)
              obtain ⟨hcells, hst⟩ := hv.cells (by rw [hvc]; simp [hc.2])
              have hrc : rv.cells.toList.length = 1 := by rw [← hcells.length, hvc]; rfl
              have hrv : ∃ x, rv.cells.toList = [x] ∧ VRel μ v x := by
                rw [hvc] at hcells
                revert hcells
                generalize rv.cells.toList = L
                intro hL
                cases hL with
                | cons a b => cases b; exact ⟨_, rfl, a⟩
              obtain ⟨x, hxx, hvx⟩ := hrv
              refine ⟨_, storeAt_run hs hrc ⟨cs, he, rfl⟩ (Nat.le_trans h4 hsz) hst, ?_⟩
              rw [hxx]
              have := r.cell (o := s + o) hB hc.1 hb h4 hvx
              have eB : upd1 h (i', .cell (s + o) v) = upd1 h (i', .blk { B with segs := l }) := by
                funext j
                by_cases hj : j = i'
                · subst hj
                  rw [upd1_cell, upd1_same, hB]
                  simp [Blk.set, h3]
                · rw [upd1_other hj, upd1_other hj]
              rw [← eB]
              exact this
          · simp at hx
      · simp at hx
  · simp at hx

end Go.Proofs.Ytgnhhnmpeklciaa.VX
