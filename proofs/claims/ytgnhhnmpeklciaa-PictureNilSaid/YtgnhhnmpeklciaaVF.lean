/-
  An operation that the executor takes does in the world what the executor says. No condition.
-/
import Derived.Test.YtgnhhnmpeklciaaVE
namespace Go.Proofs.Ytgnhhnmpeklciaa.VX
open Go
set_option linter.unusedSimpArgs false
set_option linter.unusedVariables false

/-- In any world for which the heap stands, the operation comes to the value and the heap that 'out' says. -/
def OpSpec (P : Program) (o : Oper) (ρ : Operand → Value) (h : HF) (out : Out) : Prop :=
  ∀ (μ : Mu) (a : Act) (w : World), Gl P μ → (∀ x ∈ o.op.operands, VRel μ (ρ x) (a.eval x)) → Rep μ h w → (∀ i ∈ out.new, μ i = none) →
    ∀ (K : Act → World → Prop) (Q : Exit → Act → World → Prop),
      (∀ μ' w' rv, μ.le μ' → (∀ i, i ∉ out.new → μ' i = μ i) → Rep μ' (app out.eff h) w' → VRel μ' out.v rv → Keeps μ h w μ' (app out.eff h) w' → K (a.put o.dst rv) w') → o.wp P a w K Q

theorem OpSpec.silent {P : Program} {o : Oper} {ρ : Operand → Value} {h : HF} {v : Value} {n : Nat} {hs : List Hint} {ob : List Prop}
    (hv : ∀ (μ : Mu) (a : Act) (w : World), Gl P μ → (∀ x ∈ o.op.operands, VRel μ (ρ x) (a.eval x)) → ∃ rv, (execOp a.eval o).run P w = .ok (.value rv) w ∧ VRel μ v rv) :
    OpSpec P o ρ h (VX.silent v n hs ob) := by
  intro μ a w hg hx hr hn K Q hk
  obtain ⟨rv, he, hvr⟩ := hv μ a w hg hx
  exact wp_of_value he (hk μ w rv (Mu.le_refl μ) (fun _ _ => rfl) hr hvr (Keeps.refl _ _ _))

theorem cellsBlk_size (cs : List Value) (t : TypeId) : (cellsBlk cs t).size = cs.length := by
  unfold cellsBlk Blk.size
  simp only
  induction cs with
  | nil => rfl
  | cons c cs ih => simp only [List.map_cons, segsSize, Seg.size, List.length_cons, ih]; omega

theorem cellsBlk_get (cs : List Value) (t : TypeId) : ∀ o, (cellsBlk cs t).get? o = cs[o]? := by
  unfold cellsBlk Blk.get?
  simp only
  induction cs with
  | nil => intro o; rfl
  | cons c cs ih =>
    intro o
    simp only [List.map_cons, segsGet?, Seg.size]
    cases o with
    | zero => rfl
    | succ o =>
      have e : Nat.blt (o + 1) 1 = false := by
        cases h : Nat.blt (o + 1) 1 with
        | false => rfl
        | true => have := blt_tt h; omega
      rw [e]
      simp only [cond_false, Nat.add_sub_cancel, List.getElem?_cons_succ]
      exact ih o

theorem cellsBlk_rel {μ : Mu} {cs rs : List Value} {t : TypeId} (h : VRels μ cs rs) : BlkRel μ (cellsBlk cs t) (some (.cells ⟨rs⟩ t (0, 0))) := by
  refine ⟨⟨rs⟩, t, (0, 0), rfl, fun _ => ⟨rfl, rfl, ?_⟩, ?_⟩
  · rw [cellsBlk_size, h.length]; exact Nat.le_refl _
  · intro off v hv
    rw [cellsBlk_get] at hv
    obtain ⟨y, hy, hvy⟩ := h.get off v hv
    exact ⟨y, by simpa using hy, hvy⟩

theorem OpSpec.newBlk' {P : Program} {o : Oper} {ρ : Operand → Value} {h : HF} {n : Nat} {B : Blk} {t : TypeId} {hs : List Hint} {ob : List Prop} {v : Value}
    (hrun : ∀ (μ : Mu) (a : Act) (w : World), Gl P μ → (∀ x ∈ o.op.operands, VRel μ (ρ x) (a.eval x)) → ∃ rs rv, (∀ μ' : Mu, BlkRel μ' B (some (.cells ⟨rs⟩ t (0, 0)))) ∧ (execOp a.eval o).run P w = .ok (.value rv) (w.alloc (.cells ⟨rs⟩ t)) ∧
      ∀ μ' : Mu, μ' n = some w.heap.size → μ'.sz w.heap.size = rs.length → VRel μ' v rv) :
    OpSpec P o ρ h (VX.newBlk n B v hs ob) := by
  intro μ a w hg hx hr hn K Q hk
  obtain ⟨rs, rv, hcs, he, hv⟩ := hrun μ a w hg hx
  have hnn : μ n = none := hn n (by simp [VX.newBlk])
  obtain ⟨hle, hrep, hkeep⟩ := hr.new (cs := ⟨rs⟩) (t := t) (B := B) hnn (fun μ' hl => hcs μ')
  refine wp_of_value he (hk _ _ rv hle ?_ hrep (hv _ (by simp) (by simp)) hkeep)
  intro i hi
  simp only [VX.newBlk, List.mem_singleton] at hi
  simp [hi]

theorem bytes_empty {a : ByteArray} (h : a.size = 0) : a = ByteArray.empty := by
  obtain ⟨⟨l⟩⟩ := a
  cases l with
  | nil => rfl
  | cons x r => simp [ByteArray.size] at h

theorem sameScalar_spec {a b : Value} (h : sameScalar a b = true) : a = b ∧ scalar a = true := by
  unfold sameScalar at h
  split at h
  · simp at h; subst h; exact ⟨rfl, rfl⟩
  · simp only [Bool.and_eq_true, beq_iff_eq] at h
    obtain ⟨rfl, rfl⟩ := h
    exact ⟨rfl, rfl⟩
  · exact ⟨rfl, rfl⟩
  · simp only [Bool.and_eq_true] at h
    obtain ⟨⟨h1, h2⟩, h3, h4⟩ := h
    rw [beq_tt h1, beq_tt h2, beq_tt h3, beq_tt h4]
    exact ⟨rfl, rfl⟩
  · exact ⟨rfl, rfl⟩
  · exact ⟨rfl, rfl⟩
  · exact ⟨rfl, rfl⟩
  · simp only [Bool.and_eq_true] at h
    rw [bytes_empty (beq_tt h.1), bytes_empty (beq_tt h.2)]
    exact ⟨rfl, rfl⟩
  · cases h

theorem matchInts_spec {k : IntKind} {a : Nat → Int} : ∀ {n j : Nat} {l l' : List Value}, matchInts k a n j l = some l' → (∀ i, i < n → l[i]? = some (.int k (a (j + i)))) ∧ l' = l.drop n ∧ n ≤ l.length
  | 0, j, l, l', h => by
    simp only [matchInts, Option.some.injEq] at h
    exact ⟨fun i hi => by omega, by simp [h], by omega⟩
  | n + 1, j, l, l', h => by
    cases l with
    | nil => simp [matchInts] at h
    | cons c l =>
      cases c with
      | int k' x =>
        simp only [matchInts] at h
        cases e : (k == k' && x == a j) <;> rw [e] at h
        · simp at h
        · simp only [Bool.and_eq_true] at e
          obtain rfl : k = k' := by simpa using e.1
          obtain rfl : x = a j := by simpa using e.2
          obtain ⟨h1, h2, h3⟩ := matchInts_spec (by simpa using h)
          refine ⟨fun i hi => ?_, by simpa using h2, by simp; omega⟩
          cases i with
          | zero => rfl
          | succ i => rw [show j + (i + 1) = j + 1 + i by omega]; simpa using h1 i (by omega)
      | _ => simp [matchInts] at h

theorem matchBools_spec {a : Nat → Bool} : ∀ {n j : Nat} {l l' : List Value}, matchBools a n j l = some l' → (∀ i, i < n → l[i]? = some (.bool (a (j + i)))) ∧ l' = l.drop n ∧ n ≤ l.length
  | 0, j, l, l', h => by
    simp only [matchBools, Option.some.injEq] at h
    exact ⟨fun i hi => by omega, by simp [h], by omega⟩
  | n + 1, j, l, l', h => by
    cases l with
    | nil => simp [matchBools] at h
    | cons c l =>
      cases c with
      | bool x =>
        simp only [matchBools] at h
        cases e : (x == a j) <;> rw [e] at h
        · simp at h
        · obtain rfl : x = a j := by simpa using e
          obtain ⟨h1, h2, h3⟩ := matchBools_spec (by simpa using h)
          refine ⟨fun i hi => ?_, by simpa using h2, by simp; omega⟩
          cases i with
          | zero => rfl
          | succ i => rw [show j + (i + 1) = j + 1 + i by omega]; simpa using h1 i (by omega)
      | _ => simp [matchBools] at h

theorem matchSegs_spec : ∀ {l : List Seg} {cells : List Value}, matchSegs l cells = true → segsSize l = cells.length ∧ ∀ o v, segsGet? l o = some v → cells[o]? = some v ∧ scalar v = true
  | [], cells, h => by
    cases cells with
    | nil => exact ⟨rfl, by simp [segsGet?]⟩
    | cons c r => simp [matchSegs] at h
  | .one x :: r, cells, h => by
    cases cells with
    | nil => simp [matchSegs] at h
    | cons c l =>
      simp only [matchSegs, Bool.and_eq_true] at h
      obtain ⟨e, hs⟩ := sameScalar_spec h.1
      obtain ⟨h1, h2⟩ := matchSegs_spec h.2
      refine ⟨by simp [segsSize, Seg.size, h1]; omega, fun o v hv => ?_⟩
      simp only [segsGet?, Seg.size] at hv
      cases o with
      | zero =>
        have : Nat.blt 0 1 = true := rfl
        rw [this] at hv
        simp only [cond_true, Seg.get?, Nat.beq_refl, Option.some.injEq] at hv
        have hv : x = v := by simpa using hv
        rw [← hv]
        exact ⟨by simp [e], hs⟩
      | succ o =>
        have e2 : Nat.blt (o + 1) 1 = false := by
          cases h : Nat.blt (o + 1) 1 with
          | false => rfl
          | true => have := blt_tt h; omega
        rw [e2] at hv
        simpa using h2 o v (by simpa using hv)
  | .ints k n a :: r, cells, h => by
    simp only [matchSegs] at h
    cases hm : matchInts k a n 0 cells with
    | none => simp [hm] at h
    | some l' =>
      simp only [hm] at h
      obtain ⟨h1, h2, h3⟩ := matchInts_spec hm
      obtain ⟨g1, g2⟩ := matchSegs_spec h
      subst h2
      refine ⟨by simp [segsSize, Seg.size, g1]; omega, fun o v hv => ?_⟩
      simp only [segsGet?, Seg.size] at hv
      cases e : Nat.blt o n <;> rw [e] at hv
      · have := blt_ff e
        obtain ⟨p, q⟩ := g2 (o - n) v (by simpa using hv)
        refine ⟨?_, q⟩
        rw [List.getElem?_drop] at p
        rw [← p]; congr 1; omega
      · simp only [cond_true, Seg.get?, e, Option.some.injEq] at hv
        subst hv
        exact ⟨by have := h1 o (blt_tt e); simpa using this, rfl⟩
  | .bools n a :: r, cells, h => by
    simp only [matchSegs] at h
    cases hm : matchBools a n 0 cells with
    | none => simp [hm] at h
    | some l' =>
      simp only [hm] at h
      obtain ⟨h1, h2, h3⟩ := matchBools_spec hm
      obtain ⟨g1, g2⟩ := matchSegs_spec h
      subst h2
      refine ⟨by simp [segsSize, Seg.size, g1]; omega, fun o v hv => ?_⟩
      simp only [segsGet?, Seg.size] at hv
      cases e : Nat.blt o n <;> rw [e] at hv
      · have := blt_ff e
        obtain ⟨p, q⟩ := g2 (o - n) v (by simpa using hv)
        refine ⟨?_, q⟩
        rw [List.getElem?_drop] at p
        rw [← p]; congr 1; omega
      · simp only [cond_true, Seg.get?, e, Option.some.injEq] at hv
        subst hv
        exact ⟨by have := h1 o (blt_tt e); simpa using this, rfl⟩
  | .rows n sz g :: r, cells, h => by simp [matchSegs] at h
  | .gap n :: r, cells, h => by simp [matchSegs] at h

theorem matchSegs_rel {l : List Seg} {cells : List Value} {t : TypeId} (h : matchSegs l cells = true) (μ : Mu) : BlkRel μ { segs := l, ty := t, ro := false } (some (.cells ⟨cells⟩ t (0, 0))) := by
  obtain ⟨h1, h2⟩ := matchSegs_spec h
  refine ⟨⟨cells⟩, t, (0, 0), rfl, fun _ => ⟨rfl, rfl, ?_⟩, fun off v hv => ?_⟩
  · simp only [Blk.size, h1]; exact Nat.le_refl _
  · obtain ⟨a, b⟩ := h2 off v hv
    exact ⟨v, by simpa using a, .of_scalar b⟩

theorem OpSpec.newBlk {P : Program} {o : Oper} {ρ : Operand → Value} {h : HF} {n : Nat} {cs : List Value} {t : TypeId} {hs : List Hint} {ob : List Prop} {v : Value}
    (hrun : ∀ (μ : Mu) (a : Act) (w : World), Gl P μ → (∀ x ∈ o.op.operands, VRel μ (ρ x) (a.eval x)) → ∃ rs rv, VRels μ cs rs ∧ (execOp a.eval o).run P w = .ok (.value rv) (w.alloc (.cells ⟨rs⟩ t)) ∧
      ∀ μ' : Mu, μ' n = some w.heap.size → μ'.sz w.heap.size = rs.length → VRel μ' v rv) :
    OpSpec P o ρ h (VX.newBlk n (cellsBlk cs t) v hs ob) := by
  intro μ a w hg hx hr hn K Q hk
  obtain ⟨rs, rv, hcs, he, hv⟩ := hrun μ a w hg hx
  have hnn : μ n = none := hn n (by simp [VX.newBlk])
  obtain ⟨hle, hrep, hkeep⟩ := hr.new (cs := ⟨rs⟩) (t := t) (B := cellsBlk cs t) hnn (fun μ' hl => cellsBlk_rel (hcs.mono hl))
  refine wp_of_value he (hk _ _ rv hle ?_ hrep (hv _ (by simp) (by simp)) hkeep)
  intro i hi
  simp only [VX.newBlk, List.mem_singleton] at hi
  simp [hi]

theorem layAll_length {place : Nat → Option (Nat × Nat)} : ∀ {parts : List (Nat × Value)} {cells l : List Value}, layAll place parts cells = some l → l.length = cells.length
  | [], cells, l, h => by simp [layAll] at h; rw [h]
  | (i, v) :: r, cells, l, h => by
    simp only [layAll] at h
    split at h
    · simp at h
    · rename_i off size hp
      cases hc : (Nat.beq v.cells.toList.length size && Nat.ble (off + size) cells.length && v.cells.toList.all storable) <;> rw [hc] at h
      · simp at h
      · rw [layAll_length (by simpa using h), lay_length]

theorem repeatCells_length {l : List Value} {k : Nat} (h : l.length = k) : ∀ n, (repeatCells l n).length = n * k
  | 0 => by simp [repeatCells]
  | n + 1 => by simp only [repeatCells, List.length_append, repeatCells_length h n, h, Nat.add_mul]; omega

theorem parts_rel {μ : Mu} {ρ ρ' : Operand → Value} : ∀ (parts : List (Nat × Operand)), (∀ p ∈ parts, VRel μ (ρ p.2) (ρ' p.2)) → PartsRel μ (parts.map fun p => (p.1, ρ p.2)) (parts.map fun p => (p.1, ρ' p.2))
  | [], _ => trivial
  | p :: r, h => ⟨rfl, h p (by simp), parts_rel r fun q hq => h q (by simp [hq])⟩

theorem args_rel {μ : Mu} {ρ ρ' : Operand → Value} : ∀ (l : List Operand), (∀ x ∈ l, VRel μ (ρ x) (ρ' x)) → VRels μ (l.map ρ) (l.map ρ')
  | [], _ => .nil
  | x :: r, h => .cons (h x (by simp)) (args_rel r fun q hq => h q (by simp [hq]))

theorem boolsOf_get : ∀ {cs : List Value} {l : List Bool}, boolsOf cs = some l → cs = l.map Value.bool
  | [], l, h => by simp [boolsOf] at h; subst h; rfl
  | c :: cs, l, h => by
    cases c with
    | bool b =>
      simp only [boolsOf] at h
      cases hi : boolsOf cs with
      | none => simp [hi] at h
      | some r => simp [hi] at h; subst h; simp [boolsOf_get hi]
    | _ => simp [boolsOf] at h

theorem strsOf_get : ∀ {cs : List Value} {l : List ByteArray}, strsOf cs = some l → cs = l.map Value.string
  | [], l, h => by simp [strsOf] at h; subst h; rfl
  | c :: cs, l, h => by
    cases c with
    | string n =>
      simp only [strsOf] at h
      cases hi : strsOf cs with
      | none => simp [hi] at h
      | some r => simp [hi] at h; subst h; simp [strsOf_get hi]
    | _ => simp [strsOf] at h

theorem intsOf_get {k : IntKind} : ∀ {cs : List Value} {l : List Int}, intsOf k cs = some l → cs = l.map (Value.int k)
  | [], l, h => by simp [intsOf] at h; subst h; rfl
  | c :: cs, l, h => by
    cases c with
    | int k' n =>
      simp only [intsOf] at h
      cases e : k == k' <;> rw [e] at h
      · simp at h
      · obtain rfl : k = k' := by simpa using e
        cases hi : intsOf k cs with
        | none => simp [hi] at h
        | some r => simp [hi] at h; subst h; simp [intsOf_get hi]
    | _ => simp [intsOf] at h

theorem fieldPlace_run {P : Program} {fd : Field} {m : Nat} (hs : sizeB P fd.type = some (m + 1)) (b o : Nat) (w : World) : (fieldPlace ⟨b, o, none⟩ fd).run P w = .ok ⟨b, o + fd.offset, none⟩ w := by
  unfold fieldPlace
  simp only [Sem.run_bind, sizeOf_run hs w, Result.andThen_ok]
  rw [if_neg (by omega)]
  simp [add_off]

theorem takeB_spec {b d : Bool} {hs hs' : List Hint} {ob : List Prop} (h : takeB b hs = some (d, hs', ob)) (hob : ∀ q ∈ ob, q) : b = d := by
  unfold takeB at h
  split at h
  · simp only [Option.some.injEq, Prod.mk.injEq] at h; obtain ⟨rfl, _, rfl⟩ := h; exact hob _ (by simp)
  · simp only [Option.some.injEq, Prod.mk.injEq] at h; obtain ⟨rfl, _, rfl⟩ := h; exact hob _ (by simp)
  · simp at h

theorem mulSz_eq (i s : Nat) : mulSz i s = i * s := by
  unfold mulSz
  cases e : Nat.beq s 1
  · rfl
  · rw [beq_tt e]; simp

def baseOff (s : Option Nat) (off : Nat) : Nat := match s with | none => off | some st => st + off

theorem xat_ok {P : Program} {i off : Nat} {s : Option Nat} {len size : Nat} {ix : Int} {hs hs' : List Hint} {v : Value} {ob : List Prop} (h : xat i off s len size ix hs = some (v, hs', ob)) (hob : ∀ q ∈ ob, q)
    {μ : Mu} {b o : Nat} (hb : μ i = some b) (ho : o = baseOff s off) :
    (0 ≤ ix ∧ ix < (len : Int)) ∧ VRel μ v (.pointer (some ⟨b, o + ix.toNat * size, none⟩)) := by
  unfold xat at h
  split at h
  · rename_i k hs
    simp only [Option.some.injEq, Prod.mk.injEq] at h
    obtain ⟨rfl, _, rfl⟩ := h
    have h1 : ix = (k : Int) := hob _ (by simp)
    have h2 : k < len := hob _ (by simp)
    subst h1
    refine ⟨by omega, ?_⟩
    simp only [Int.toNat_natCast]
    cases s with
    | none => subst ho; exact .ptr hb _
    | some st => subst ho; simp only [baseOff]; rw [Nat.add_assoc]; exact .ptrS hb _ _
  · cases s with
    | none =>
      simp only [Option.some.injEq, Prod.mk.injEq] at h
      obtain ⟨rfl, _, rfl⟩ := h
      have h1 : 0 ≤ ix ∧ ix < (len : Int) := hob _ (by simp)
      refine ⟨h1, ?_⟩
      subst ho
      rw [mulSz_eq]
      exact .ptrS hb _ _
    | some st =>
      simp only [Option.some.injEq, Prod.mk.injEq] at h
      obtain ⟨rfl, _, rfl⟩ := h
      have h1 : 0 ≤ ix ∧ ix < (len : Int) := hob _ (by simp)
      refine ⟨h1, ?_⟩
      subst ho
      simp only [baseOff]
      rw [mulSz_eq, Nat.add_assoc]
      cases hz : Nat.beq off 0 with
      | false => exact .ptrS hb _ _
      | true =>
        obtain rfl := beq_tt hz
        rw [Nat.zero_add]
        exact .ptrS hb _ _
  · simp at h

theorem xat_len {i off : Nat} {s : Option Nat} {len size : Nat} {ix : Int} {hs hs' : List Hint} {v : Value} {ob : List Prop} (h : xat i off s len size ix hs = some (v, hs', ob)) (hob : ∀ q ∈ ob, q) : 0 ≤ ix ∧ ix < (len : Int) := by
  unfold xat at h
  split at h
  · rename_i k hs
    simp only [Option.some.injEq, Prod.mk.injEq] at h
    obtain ⟨rfl, _, rfl⟩ := h
    have h1 : ix = (k : Int) := hob _ (by simp)
    have h2 : k < len := hob _ (by simp)
    omega
  · cases s with
    | none =>
      simp only [Option.some.injEq, Prod.mk.injEq] at h
      obtain ⟨rfl, _, rfl⟩ := h
      exact hob _ (by simp)
    | some st =>
      simp only [Option.some.injEq, Prod.mk.injEq] at h
      obtain ⟨rfl, _, rfl⟩ := h
      exact hob _ (by simp)
  · simp at h

theorem indexAt_array_run {P : Program} {t e : TypeId} {len size b o : Nat} {k : IntKind} {ix : Int} (h1 : P.underlying t = some (.array len e)) (hs : sizeB P e = some size) (hi : 0 ≤ ix ∧ ix < (len : Int)) (w : World) :
    (Instr.indexAt t (.pointer (some ⟨b, o, none⟩)) (.int k ix)).run P w = .ok (.pointer (some ⟨b, o + ix.toNat * size, none⟩)) w := by
  unfold Instr.indexAt
  simp only [Sem.run_bind, asIntOf, Sem.run_pure, Result.andThen_ok, underlying_run h1, Instr.sureAddr]
  simp only [hi, and_self, if_true, Sem.run_bind, sizeOf_run hs, Result.andThen_ok, Sem.run_pure, add_off]

theorem indexAt_slice_run {P : Program} {t e : TypeId} {len cap size b o : Nat} {k : IntKind} {ix : Int} (h1 : P.underlying t = some (.slice e)) (hs : sizeB P e = some size) (hi : 0 ≤ ix ∧ ix < (len : Int)) (w : World) :
    (Instr.indexAt t (.slice (some ⟨b, o, none⟩) len cap) (.int k ix)).run P w = .ok (.pointer (some ⟨b, o + ix.toNat * size, none⟩)) w := by
  unfold Instr.indexAt
  simp only [Sem.run_bind, asIntOf, Sem.run_pure, Result.andThen_ok, underlying_run h1]
  simp only [hi, and_self, if_true, Sem.run_bind, sizeOf_run hs, Result.andThen_ok, Sem.run_pure, add_off]

theorem index_array_run {P : Program} {t e : TypeId} {len : Nat} {k : IntKind} {ix : Int} {cs : List Value} {v : Value} (h1 : P.underlying t = some (.array len e)) (ha : isAggB P e = some false) (hs : sizeB P e = some 1) (hi : 0 ≤ ix ∧ ix < (len : Int))
    (hv : cs[ix.toNat]? = some v) (w : World) : (Instr.index t (.agg ⟨cs⟩) (.int k ix)).run P w = .ok v w := by
  unfold Instr.index
  simp only [Sem.run_bind, asIntOf, Sem.run_pure, Result.andThen_ok, underlying_run h1]
  simp only [hi, and_self, if_true, Sem.run_bind, sizeOf_run hs, Result.andThen_ok, Nat.mul_one]
  exact part_run_one w ha hv

theorem index_string_run {P : Program} {t : TypeId} {k : IntKind} {ix : Int} {s : ByteArray} (h1 : P.underlying t = some .string) (hi : 0 ≤ ix ∧ ix < (s.size : Int)) (w : World) :
    (Instr.index t (.string s) (.int k ix)).run P w = .ok (.int .u8 (strAt s ix.toNat)) w := by
  unfold Instr.index
  simp only [Sem.run_bind, asIntOf, Sem.run_pure, Result.andThen_ok, underlying_run h1]
  have hlt : ix.toNat < s.size := by omega
  have e : (if 0 ≤ ix then s[ix.toNat]? else none) = some s[ix.toNat] := by rw [if_pos hi.1]; exact getElem?_pos s ix.toNat hlt
  rw [e]
  simp only [Sem.run_pure]
  unfold strAt
  have : s.data.getD ix.toNat 0 = s[ix.toNat] := by
    have h2 : ix.toNat < s.data.size := hlt
    simp only [Array.getD, h2, dif_pos]
    rfl
  rw [this]

theorem groupSegs_spec : ∀ {g : List Nat} {cs : List Value} {l : List Seg}, groupSegs g cs = some l → segsSize l = cs.length ∧ ∀ o v, segsGet? l o = some v → cs[o]? = some v
  | [], [], l, h => by simp [groupSegs] at h; subst h; exact ⟨rfl, fun o v h => by simp [segsGet?] at h⟩
  | [], _ :: _, l, h => by simp [groupSegs] at h
  | _ :: _, [], l, h => by simp [groupSegs] at h
  | n :: r, c :: cs, l, h => by
    simp only [groupSegs] at h
    cases e : Nat.beq n 1 <;> rw [e] at h
    · simp only [cond_false] at h
      split at h
      · rename_i k a
        split at h
        · rename_i ns hns
          cases e2 : Nat.beq ns.length n <;> rw [e2] at h
          · simp at h
          · simp only [cond_true] at h
            cases hr : groupSegs r ((Value.int k a :: cs).drop n) with
            | none => simp [hr] at h
            | some l' =>
              simp only [hr, Option.map_some, Option.some.injEq] at h; subst h
              obtain ⟨h1, h2⟩ := groupSegs_spec hr
              have hlen := beq_tt e2
              have hcs := intsOf_get hns
              have hle : n ≤ (Value.int k a :: cs).length := by
                have : ((Value.int k a :: cs).take n).length = n := by rw [hcs]; simpa using hlen
                rw [List.length_take] at this
                omega
              refine ⟨?_, fun o v hv => ?_⟩
              · simp only [segsSize, Seg.size, h1, List.length_drop]; omega
              · simp only [segsGet?, Seg.size] at hv
                cases e3 : Nat.blt o n <;> rw [e3] at hv
                · have h3 := blt_ff e3
                  have := h2 _ _ (by simpa using hv)
                  rw [List.getElem?_drop] at this
                  rw [show n + (o - n) = o by omega] at this
                  exact this
                · have h3 := blt_tt e3
                  simp only [cond_true, Seg.get?, e3, Option.some.injEq] at hv
                  subst hv
                  have : ((Value.int k a :: cs).take n)[o]? = some (.int k (ns.getD o 0)) := by
                    rw [hcs]
                    have : o < ns.length := by omega
                    simp [this]
                  rw [List.getElem?_take, if_pos h3] at this
                  exact this
        · simp at h
      · simp at h
    · simp only [cond_true] at h
      cases hr : groupSegs r cs with
      | none => simp [hr] at h
      | some l' =>
        simp only [hr, Option.map_some, Option.some.injEq] at h; subst h
        obtain ⟨h1, h2⟩ := groupSegs_spec hr
        refine ⟨by simp [segsSize, Seg.size, h1]; omega, fun o v hv => ?_⟩
        simp only [segsGet?, Seg.size] at hv
        cases e3 : Nat.blt o 1 <;> rw [e3] at hv
        · have h3 := blt_ff e3
          have := h2 _ _ (by simpa using hv)
          rw [show o = (o - 1) + 1 by omega]
          simpa using this
        · have h3 := blt_tt e3
          have h0 : o = 0 := by omega
          subst h0
          simpa [Seg.get?, beq_self] using hv
termination_by g cs _ _ => g.length

theorem OpSpec.newBlkS {P : Program} {o : Oper} {ρ : Operand → Value} {h : HF} {n : Nat} {S : List Seg} {t : TypeId} {hs : List Hint} {ob : List Prop} {v : Value}
    (hrun : ∀ (μ : Mu) (a : Act) (w : World), Gl P μ → (∀ x ∈ o.op.operands, VRel μ (ρ x) (a.eval x)) → ∃ rs rv cs, segsSize S = cs.length ∧ (∀ o v, segsGet? S o = some v → cs[o]? = some v) ∧ VRels μ cs rs ∧ (execOp a.eval o).run P w = .ok (.value rv) (w.alloc (.cells ⟨rs⟩ t)) ∧
      ∀ μ' : Mu, μ' n = some w.heap.size → μ'.sz w.heap.size = rs.length → VRel μ' v rv) :
    OpSpec P o ρ h (VX.newBlk n { segs := S, ty := t, ro := false } v hs ob) := by
  intro μ a w hg hx hr hn K Q hk
  obtain ⟨rs, rv, cs, h1, h2, hcs, he, hv⟩ := hrun μ a w hg hx
  have hnn : μ n = none := hn n (by simp [VX.newBlk])
  obtain ⟨hle, hrep, hkeep⟩ := hr.new (cs := ⟨rs⟩) (t := t) (B := { segs := S, ty := t, ro := false }) hnn (fun μ' hl => by
    refine ⟨⟨rs⟩, t, (0, 0), rfl, fun _ => ⟨rfl, rfl, ?_⟩, fun off v hv => ?_⟩
    · simp only [Blk.size, h1, hcs.length]; exact Nat.le_refl _
    · obtain ⟨y, hy, hvy⟩ := (hcs.mono hl).get off v (h2 off v hv)
      exact ⟨y, by simpa using hy, hvy⟩)
  refine wp_of_value he (hk _ _ rv hle ?_ hrep (hv _ (by simp) (by simp)) hkeep)
  intro i hi
  simp only [VX.newBlk, List.mem_singleton] at hi
  simp [hi]

/-- The operations that leave memory alone, and those that lay a block. -/
theorem xop0_quiet {P : Program} {ρ : Operand → Value} {H : HF} {n : Nat} {hs : List Hint} {o : Oper} {out : Out} (hx : xop0 P ρ H n hs o = some out) (hob : ∀ q ∈ out.ob, q) (h : HF)
    (hrd : ∀ i ∈ out.rd, h i = H i) (hsh : ∀ i ∈ out.sh, SameShape (h i) (H i)) (hcall : ∀ c, o.op ≠ .call c) : OpSpec P o ρ h out := by
  unfold xop0 at hx
  split at hx
  case h_1 x ho =>
    simp only [Option.some.injEq] at hx; subst hx
    exact .silent fun μ a w hg hxs => ⟨_, by unfold execOp; simp only [ho]; rfl, hxs x (by rw [ho]; simp [Op.operands])⟩
  case h_2 x ho =>
    simp only [Option.some.injEq] at hx; subst hx
    exact .silent fun μ a w hg hxs => ⟨_, by unfold execOp; simp only [ho]; rfl, hxs x (by rw [ho]; simp [Op.operands])⟩
  case h_3 c a b ho =>
    split at hx
    · rename_i t ht
      split at hx
      · rename_i d hs' ob htk
        simp only [Option.some.injEq] at hx; subst hx
        have hd := takeB_spec htk hob
        refine .silent fun μ ac w hg hxs => ?_
        have hc := hxs c (by rw [ho]; simp [Op.operands])
        have ha := hxs a (by rw [ho]; simp [Op.operands])
        have hb := hxs b (by rw [ho]; simp [Op.operands])
        rw [ht] at hc
        have hc' : ac.eval c = .bool t := by
          revert hc
          generalize ac.eval c = X
          intro hc
          cases hc; rfl
        refine ⟨if t then ac.eval a else ac.eval b, ?_, ?_⟩
        · unfold execOp; simp only [ho, hc', asBool]; rfl
        · subst hd; cases t <;> simpa
      · simp at hx
    · simp at hx
  case h_4 e ho =>
    split at hx
    · rename_i i hi
      split at hx
      · rename_i z hz
        cases hf : flat z <;> rw [hf] at hx
        · simp at hx
        · have hex : ∀ (a : Act) (w : World), (execOp a.eval o).run P w = .ok (.value (.pointer (some ⟨w.heap.size, 0, none⟩))) (w.alloc (.cells ⟨z.cells.toList⟩ e)) := by
            intro a w
            unfold execOp
            simp only [ho, Instr.alloc, Sem.run_bind, zeroValue_run hi hz, Result.andThen_ok, newVar, newRow, newObj, Sem.run, Sem.run_pure]
            rfl
          simp only [cond_true] at hx
          split at hx
          · rename_i l hs'
            cases hm : matchSegs l z.cells.toList <;> rw [hm] at hx
            · simp at hx
            · simp only [cond_true, Option.some.injEq] at hx; subst hx
              exact .newBlk' fun μ a w hg hxs => ⟨z.cells.toList, .pointer (some ⟨w.heap.size, 0, none⟩), matchSegs_rel hm, hex a w, fun μ' hm _ => .ptr hm 0⟩
          · simp only [Option.some.injEq] at hx; subst hx
            exact .newBlk fun μ a w hg hxs => ⟨z.cells.toList, .pointer (some ⟨w.heap.size, 0, none⟩), VRels.of_flat_cells hf, hex a w, fun μ' hm _ => .ptr hm 0⟩
      · simp at hx
    · simp at hx
  case h_5 e x ho =>
    cases hst : (ρ x).cells.toList.all storable <;> rw [hst] at hx
    · simp at hx
    · simp only [cond_true] at hx
      have hex : ∀ (a : Act) (w : World), (execOp a.eval o).run P w = .ok (.value (.pointer (some ⟨w.heap.size, 0, none⟩))) (w.alloc (.cells ⟨(a.eval x).cells.toList⟩ e)) := by
        intro a w
        unfold execOp
        simp only [ho, Instr.box, Sem.run_bind, Result.andThen_ok, newVar, newRow, newObj, Sem.run, Sem.run_pure]
        rfl
      split at hx
      · rename_i g hs'
        cases hgr : groupSegs g (ρ x).cells.toList with
        | none => simp [hgr] at hx
        | some l =>
          simp only [hgr, Option.map_some, Option.some.injEq] at hx; subst hx
          obtain ⟨g1, g2⟩ := groupSegs_spec hgr
          refine .newBlkS fun μ a w hg hxs => ?_
          have hv := hxs x (by rw [ho]; simp [Op.operands])
          obtain ⟨hc, _⟩ := hv.cells hst
          exact ⟨(a.eval x).cells.toList, .pointer (some ⟨w.heap.size, 0, none⟩), (ρ x).cells.toList, g1, g2, hc, hex a w, fun μ' hm _ => .ptr hm 0⟩
      · rename_i l hs'
        cases hm : matchSegs l (ρ x).cells.toList <;> rw [hm] at hx
        · simp at hx
        · simp only [cond_true, Option.some.injEq] at hx; subst hx
          obtain ⟨g1, g2⟩ := matchSegs_spec hm
          refine .newBlkS fun μ a w hg hxs => ?_
          have hv := hxs x (by rw [ho]; simp [Op.operands])
          obtain ⟨hc, _⟩ := hv.cells hst
          exact ⟨(a.eval x).cells.toList, .pointer (some ⟨w.heap.size, 0, none⟩), (ρ x).cells.toList, g1, fun o v h => (g2 o v h).1, hc, hex a w, fun μ' hm _ => .ptr hm 0⟩
      · simp only [Option.some.injEq] at hx; subst hx
        refine .newBlk fun μ a w hg hxs => ?_
        have hv := hxs x (by rw [ho]; simp [Op.operands])
        obtain ⟨hc, _⟩ := hv.cells hst
        exact ⟨(a.eval x).cells.toList, .pointer (some ⟨w.heap.size, 0, none⟩), hc, hex a w, fun μ' hm _ => .ptr hm 0⟩
  case h_6 t p ho =>
    split at hx
    · rename_i v i ob hl
      simp only [Option.some.injEq] at hx; subst hx
      intro μ a w hg hxs hr hn K Q hk
      have hp := hxs p (by rw [ho]; simp [Op.operands])
      obtain ⟨rv, hrun, hv⟩ := xload_ok hl hob (hrd i (by simp)) hr hp
      refine wp_of_value (v := rv) (w' := w) ?_ (hk μ w rv (Mu.le_refl μ) (fun _ _ => rfl) hr hv (Keeps.refl _ _ _))
      unfold execOp
      simp only [ho, Sem.run_bind, hrun, Result.andThen_ok, Sem.run_pure]
    · simp at hx
  case h_7 t p x ho =>
    split at hx
    · rename_i i off vs hst
      simp only [Option.some.injEq] at hx; subst hx
      intro μ a w hg hxs hr hn K Q hk
      have hp := hxs p (by rw [ho]; simp [Op.operands])
      have hv := hxs x (by rw [ho]; simp [Op.operands])
      obtain ⟨w', hrun, hrep, hkeep⟩ := xstore_cells_ok hst (hsh i (by simp)) hr hp hv
      refine wp_of_skip (w' := w') ?_ (hk μ w' undef (Mu.le_refl μ) (fun _ _ => rfl) hrep (.junk _) hkeep)
      unfold execOp
      simp only [ho, Sem.run_bind, hrun, Result.andThen_ok, Sem.run_pure]
    · rename_i i B ob hst
      simp only [Option.some.injEq] at hx; subst hx
      intro μ a w hg hxs hr hn K Q hk
      have hp := hxs p (by rw [ho]; simp [Op.operands])
      have hv := hxs x (by rw [ho]; simp [Op.operands])
      obtain ⟨w', hrun, hrep, hkeep⟩ := xstore_whole_ok hst (hob _ (by simp)) (hrd i (by simp)) hr hp hv
      refine wp_of_skip (w' := w') ?_ (hk μ w' undef (Mu.le_refl μ) (fun _ _ => rfl) hrep (.junk _) hkeep)
      unfold execOp
      simp only [ho, Sem.run_bind, hrun, Result.andThen_ok, Sem.run_pure]
    · simp at hx
  case h_8 x ho =>
    split at hx
    · rename_i ad hρ
      simp only [Option.some.injEq] at hx; subst hx
      refine .silent fun μ a w hg hxs => ?_
      have hv := hxs x (by rw [ho]; simp [Op.operands])
      rw [hρ] at hv
      refine ⟨a.eval x, ?_, hv⟩
      unfold execOp
      simp only [ho]
      revert hv
      generalize a.eval x = X
      intro hv
      cases hv <;> rfl
    · rename_i f fs cs hρ
      simp only [Option.some.injEq] at hx; subst hx
      refine .silent fun μ a w hg hxs => ?_
      have hv := hxs x (by rw [ho]; simp [Op.operands])
      rw [hρ] at hv
      refine ⟨a.eval x, ?_, hv⟩
      unfold execOp
      simp only [ho]
      revert hv
      generalize a.eval x = X
      intro hv
      cases hv; rfl
    · simp at hx
  case h_9 op t x y yt ho =>
    split at hx
    · rename_i v ob hb
      simp only [Option.some.injEq] at hx; subst hx
      refine .silent fun μ a w hg hxs => ?_
      have h1 := hxs x (by rw [ho]; simp [Op.operands])
      have h2 := hxs y (by rw [ho]; simp [Op.operands])
      obtain ⟨hrun, hv⟩ := xbin_ok hb hob h1 h2 x y w
      refine ⟨v, ?_, hv⟩
      unfold execOp
      simp only [ho, Sem.run_bind] at hrun ⊢
      rw [hrun]
      rfl
    · simp at hx
  case h_10 op t x ho =>
    cases hu : xun op (ρ x) with
    | none => simp [hu] at hx
    | some v =>
      simp only [hu, Option.map_some, Option.some.injEq] at hx; subst hx
      refine .silent fun μ a w hg hxs => ?_
      obtain ⟨hrun, hv⟩ := xun_ok (P := P) hu (hxs x (by rw [ho]; simp [Op.operands])) w
      refine ⟨v, ?_, hv⟩
      unfold execOp
      simp only [ho, Sem.run_bind, hrun, Result.andThen_ok, Sem.run_pure]
  case h_11 src dst x ho =>
    split at hx
    · rename_i hsome
      cases hu : xconv P dst (ρ x) with
      | none => simp [hu] at hx
      | some v =>
        simp only [hu, Option.map_some, Option.some.injEq] at hx; subst hx
        refine .silent fun μ a w hg hxs => ?_
        obtain ⟨hrun, hv⟩ := xconv_ok (src := src) hu hsome (hxs x (by rw [ho]; simp [Op.operands])) w
        refine ⟨v, ?_, hv⟩
        unfold execOp
        simp only [ho, Sem.run_bind, hrun, Result.andThen_ok, Sem.run_pure]
    · simp at hx
  case h_12 s p f ho =>
    split at hx
    · rename_i i off sp fields hρ hu
      split at hx
      · rename_i fd hfd
        split at hx
        · rename_i m hsz
          simp only [Option.some.injEq] at hx; subst hx
          refine .silent fun μ a w hg hxs => ?_
          have hv := hxs p (by rw [ho]; simp [Op.operands])
          rw [hρ] at hv
          have fin : ∀ b o', a.eval p = .pointer (some ⟨b, o', none⟩) → (execOp a.eval o).run P w = .ok (.value (.pointer (some ⟨b, o' + fd.offset, none⟩))) w := by
            intro b o' he
            unfold execOp
            simp only [ho, he, Instr.fieldAt, Sem.run_bind, underlying_run hu, Result.andThen_ok, hfd, Instr.sureAddr, Sem.run_pure, fieldPlace_run hsz]
          revert fin hv
          generalize a.eval p = X
          intro hv fin
          cases hv with
          | ptr hb _ => exact ⟨_, fin _ _ rfl, .ptr hb _⟩
          | ptrS hb st _ => exact ⟨_, fin _ _ rfl, by rw [Nat.add_assoc]; exact .ptrS hb _ _⟩
        · simp at hx
      · simp at hx
    · simp at hx
  case h_13 t x f ho =>
    split at hx
    · rename_i cs fields hρ hu
      split at hx
      · rename_i fd hfd
        split at hx
        · rename_i m ha hsz
          simp only [Option.some.injEq] at hx; subst hx
          refine .silent fun μ a w hg hxs => ?_
          have hv := hxs x (by rw [ho]; simp [Op.operands])
          rw [hρ] at hv
          unfold execOp
          simp only [ho]
          revert hv
          generalize a.eval x = X
          intro hv
          cases hv with
          | agg hcs =>
            refine ⟨_, ?_, .agg ((hcs.drop fd.offset).take m)⟩
            simp only [Instr.field, Sem.run_bind, underlying_run hu, Result.andThen_ok, hfd, asAgg, Sem.run_pure, part_run_agg w ha hsz]
        · rename_i ha
          cases hc : cs[fd.offset]? with
          | none => simp [hc] at hx
          | some v =>
            simp only [hc, Option.map_some, Option.some.injEq] at hx; subst hx
            refine .silent fun μ a w hg hxs => ?_
            have hv := hxs x (by rw [ho]; simp [Op.operands])
            rw [hρ] at hv
            unfold execOp
            simp only [ho]
            revert hv
            generalize a.eval x = X
            intro hv
            cases hv with
            | agg hcs =>
              obtain ⟨y, hy, hvy⟩ := hcs.get _ _ hc
              refine ⟨y, ?_, hvy⟩
              simp only [Instr.field, Sem.run_bind, underlying_run hu, Result.andThen_ok, hfd, asAgg, Sem.run_pure, part_run_one w ha hy]
        · simp at hx
      · simp at hx
    · simp at hx
  case h_14 t x ix ho =>
    split at hx
    · rename_i k i len e b off sp hix hu hρ
      split at hx
      · rename_i size hsz
        split at hx
        · rename_i v hs' ob hat
          simp only [Option.some.injEq] at hx; subst hx
          refine .silent fun μ a w hg hxs => ?_
          have h1 := hxs x (by rw [ho]; simp [Op.operands])
          have h2 := hxs ix (by rw [ho]; simp [Op.operands])
          rw [hρ] at h1
          rw [hix] at h2
          have hi2 : a.eval ix = .int k i := by
            revert h2
            generalize a.eval ix = X
            intro h2; cases h2; rfl
          have fin : ∀ c o', μ b = some c → o' = baseOff sp off → a.eval x = .pointer (some ⟨c, o', none⟩) → ∃ rv, (execOp a.eval o).run P w = .ok (.value rv) w ∧ VRel μ v rv := by
            intro c o' hc ho' he
            obtain ⟨hi, hv⟩ := xat_ok (P := P) hat hob hc ho'
            refine ⟨_, ?_, hv⟩
            unfold execOp
            simp only [ho, he, hi2, Sem.run_bind, indexAt_array_run hu hsz hi, Result.andThen_ok, Sem.run_pure]
          revert fin h1
          generalize a.eval x = X
          intro h1 fin
          cases h1 with
          | ptr hb _ => exact fin _ _ hb rfl rfl
          | ptrS hb st _ => exact fin _ _ hb rfl rfl
        · simp at hx
      · simp at hx
    · rename_i k i e b off sp len cap hix hu hρ
      split at hx
      · rename_i size hsz
        split at hx
        · rename_i v hs' ob hat
          simp only [Option.some.injEq] at hx; subst hx
          refine .silent fun μ a w hg hxs => ?_
          have h1 := hxs x (by rw [ho]; simp [Op.operands])
          have h2 := hxs ix (by rw [ho]; simp [Op.operands])
          rw [hρ] at h1
          rw [hix] at h2
          have hi2 : a.eval ix = .int k i := by
            revert h2
            generalize a.eval ix = X
            intro h2; cases h2; rfl
          have fin : ∀ c o' cap', μ b = some c → o' = baseOff sp off → a.eval x = .slice (some ⟨c, o', none⟩) len cap' → ∃ rv, (execOp a.eval o).run P w = .ok (.value rv) w ∧ VRel μ v rv := by
            intro c o' cap' hc ho' he
            obtain ⟨hi, hv⟩ := xat_ok (P := P) hat hob hc ho'
            refine ⟨_, ?_, hv⟩
            unfold execOp
            simp only [ho, he, hi2, Sem.run_bind, indexAt_slice_run hu hsz hi, Result.andThen_ok, Sem.run_pure]
          revert fin h1
          generalize a.eval x = X
          intro h1 fin
          cases h1 with
          | slice hb _ _ _ _ _ _ => exact fin _ _ _ hb rfl rfl
          | sliceS hb st _ _ _ _ _ _ => exact fin _ _ _ hb rfl rfl
          | sliceE _ _ _ _ _ _ _ => exact absurd (xat_len hat hob) (by omega)
        · simp at hx
      · simp at hx
    · simp at hx
  case h_15 t x ix ho =>
    split at hx
    · rename_i k i len e cs hix hu hρ
      have hi2 : ∀ (μ : Mu) (a : Act), (∀ y ∈ o.op.operands, VRel μ (ρ y) (a.eval y)) → a.eval ix = .int k i := by
        intro μ a hxs
        have h2 := hxs ix (by rw [ho]; simp [Op.operands])
        rw [hix] at h2
        revert h2
        generalize a.eval ix = X
        intro h2; cases h2; rfl
      split at hx
      · rename_i j hs' ha hsz
        cases hc : cs[j]? with
        | none => simp [hc] at hx
        | some v =>
          simp only [hc, Option.map_some, Option.some.injEq] at hx; subst hx
          have h1 : i = (j : Int) := hob _ (by simp [VX.silent])
          have h2 : j < len := hob _ (by simp [VX.silent])
          refine .silent fun μ a w hg hxs => ?_
          have hv := hxs x (by rw [ho]; simp [Op.operands])
          have hii := hi2 μ a hxs
          rw [hρ] at hv
          unfold execOp
          simp only [ho, hii]
          revert hv
          generalize a.eval x = X
          intro hv
          cases hv with
          | agg hcs =>
            obtain ⟨y, hy, hvy⟩ := hcs.get _ _ hc
            refine ⟨y, ?_, hvy⟩
            subst h1
            simp only [Sem.run_bind, index_array_run (P := P) (k := k) hu ha hsz (ix := (j : Int)) ⟨by omega, by omega⟩ (v := y) (by simpa using hy), Result.andThen_ok, Sem.run_pure]
      · rename_i hs' ha hsz
        split at hx
        · rename_i k' z r
          cases hl : intsOf k' (.int k' z :: r) with
          | none => simp [hl] at hx
          | some l =>
            simp only [hl, Option.map_some, Option.some.injEq] at hx; subst hx
            have h1 : 0 ≤ i ∧ i < (len : Int) := hob _ (by simp [VX.silent])
            have h2 : l.length = len := hob _ (by simp [VX.silent])
            have hcs := intsOf_get hl
            refine .silent fun μ a w hg hxs => ?_
            have hv := hxs x (by rw [ho]; simp [Op.operands])
            have hii := hi2 μ a hxs
            rw [hρ, hcs] at hv
            unfold execOp
            simp only [ho, hii]
            revert hv
            generalize a.eval x = X
            intro hv
            cases hv with
            | agg hrel =>
              have hget : (l.map (Value.int k'))[i.toNat]? = some (.int k' (l.getD i.toNat 0)) := by
                have : i.toNat < l.length := by omega
                simp [this]
              obtain ⟨y, hy, hvy⟩ := hrel.get _ _ hget
              refine ⟨y, ?_, hvy⟩
              simp only [Sem.run_bind, index_array_run (P := P) (k := k) hu ha hsz h1 hy, Result.andThen_ok, Sem.run_pure]
        · simp at hx
      · simp at hx
    · rename_i k i s hix hu hρ
      simp only [Option.some.injEq] at hx; subst hx
      have h1 : 0 ≤ i ∧ i < (s.size : Int) := hob _ (by simp [VX.silent])
      refine .silent fun μ a w hg hxs => ?_
      have hv := hxs x (by rw [ho]; simp [Op.operands])
      have h2 := hxs ix (by rw [ho]; simp [Op.operands])
      rw [hρ] at hv
      rw [hix] at h2
      refine ⟨.int .u8 (strAt s i.toNat), ?_, .int _ _⟩
      unfold execOp
      simp only [ho]
      revert hv h2
      generalize a.eval x = X
      generalize a.eval ix = Y
      intro hv h2
      cases hv; cases h2
      simp only [Sem.run_bind, index_string_run (P := P) hu h1, Result.andThen_ok, Sem.run_pure]
    · simp at hx
  case h_16 x i ho =>
    split at hx
    · rename_i vs hρ
      cases hc : vs[i]? with
      | none => simp [hc] at hx
      | some v =>
        simp only [hc, Option.map_some, Option.some.injEq] at hx; subst hx
        refine .silent fun μ a w hg hxs => ?_
        have hv := hxs x (by rw [ho]; simp [Op.operands])
        rw [hρ] at hv
        unfold execOp
        simp only [ho]
        revert hv
        generalize a.eval x = X
        intro hv
        cases hv with
        | junk r => simp at hc
        | tup hvs =>
          obtain ⟨y, hy, hvy⟩ := hvs.get _ _ hc
          refine ⟨y, ?_, hvy⟩
          simp [Instr.extract, hy]
    · simp at hx
  case h_17 t parts ho =>
    have hpr : ∀ (μ : Mu) (a : Act), (∀ y ∈ o.op.operands, VRel μ (ρ y) (a.eval y)) → PartsRel μ (parts.toList.map fun p => (p.1, ρ p.2)) (parts.toList.map fun p => (p.1, a.eval p.2)) := by
      intro μ a hxs
      refine parts_rel _ fun p hp => hxs p.2 ?_
      rw [ho]
      simp only [Op.operands, List.mem_toArray, List.mem_map]
      exact ⟨p, hp, rfl⟩
    have hex : ∀ (a : Act) (w : World) (rl : List Value), (Instr.build t ⟨parts.toList.map fun p => (p.1, a.eval p.2)⟩).run P w = .ok (.agg ⟨rl⟩) w → (execOp a.eval o).run P w = .ok (.value (.agg ⟨rl⟩)) w := by
      intro a w rl hrun
      unfold execOp
      have e : (parts.map fun (i, x) => (i, a.eval x)) = ⟨parts.toList.map fun p => (p.1, a.eval p.2)⟩ := by apply Array.ext'; simp
      simp only [ho, Sem.run_bind]
      rw [e, hrun]
      rfl
    split at hx
    · rename_i inf fields hi hu
      split at hx
      · rename_i z pl hz hpl
        cases hf : flat z <;> rw [hf] at hx
        · simp at hx
        · simp only [cond_true] at hx
          cases hl : layAll (fun i => pl[i]?) (parts.toList.map fun p => (p.1, ρ p.2)) z.cells.toList with
          | none => simp [hl] at hx
          | some l =>
            simp only [hl, Option.map_some, Option.some.injEq] at hx; subst hx
            refine .silent fun μ a w hg hxs => ?_
            obtain ⟨rl, hrun, hv⟩ := build_struct_ok hi hu hz hpl hf hl (hpr μ a hxs) w
            exact ⟨_, hex a w rl hrun, .agg hv⟩
      · simp at hx
    · rename_i inf m e hi hu
      split at hx
      · rename_i z sz hz hsz
        cases hf : flat z <;> rw [hf] at hx
        · simp at hx
        · simp only [cond_true] at hx
          cases hl : layAll (fun i => some (i * sz, sz)) (parts.toList.map fun p => (p.1, ρ p.2)) z.cells.toList with
          | none => simp [hl] at hx
          | some l =>
            simp only [hl, Option.map_some, Option.some.injEq] at hx; subst hx
            refine .silent fun μ a w hg hxs => ?_
            obtain ⟨rl, hrun, hv⟩ := build_array_ok hi hu hz hsz hf hl (hpr μ a hxs) w
            exact ⟨_, hex a w rl hrun, .agg hv⟩
      · simp at hx
    · simp at hx
  case h_18 t len parts ho =>
    split at hx
    · rename_i e hu
      split at hx
      · rename_i inf hi
        split at hx
        · rename_i z hz
          cases hc : (flat z && Nat.beq z.cells.toList.length inf.size && Nat.ble 1 inf.size && Nat.ble ((len + 1) * inf.size) 16777216) <;> rw [hc] at hx
          · simp at hx
          · simp only [cond_true] at hx
            simp only [Bool.and_eq_true] at hc
            obtain ⟨⟨⟨hf, hs1⟩, h0⟩, hm⟩ := hc
            cases hl : layAll (fun i => some (i * inf.size, inf.size)) (parts.toList.map fun p => (p.1, ρ p.2)) (repeatCells z.cells.toList (len + 1)) with
            | none => simp [hl] at hx
            | some l =>
              have key : ∀ (μ : Mu) (a : Act) (w : World), Gl P μ → (∀ x ∈ o.op.operands, VRel μ (ρ x) (a.eval x)) → ∃ rl, VRels μ l rl ∧ rl.length = (len + 1) * inf.size ∧ (execOp a.eval o).run P w = .ok (.value (.slice (some ⟨w.heap.size, 0, none⟩) (len + 1) (len + 1))) (w.alloc (.cells ⟨rl⟩ e)) := by
                intro μ a w hg hxs
                have hpr : PartsRel μ (parts.toList.map fun p => (p.1, ρ p.2)) (parts.toList.map fun p => (p.1, a.eval p.2)) := by
                  refine parts_rel _ fun p hp => hxs p.2 ?_
                  rw [ho]
                  simp only [Op.operands, List.mem_toArray, List.mem_map]
                  exact ⟨p, hp, rfl⟩
                obtain ⟨rl, hrun, hv⟩ := buildSlice_ok hu hi hz hf (beq_tt hs1) (ble_tt h0) (ble_tt hm) hl hpr (by omega) w
                refine ⟨rl, hv, by rw [← hv.length, layAll_length hl]; exact repeatCells_length (beq_tt hs1) (len + 1), ?_⟩
                unfold execOp
                have e : (parts.map fun (i, x) => (i, a.eval x)) = ⟨parts.toList.map fun p => (p.1, a.eval p.2)⟩ := by apply Array.ext'; simp
                simp only [ho, Sem.run_bind]
                rw [e, hrun]
                rfl
              simp only [hl, Option.map_some, Option.some.injEq] at hx
              split at hx
              · rename_i S hs'
                subst hx
                obtain ⟨hS1, hS2⟩ : SegsOk S l := hob _ (by simp [VX.newBlk])
                refine .newBlkS fun μ a w hg hxs => ?_
                obtain ⟨rl, hv, hlen, hrun⟩ := key μ a w hg hxs
                refine ⟨rl, _, l, hS1, hS2, hv, hrun, fun μ' hm hsz => ?_⟩
                exact VRel.sliceS hm 0 0 _ _ _ (Nat.le_refl _) (.inr (by rw [hsz, hlen]; omega))
              · subst hx
                refine .newBlk fun μ a w hg hxs => ?_
                obtain ⟨rl, hv, hlen, hrun⟩ := key μ a w hg hxs
                exact ⟨rl, _, hv, hrun, fun μ' hm hsz => .slice hm 0 _ _ _ (Nat.le_refl _) (.inr (by rw [hsz, hlen]; omega))⟩
        · simp at hx
      · simp at hx
    · simp at hx
  case h_19 f first captured ho =>
    simp only [Option.some.injEq] at hx; subst hx
    refine .silent fun μ a w hg hxs => ?_
    refine ⟨.func (.func f) ⟨first.toList.map a.eval⟩ ⟨captured.toList.map a.eval⟩, ?_, .func _ (args_rel _ fun x hx => hxs x ?_) (args_rel _ fun x hx => hxs x ?_)⟩
    · unfold execOp
      have e1 : first.map a.eval = ⟨first.toList.map a.eval⟩ := by apply Array.ext'; simp
      have e2 : captured.map a.eval = ⟨captured.toList.map a.eval⟩ := by apply Array.ext'; simp
      simp only [ho, Instr.makeFunc, e1, e2]
      rfl
    · rw [ho]; simp [Op.operands]; exact .inl (by simpa using hx)
    · rw [ho]; simp [Op.operands]; exact .inr (by simpa using hx)
  case h_20 c ho => exact absurd ho (hcall c)
  case h_21 => simp at hx

/-- A new block that is frozen at once. -/
theorem Rep.born {μ : Mu} {h : HF} {w : World} (r : Rep μ h w) {cs : Array Value} {t : TypeId} :
    let μ' : Mu := ⟨μ.nm, μ.sz, fun b => if b = w.heap.size then some cs else μ.fz b⟩
    μ.le μ' ∧ Rep μ' h (w.alloc (.cells cs t)) ∧ Keeps μ h w μ' h (w.alloc (.cells cs t)) := by
  intro μ'
  have hle : μ.le μ' := by
    refine ⟨fun _ _ h => h, fun _ _ _ => rfl, fun b cs' hf => ?_⟩
    obtain ⟨t', fr', e'⟩ := r.frz _ _ hf
    have := (Array.getElem?_eq_some_iff.1 e').1
    simp only [μ', if_neg (show ¬ b = w.heap.size by omega)]
    exact hf
  refine ⟨hle, ⟨?_, ?_, ?_, ?_, ?_, ?_⟩, ⟨rfl, rfl, rfl, by simp, ?_, ?_, fun _ _ => rfl, hle.fzs, ?_⟩⟩
  · intro j C hj hne
    obtain ⟨c, hc, hb⟩ := r.blk j C hj hne
    exact ⟨c, hc, by rw [hAllocOld _ _ _ (r.bound j c hc)]; exact hb.mono hle⟩
  · exact r.apart
  · intro j c hj
    have := r.bound j c hj
    simp; omega
  · intro j C c hj hCro hjc
    have hlt := r.bound j c hjc
    obtain ⟨cs', t', fr', e', hs'⟩ := r.size j C c hj hCro hjc
    exact ⟨cs', t', fr', by rw [hAllocOld _ _ _ hlt]; exact e', hs'⟩
  · intro c cs' hf
    by_cases hcs : c = w.heap.size
    · subst hcs
      simp only [μ', if_true, Option.some.injEq] at hf
      subst hf
      exact ⟨t, (0, 0), heap_alloc_new _ _⟩
    · simp only [μ', if_neg hcs] at hf
      obtain ⟨t', fr', e'⟩ := r.frz c cs' hf
      exact ⟨t', fr', by rw [hAllocOld _ _ _ (Array.getElem?_eq_some_iff.1 e').1]; exact e'⟩
  · intro j C c hj hCro hjc
    have hlt := r.bound j c hjc
    simp only [μ', if_neg (show ¬ c = w.heap.size by omega)]
    exact r.nofz j C c hj hCro hjc
  · intro b hb _
    exact hAllocOld _ _ _ hb
  · intro i B b e m _
    exact ⟨i, B, e, m, fun x => x⟩
  · intro b cs' hf
    by_cases hcs : b = w.heap.size
    · exact .inr (.inr (by omega))
    · simp only [μ', if_neg hcs] at hf
      exact .inl hf

theorem xborn_ok {P : Program} {ρ : Operand → Value} {n : Nat} {hs : List Hint} {o : Oper} {out : Out} (hx : xborn P ρ n hs o = some out) (h : HF) : OpSpec P o ρ h out := by
  unfold xborn at hx
  split at hx
  · rename_i t len parts ho
    split at hx
    · rename_i e hu
      split at hx
      · rename_i inf hi
        split at hx
        · rename_i z hz
          cases hc : (flat z && Nat.beq z.cells.toList.length inf.size && Nat.ble 1 inf.size && Nat.ble ((len + 1) * inf.size) 16777216) <;> rw [hc] at hx
          · simp at hx
          · simp only [cond_true] at hx
            simp only [Bool.and_eq_true] at hc
            obtain ⟨⟨⟨hf, hs1⟩, h0⟩, hm⟩ := hc
            split at hx
            · rename_i l hl
              cases hsol : l.all solid <;> rw [hsol] at hx
              · simp at hx
              · simp only [cond_true, Option.some.injEq] at hx; subst hx
                intro μ a w hg hxs hr hn K Q hk
                have hpr : PartsRel μ (parts.toList.map fun p => (p.1, ρ p.2)) (parts.toList.map fun p => (p.1, a.eval p.2)) := by
                  refine parts_rel _ fun p hp => hxs p.2 ?_
                  rw [ho]
                  simp only [Op.operands, List.mem_toArray, List.mem_map]
                  exact ⟨p, hp, rfl⟩
                obtain ⟨rl, hrun, hv⟩ := buildSlice_ok hu hi hz hf (beq_tt hs1) (ble_tt h0) (ble_tt hm) hl hpr (by omega) w
                obtain rfl := VRels.eq_of_solids hsol hv
                obtain ⟨hle, hrep, hkeep⟩ := hr.born (cs := ⟨rl⟩) (t := e)
                have he : (execOp a.eval o).run P w = .ok (.value (.slice (some ⟨w.heap.size, 0, none⟩) (len + 1) (len + 1))) (w.alloc (.cells ⟨rl⟩ e)) := by
                  unfold execOp
                  have e : (parts.map fun (i, x) => (i, a.eval x)) = ⟨parts.toList.map fun p => (p.1, a.eval p.2)⟩ := by apply Array.ext'; simp
                  simp only [ho, Sem.run_bind]
                  rw [e, hrun]
                  rfl
                refine wp_of_value he (hk _ _ _ hle (fun _ _ => rfl) hrep ?_ hkeep)
                have h0' := ble_tt h0
                have hlen : (len + 1) * inf.size = rl.length := by
                  rw [layAll_length hl]; exact (repeatCells_length (beq_tt hs1) (len + 1)).symm
                refine .lst _ _ _ hsol ⟨_, _, _, rfl⟩ fun _ => .inr (.inr ⟨by omega, _, _, _, _, ⟨rl⟩, rfl, Nat.le_refl _, hlen, by simp, fun j v hj => by simpa using hj⟩)
            · simp at hx
        · simp at hx
      · simp at hx
    · simp at hx
  · simp at hx

end Go.Proofs.Ytgnhhnmpeklciaa.VX
