/-
  Operators, equality, composite values: what the model gives of them. No condition.
-/
import Derived.Test.YtgnhhnmpeklciaaVD
import Derived.Laws.StructEq
import Derived.Laws.Tables
namespace Go.Proofs.Ytgnhhnmpeklciaa.VX
open Go
set_option linter.unusedSimpArgs false
set_option linter.unusedVariables false

-- ---------------------------------------------------------------- equality

theorem part_run_one {P : Program} {t : TypeId} {cs : List Value} {off : Nat} {v : Value} (w : World) (ha : isAggB P t = some false) (hv : cs[off]? = some v) : (part t ⟨cs⟩ off).run P w = .ok v w := by
  unfold part
  simp only [Sem.run_bind, isAgg_run ha w, Result.andThen_ok, Bool.false_eq_true, if_false]
  simp [hv]

theorem part_run_agg {P : Program} {t : TypeId} {cs : List Value} {off n : Nat} (w : World) (ha : isAggB P t = some true) (hn : sizeB P t = some n) : (part t ⟨cs⟩ off).run P w = .ok (.agg ⟨(cs.drop off).take n⟩) w := by
  unfold part
  simp only [Sem.run_bind, isAgg_run ha w, Result.andThen_ok, if_true, sizeOf_run hn w, Sem.run_pure]
  congr 2
  apply Array.ext'
  simp [Array.toList_extract]

theorem stoodIn_empty {P : Program} {t : TypeId} (h : (P.stoodInAs t).isEmpty = true) : P.stoodInHeld t = false := by
  unfold Program.stoodInHeld
  cases hl : P.stoodInAs t with
  | nil => rfl
  | cons a b => rw [hl] at h; simp at h

theorem fieldsOf_eq {P : Program} {t : TypeId} {fs : Array Field} (h : P.underlying t = some (.struct fs)) : P.fieldsOf t = fs := by unfold Program.fieldsOf; rw [h]

theorem eqv_run {P : Program} : ∀ (d : Nat) (t : TypeId) (x y : Value) (b : Bool), eqv P d t x y = some b → ∀ w, (Op.equalIn d t x y).run P w = .ok b w
  | 0, t, x, y, b, h, w => by simp [eqv] at h
  | d + 1, t, x, y, b, h, w => by
    simp only [eqv] at h
    split at h
    · rename_i hu
      simp at h; subst h
      exact run_equalIn_bool w d t _ _ hu
    · rename_i k' k a k'' c hu
      cases e : k == k'' <;> rw [e] at h
      · simp at h
      · simp at h; subst h
        obtain rfl : k = k'' := by simpa using e
        exact run_equalIn_int w d t k _ _ _ hu
    · rename_i a c hu
      simp at h; subst h
      rw [run_equalIn_string w d t _ _ hu, beq_toListBytes]
    · rename_i q c hu
      simp at h; subst h
      simp [Op.equalIn, run_underlying hu]
    · rename_i q c hu
      simp at h; subst h
      simp [Op.equalIn, run_underlying hu]
    · rename_i q l c b' l' c' hu
      simp at h; subst h
      simp [Op.equalIn, run_underlying hu]
    · rename_i q l c b' l' c' hu
      simp at h; subst h
      simp [Op.equalIn, run_underlying hu]
    · rename_i fs xs ys hu
      cases hst : (P.stoodInAs t).isEmpty <;> rw [hst] at h
      · simp at h
      · simp only [cond_true] at h
        rw [run_equalIn_struct w d t ⟨xs⟩ ⟨ys⟩ (by rw [fieldsOf_eq hu]; exact hu) (stoodIn_empty hst), fieldsOf_eq hu]
        generalize fs.toList = l at h
        clear hu
        induction l generalizing b with
        | nil => simp at h; subst h; simp [Op.eqFields]
        | cons f l ih =>
          simp only [List.foldr_cons] at h
          split at h
          · simp at h
          · rename_i c hc
            have hih := ih c hc
            cases hn : f.name == "_" <;> rw [hn] at h
            · simp only [cond_false] at h
              have hne : f.name ≠ "_" := by simpa using hn
              have fin : ∀ (x y : Value) (c' : Bool), (part f.type ⟨xs⟩ f.offset).run P w = .ok x w → (part f.type ⟨ys⟩ f.offset).run P w = .ok y w → eqv P d f.type x y = some c' → b = (c' && c) →
                  (Op.eqFields d ⟨xs⟩ ⟨ys⟩ (f :: l)).run P w = .ok b w := by
                intro x y c' h1 h2 h3 h4
                simp only [Op.eqFields, if_pos hne, Sem.run_bind, h1, h2, Result.andThen_ok, eqv_run d f.type x y c' h3 w, Sem.run_ite, hih]
                subst h4
                cases c' <;> simp
              split at h
              · rename_i n ha hs
                split at h
                · rename_i c' he
                  simp at h
                  exact fin _ _ c' (part_run_agg w ha hs) (part_run_agg w ha hs) he h.symm
                · simp at h
              · rename_i ha
                split at h
                · rename_i p q hp hq
                  split at h
                  · rename_i c' he
                    simp at h
                    exact fin _ _ c' (part_run_one w ha hp) (part_run_one w ha hq) he h.symm
                  · simp at h
                · simp at h
              · simp at h
            · simp at h
    · simp at h

theorem equal_run {P : Program} {t : TypeId} {x y : Value} {b : Bool} (h : eqv P 10000 t x y = some b) (w : World) : (Op.equal t x y).run P w = .ok b w := eqv_run 10000 t x y b h w

theorem eqv_ptr {P : Program} {d : Nat} {t : TypeId} {a b a' b' : Option Addr} (ha : a.isNone = a'.isNone) (hb : b.isNone = b'.isNone) : eqv P (d + 1) t (.pointer a) (.pointer b) = eqv P (d + 1) t (.pointer a') (.pointer b') := by
  simp only [eqv]
  cases a <;> cases a' <;> cases b <;> cases b' <;> simp at ha hb <;> (cases P.underlying t with | none => rfl | some d => cases d <;> rfl)

theorem eqv_slice {P : Program} {d : Nat} {t : TypeId} {a b a' b' : Option Addr} {l c m e l' c' m' e' : Nat} (ha : a.isNone = a'.isNone) (hb : b.isNone = b'.isNone) :
    eqv P (d + 1) t (.slice a l c) (.slice b m e) = eqv P (d + 1) t (.slice a' l' c') (.slice b' m' e') := by
  simp only [eqv]
  cases a <;> cases a' <;> cases b <;> cases b' <;> simp at ha hb <;> (cases P.underlying t with | none => rfl | some d => cases d <;> rfl)

-- ---------------------------------------------------------------- operators

theorem xbin_ok {P : Program} {op : BinOp} {t : TypeId} {x y v : Value} {ob : List Prop} (h : xbin P op t x y = some (v, ob)) (hob : ∀ q ∈ ob, q) {μ : Mu} {rx ry : Value} (hx : VRel μ x rx) (hy : VRel μ y ry)
    (ox oy : Operand) (w : World) : ((do eqGuard op t ox oy rx ry; binOp op t rx ry : Sem Value)).run P w = .ok v w ∧ VRel μ v v := by
  unfold xbin at h
  split at h
  case h_1 k a k' b =>
    simp at h; obtain ⟨rfl, rfl⟩ := h
    have h0 : 0 ≤ b := hob _ (by simp)
    cases hx; cases hy
    refine ⟨?_, .int _ _⟩
    simp [eqGuard, binOp, Op.shift, bShl, bShr, show ¬ b < 0 by omega]
  case h_2 k a k' b =>
    simp at h; obtain ⟨rfl, rfl⟩ := h
    have h0 : 0 ≤ b := hob _ (by simp)
    cases hx; cases hy
    refine ⟨?_, .int _ _⟩
    simp [eqGuard, binOp, Op.shift, bShl, bShr, show ¬ b < 0 by omega]
  all_goals try (rename_i k a k' b
                 cases e : k == k' <;> rw [e] at h
                 · simp at h
                 · simp at h; obtain ⟨rfl, rfl⟩ := h
                   obtain rfl : k = k' := by simpa using e
                   cases hx; cases hy
                   first
                     | (refine ⟨?_, .int _ _⟩; simp [eqGuard, binOp, Op.intArith]; done)
                     | (refine ⟨?_, .int _ _⟩; simp [eqGuard, binOp, Op.intBits, bAnd, bOr, bXor, bAndNot]; done)
                     | (refine ⟨?_, .bool _⟩; simp [eqGuard, binOp, Op.intCmp]; done)
                     | (have hb0 : ¬ b = 0 := hob _ (by simp)
                        refine ⟨?_, .int _ _⟩; simp [eqGuard, binOp, Op.intDiv, hb0]; done))
  case h_18 a b =>
    simp at h; obtain ⟨rfl, rfl⟩ := h
    cases hx; cases hy
    exact ⟨by simp [eqGuard, binOp, Op.stringOp], .bool _⟩
  case h_19 a b =>
    simp at h; obtain ⟨rfl, rfl⟩ := h
    cases hx; cases hy
    exact ⟨by simp [eqGuard, binOp, Op.stringOp], .bool _⟩
  case h_20 a b =>
    simp at h; obtain ⟨rfl, rfl⟩ := h
    have h0 : a.size + b.size ≤ 1073741824 := hob _ (by simp)
    cases hx; cases hy
    refine ⟨?_, .string _⟩
    simp only [eqGuard, binOp, Op.stringOp, Sem.run_bind]
    have hm : ¬ (((a.size + b.size : Nat) : Int) > IntKind.i64.max) := by
      have : IntKind.i64.max = 9223372036854775807 := rfl
      rw [this]; omega
    rw [if_neg hm]
    simp
  case h_21 a b =>
    cases hc : (a.all scalar && b.all scalar && !P.eqGuardType P.depth t) <;> rw [hc] at h
    · simp at h
    · simp only [Bool.and_eq_true, Bool.not_eq_true'] at hc
      cases he : eqv P 10000 t (.agg ⟨a⟩) (.agg ⟨b⟩) with
      | none => simp [he] at h
      | some c =>
        simp [he] at h; obtain ⟨rfl, rfl⟩ := h
        rw [VRel.eq_of_flat (v := .agg ⟨a⟩) (by simpa [flat] using hc.1.1) hx, VRel.eq_of_flat (v := .agg ⟨b⟩) (by simpa [flat] using hc.1.2) hy]
        refine ⟨?_, .bool _⟩
        simp only [Sem.run_bind, run_eqGuard_agg w .eql t ox oy _ _ hc.2, Result.andThen_ok, run_eql_struct, eqv_run _ _ _ _ _ he]
  case h_22 a b =>
    cases hc : (a.all scalar && b.all scalar && !P.eqGuardType P.depth t) <;> rw [hc] at h
    · simp at h
    · simp only [Bool.and_eq_true, Bool.not_eq_true'] at hc
      cases he : eqv P 10000 t (.agg ⟨a⟩) (.agg ⟨b⟩) with
      | none => simp [he] at h
      | some c =>
        simp [he] at h; obtain ⟨rfl, rfl⟩ := h
        rw [VRel.eq_of_flat (v := .agg ⟨a⟩) (by simpa [flat] using hc.1.1) hx, VRel.eq_of_flat (v := .agg ⟨b⟩) (by simpa [flat] using hc.1.2) hy]
        refine ⟨?_, .bool _⟩
        simp only [Sem.run_bind, run_eqGuard_agg w .neq t ox oy _ _ hc.2, Result.andThen_ok, run_neq_struct, eqv_run _ _ _ _ _ he]
  case h_23 a b =>
    cases he : eqv P 10000 t (.bool a) (.bool b) with
    | none => simp [he] at h
    | some c =>
      simp [he] at h; obtain ⟨rfl, rfl⟩ := h
      cases hx; cases hy
      exact ⟨by simp [eqGuard, binOp, equal_run he], .bool _⟩
  case h_24 a b =>
    cases he : eqv P 10000 t (.bool a) (.bool b) with
    | none => simp [he] at h
    | some c =>
      simp [he] at h; obtain ⟨rfl, rfl⟩ := h
      cases hx; cases hy
      exact ⟨by simp [eqGuard, binOp, equal_run he], .bool _⟩
  case h_25 a b =>
    cases he : eqv P 10000 t (.pointer a) (.pointer b) with
    | none => simp [he] at h
    | some c =>
      simp [he] at h; obtain ⟨rfl, rfl⟩ := h
      have he' : ∃ ra rb, rx = .pointer ra ∧ ry = .pointer rb ∧ eqv P 10000 t (.pointer ra) (.pointer rb) = some c := by
        cases hx <;> cases hy <;> first | exact ⟨_, _, rfl, rfl, he⟩ | (refine ⟨_, _, rfl, rfl, ?_⟩; rw [← he]; exact eqv_ptr rfl rfl)
      obtain ⟨ra, rb, rfl, rfl, he'⟩ := he'
      exact ⟨by simp [eqGuard, binOp, equal_run he'], .bool _⟩
  case h_26 a b =>
    cases he : eqv P 10000 t (.pointer a) (.pointer b) with
    | none => simp [he] at h
    | some c =>
      simp [he] at h; obtain ⟨rfl, rfl⟩ := h
      have he' : ∃ ra rb, rx = .pointer ra ∧ ry = .pointer rb ∧ eqv P 10000 t (.pointer ra) (.pointer rb) = some c := by
        cases hx <;> cases hy <;> first | exact ⟨_, _, rfl, rfl, he⟩ | (refine ⟨_, _, rfl, rfl, ?_⟩; rw [← he]; exact eqv_ptr rfl rfl)
      obtain ⟨ra, rb, rfl, rfl, he'⟩ := he'
      exact ⟨by simp [eqGuard, binOp, equal_run he'], .bool _⟩
  case h_27 a l c0 b l' c' =>
    cases hg : (untag a && untag b) <;> rw [hg] at h
    · simp at h
    simp only [cond_true] at h
    cases he : eqv P 10000 t (.slice a l c0) (.slice b l' c') with
    | none => simp [he] at h
    | some c =>
      simp [he] at h; obtain ⟨rfl, rfl⟩ := h
      have he' : ∃ ra l1 c1 rb l2 c2, rx = .slice ra l1 c1 ∧ ry = .slice rb l2 c2 ∧ eqv P 10000 t (.slice ra l1 c1) (.slice rb l2 c2) = some c := by
        cases hx <;> cases hy <;> first | (simp [untag] at hg; done) | exact ⟨_, _, _, _, _, _, rfl, rfl, he⟩ | (refine ⟨_, _, _, _, _, _, rfl, rfl, ?_⟩; rw [← he]; exact eqv_slice rfl rfl)
      obtain ⟨ra, l1, c1, rb, l2, c2, rfl, rfl, he'⟩ := he'
      exact ⟨by simp [eqGuard, binOp, equal_run he'], .bool _⟩
  case h_28 a l c0 b l' c' =>
    cases hg : (untag a && untag b) <;> rw [hg] at h
    · simp at h
    simp only [cond_true] at h
    cases he : eqv P 10000 t (.slice a l c0) (.slice b l' c') with
    | none => simp [he] at h
    | some c =>
      simp [he] at h; obtain ⟨rfl, rfl⟩ := h
      have he' : ∃ ra l1 c1 rb l2 c2, rx = .slice ra l1 c1 ∧ ry = .slice rb l2 c2 ∧ eqv P 10000 t (.slice ra l1 c1) (.slice rb l2 c2) = some c := by
        cases hx <;> cases hy <;> first | (simp [untag] at hg; done) | exact ⟨_, _, _, _, _, _, rfl, rfl, he⟩ | (refine ⟨_, _, _, _, _, _, rfl, rfl, ?_⟩; rw [← he]; exact eqv_slice rfl rfl)
      obtain ⟨ra, l1, c1, rb, l2, c2, rfl, rfl, he'⟩ := he'
      exact ⟨by simp [eqGuard, binOp, equal_run he'], .bool _⟩
  case h_29 => simp at h

theorem xun_ok {P : Program} {op : UnOp} {x v : Value} (h : xun op x = some v) {μ : Mu} {rx : Value} (hx : VRel μ x rx) (w : World) : (Op.unary op rx).run P w = .ok v w ∧ VRel μ v v := by
  unfold xun at h
  split at h
  · simp at h; subst h; cases hx; exact ⟨by simp [Op.unary], .bool _⟩
  · simp at h; subst h; cases hx; exact ⟨by simp [Op.unary, Op.intArith], .int _ _⟩
  · simp at h; subst h; cases hx; exact ⟨by simp [Op.unary, Op.intBits, bXor], .int _ _⟩
  · simp at h

theorem xconv_ok {P : Program} {src dst : TypeId} {x v : Value} (h : xconv P dst x = some v) (hs : (P.underlying src).isSome = true) {μ : Mu} {rx : Value} (hx : VRel μ x rx) (w : World) : (convert src dst rx).run P w = .ok v w ∧ VRel μ v v := by
  unfold xconv at h
  split at h
  · rename_i k k' n hu
    simp at h; subst h; cases hx
    obtain ⟨d, hd⟩ := Option.isSome_iff_exists.1 hs
    refine ⟨?_, .int _ _⟩
    unfold convert
    simp only [Sem.run_bind, underlying_run hd, underlying_run hu, Result.andThen_ok]
    cases d <;> simp [Conv.intToInt]
  · simp at h

-- ---------------------------------------------------------------- composite values

theorem lay_length : ∀ (vs cells : List Value) (off : Nat), (lay cells off vs).length = cells.length
  | [], cells, off => rfl
  | v :: vs, cells, off => by simp [lay, lay_length vs]

theorem fill_lay : ∀ (vs : List Value) (cells : Array Value) (off k : Nat), ((vs.zipIdx k).foldl (fun cs (c, j) => cs.setIfInBounds (off + j) c) cells).toList = lay cells.toList (off + k) vs
  | [], cells, off, k => rfl
  | v :: vs, cells, off, k => by
    simp only [List.zipIdx_cons, List.foldl_cons, lay]
    rw [fill_lay vs _ off (k + 1)]
    simp [Array.toList_setIfInBounds, Nat.add_assoc]

theorem VRels.set {μ : Mu} : ∀ {a b : List Value} (n : Nat) {x y : Value}, VRels μ a b → VRel μ x y → VRels μ (a.set n x) (b.set n y)
  | [], [], n, x, y, h, hv => by simpa using VRels.nil
  | a :: as, b :: bs, 0, x, y, h, hv => by cases h with | cons p q => exact .cons hv q
  | a :: as, b :: bs, n + 1, x, y, h, hv => by cases h with | cons p q => exact .cons p (q.set n hv)
  | [], _ :: _, n, x, y, h, hv => nomatch h
  | _ :: _, [], n, x, y, h, hv => nomatch h

theorem VRels.lay {μ : Mu} : ∀ {vs us : List Value} {a b : List Value} (off : Nat), VRels μ a b → VRels μ vs us → VRels μ (lay a off vs) (lay b off us)
  | [], [], a, b, off, h, _ => h
  | v :: vs, u :: us, a, b, off, h, hv => by cases hv with | cons p q => exact VRels.lay (off + 1) (h.set off p) q
  | [], _ :: _, a, b, off, h, hv => nomatch hv
  | _ :: _, [], a, b, off, h, hv => nomatch hv

/-- Parts and their values stand for one another. -/
def PartsRel (μ : Mu) : List (Nat × Value) → List (Nat × Value) → Prop
  | [], [] => True
  | (i, v) :: r, (j, u) :: s => i = j ∧ VRel μ v u ∧ PartsRel μ r s
  | _, _ => False

theorem layAll_fill {μ : Mu} {place : Nat → Option (Nat × Nat)} : ∀ {parts rparts : List (Nat × Value)} {cells l : List Value} {rcells : Array Value}, PartsRel μ parts rparts → VRels μ cells rcells.toList →
    layAll place parts cells = some l → ∃ rl : Array Value, Instr.fill place rcells rparts = some rl ∧ VRels μ l rl.toList
  | [], [], cells, l, rcells, _, hc, h => by
    simp [layAll] at h; subst h
    exact ⟨rcells, rfl, hc⟩
  | (i, v) :: r, (j, u) :: s, cells, l, rcells, ⟨hij, hvu, hrs⟩, hc, h => by
    subst hij
    simp only [layAll] at h
    cases hp : place i with
    | none => simp [hp] at h
    | some q =>
      obtain ⟨off, size⟩ := q
      simp only [hp] at h
      cases hcnd : (Nat.beq v.cells.toList.length size && Nat.ble (off + size) cells.length && v.cells.toList.all storable) <;> rw [hcnd] at h
      · simp at h
      · simp only [cond_true] at h
        simp only [Bool.and_eq_true] at hcnd
        obtain ⟨⟨h1, h2⟩, h3⟩ := hcnd
        obtain ⟨hcells, _⟩ := hvu.cells h3
        have hlen : u.cells.size = size := by
          have := hcells.length
          have h1' := beq_tt h1
          simp at this h1'
          omega
        have hle := ble_tt h2
        have hcl := hc.length
        simp at hcl
        simp only [Instr.fill, hp]
        rw [if_neg (by simp [hlen]; omega)]
        have e : (u.cells.zipIdx.foldl (fun cs (c, j) => cs.setIfInBounds (off + j) c) rcells).toList = lay rcells.toList off u.cells.toList := by
          rw [← Array.foldl_toList, Array.toList_zipIdx]
          simpa using fill_lay u.cells.toList rcells off 0
        exact layAll_fill hrs (by rw [e]; exact hc.lay off hcells) h
  | [], _ :: _, _, _, _, hp, _, _ => hp.elim
  | _ :: _, [], _, _, _, hp, _, _ => hp.elim

theorem VRels.of_flat_cells {μ : Mu} {z : Value} (h : flat z = true) : VRels μ z.cells.toList z.cells.toList := by
  cases z with
  | agg cs => obtain ⟨l⟩ := cs; show VRels μ l l; exact .of_scalars (by simpa [flat] using h)
  | _ => exact .cons (.of_scalar (by simpa [flat] using h)) .nil

theorem placesOf_mapM {P : Program} : ∀ (fs : List Field) (l : List (Nat × Nat)), placesOf P fs = some l → fs.mapM (fun f => (P.info? f.type).map fun i => (f.offset, i.size)) = some l
  | [], l, h => by simp [placesOf] at h; subst h; rfl
  | f :: fs, l, h => by
    simp only [placesOf, sizeB] at h
    cases hi : P.info? f.type with
    | none => simp [hi] at h
    | some i =>
      cases hp : placesOf P fs with
      | none => simp [hi, hp] at h
      | some r =>
        simp [hi, hp] at h; subst h
        simp [List.mapM_cons, hi, placesOf_mapM fs r hp]

theorem build_struct_ok {P : Program} {t : TypeId} {inf : TypeInfo} {fields : Array Field} {z : Value} {pl : List (Nat × Nat)} {parts rparts : List (Nat × Value)} {l : List Value} (h1 : P.info? t = some inf) (h2 : P.underlying t = some (.struct fields))
    (hz : inf.zero = some z) (hpl : placesOf P fields.toList = some pl) (hf : flat z = true) (hl : layAll (fun i => pl[i]?) parts z.cells.toList = some l) {μ : Mu} (hp : PartsRel μ parts rparts) (w : World) :
    ∃ rl, (Instr.build t ⟨rparts⟩).run P w = .ok (.agg ⟨rl⟩) w ∧ VRels μ l rl := by
  obtain ⟨rl, hr, hv⟩ := layAll_fill (rcells := z.cells) hp (VRels.of_flat_cells hf) hl
  refine ⟨rl.toList, ?_, hv⟩
  apply run_build
  unfold Program.built
  simp only [h1, h2, hz, placesOf_mapM _ _ hpl]
  simpa using hr

theorem build_array_ok {P : Program} {t e : TypeId} {m : Nat} {inf : TypeInfo} {z : Value} {sz : Nat} {parts rparts : List (Nat × Value)} {l : List Value} (h1 : P.info? t = some inf) (h2 : P.underlying t = some (.array m e))
    (hz : inf.zero = some z) (hsz : sizeB P e = some sz) (hf : flat z = true) (hl : layAll (fun i => some (i * sz, sz)) parts z.cells.toList = some l) {μ : Mu} (hp : PartsRel μ parts rparts) (w : World) :
    ∃ rl, (Instr.build t ⟨rparts⟩).run P w = .ok (.agg ⟨rl⟩) w ∧ VRels μ l rl := by
  obtain ⟨rl, hr, hv⟩ := layAll_fill (rcells := z.cells) hp (VRels.of_flat_cells hf) hl
  refine ⟨rl.toList, ?_, hv⟩
  apply run_build
  unfold sizeB at hsz
  unfold Program.built
  cases hi : P.info? e with
  | none => simp [hi] at hsz
  | some ie =>
    simp [hi] at hsz
    simp only [h1, h2, hz, hi, hsz]
    simpa using hr

theorem repeat_spec (z : Array Value) (hz : 0 < z.size) : ∀ n, ((List.range (n * z.size)).map fun i => z[i % z.size]!) = repeatCells z.toList n
  | 0 => by simp [repeatCells]
  | n + 1 => by
    rw [show (n + 1) * z.size = z.size + n * z.size by rw [Nat.add_mul]; omega, List.range_add, List.map_append, repeatCells]
    congr 1
    · apply List.ext_getElem
      · simp
      · intro i h1 h2
        simp at h1 h2 ⊢
        rw [Nat.mod_eq_of_lt h1]
        simp [h1]
    · rw [← repeat_spec z hz n, List.map_map]
      apply List.map_congr_left
      intro i _
      simp

theorem buildSlice_ok {P : Program} {t e : TypeId} {len : Nat} {inf : TypeInfo} {z : Value} {parts rparts : List (Nat × Value)} {l : List Value} (h1 : P.underlying t = some (.slice e)) (h2 : P.info? e = some inf)
    (hz : inf.zero = some z) (hf : flat z = true) (hs : z.cells.toList.length = inf.size) (h0 : 1 ≤ inf.size) (hm : len * inf.size ≤ 16777216)
    (hl : layAll (fun i => some (i * inf.size, inf.size)) parts (repeatCells z.cells.toList len) = some l) {μ : Mu} (hp : PartsRel μ parts rparts) (hlen : 0 < len) (w : World) :
    ∃ rl, (Instr.buildSlice t len ⟨rparts⟩).run P w = .ok (.slice (some ⟨w.heap.size, 0, none⟩) len len) (w.alloc (.cells ⟨rl⟩ e)) ∧ VRels μ l rl := by
  have hss : z.cells.size = inf.size := by simpa using hs
  have hrep : VRels μ (repeatCells z.cells.toList len) (repeatCells z.cells.toList len) := by
    have h0 := VRels.of_flat_cells (μ := μ) hf
    clear hl hlen hm
    induction len with
    | zero => exact .nil
    | succ n ih => exact h0.append ih
  obtain ⟨rl, hr, hv⟩ := layAll_fill (rcells := ⟨repeatCells z.cells.toList len⟩) hp hrep hl
  refine ⟨rl.toList, ?_, hv⟩
  unfold Instr.buildSlice
  simp only [Sem.run_bind, underlying_run h1, Result.andThen_ok, sizeOf_run (show sizeB P e = some inf.size by simp [sizeB, h2])]
  have hpos : 0 < len * inf.size := Nat.mul_pos hlen h0
  rw [if_neg (by omega), if_neg (by omega)]
  simp only [Sem.run_bind, zeroValue_run h2 hz, Result.andThen_ok, Sem.run_pure]
  have e1 : (Array.range (len * inf.size)).map (fun x => z.cells[x % z.cells.size]!) = ⟨repeatCells z.cells.toList len⟩ := by
    apply Array.ext'
    rw [← repeat_spec z.cells (by omega) len]
    simp [hss]
  rw [e1]
  rw [hr]
  rfl

end Go.Proofs.Ytgnhhnmpeklciaa.VX
