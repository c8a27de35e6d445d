/-
  The end of a function: blocks of its own are frozen, slices of them become values. No condition.
-/
import Derived.Test.YtmnhmplcpijanaaGreatVL
namespace Go.Proofs.YtmnhmplcpijanaaGreat.VX
open Go
set_option linter.unusedSimpArgs false
set_option linter.unusedVariables false

/-- The cells of the blocks that are frozen. -/
def frzAt (H : HF) (F : List Nat) (i : Nat) : Option (List Value) :=
  bif memB i F then
    match H i with
    | some B => bif B.ro then none else match gets B 0 B.size with
      | some l => bif l.all solid then some l else none
      | none => none
    | none => none
  else none

/-- A value whose slices of frozen blocks are values. -/
def rnF (G : Nat → Option (List Value)) : Nat → Value → Value
  | _, .func (.yield z) l c => .func (.yield z) l c
  | _, .func (.method s) l c => .func (.method s) l c
  | _, .pointer (some a) => match G a.block with
    | some _ => .tuple ⟨[]⟩
    | none => .pointer (some a)
  | _, .slice (some a) len z => match G a.block with
    | some l => bif a.spot.isNone && Nat.blt 0 z && Nat.beq ((l.drop a.off).take (len * z)).length (len * z) then .func (.yield z) ⟨(l.drop a.off).take (len * z)⟩ ⟨[.bool true]⟩ else .tuple ⟨[]⟩
    | none => .slice (some a) len z
  | d + 1, .agg ⟨cs⟩ => .agg ⟨cs.map (rnF G d)⟩
  | d + 1, .tuple ⟨cs⟩ => .tuple ⟨cs.map (rnF G d)⟩
  | d + 1, .func fn ⟨fs⟩ ⟨cs⟩ => .func fn ⟨fs.map (rnF G d)⟩ ⟨cs.map (rnF G d)⟩
  | d + 1, .iface t v => .iface t (rnF G d v)
  | 0, .agg _ => .tuple ⟨[]⟩
  | 0, .tuple _ => .tuple ⟨[]⟩
  | 0, .func .. => .tuple ⟨[]⟩
  | 0, .iface .. => .tuple ⟨[]⟩
  | _, v => v

def rnFS (G : Nat → Option (List Value)) : Seg → Seg
  | .one v => .one (rnF G 6 v)
  | .rows n sz g => .rows n sz (fun i => (g i).map (rnF G 6))
  | s => s

def rnFB (G : Nat → Option (List Value)) (B : Blk) : Blk := { B with segs := B.segs.map (rnFS G) }

/-- What the freezing says of the names. -/
def Mu.freeze (μ : Mu) (w : World) (H : HF) (F : List Nat) : Mu :=
  ⟨μ.nm, μ.sz, fun b => if (F.any fun i => decide (μ i = some b) && (frzAt H F i).isSome) = true then (match w.heap[b]? with | some (.cells cs _ _) => some cs | _ => none) else μ.fz b⟩

theorem frz_spec {H : HF} {F : List Nat} {i : Nat} {l : List Value} (h : frzAt H F i = some l) : i ∈ F ∧ ∃ B, H i = some B ∧ B.ro = false ∧ gets B 0 B.size = some l ∧ l.all solid = true := by
  unfold frzAt at h
  cases hm : memB i F <;> rw [hm] at h
  · simp at h
  · simp only [cond_true] at h
    have hin : i ∈ F := by
      induction F with
      | nil => simp [memB] at hm
      | cons y r ih =>
        simp only [memB, Bool.or_eq_true] at hm
        rcases hm with hm | hm
        · rw [beq_tt hm]; simp
        · exact List.mem_cons_of_mem _ (ih hm)
    refine ⟨hin, ?_⟩
    split at h
    · rename_i B hB
      cases hr : B.ro <;> rw [hr] at h
      · simp only [cond_false] at h
        split at h
        · rename_i l' hg
          cases ha : l'.all solid <;> rw [ha] at h
          · simp at h
          · simp at h; subst h; exact ⟨B, hB, hr, hg, ha⟩
        · simp at h
      · simp at h
    · simp at h

section
variable {μ : Mu} {h : HF} {w : World} {F : List Nat}

theorem Rep.frozenCells (r : Rep μ h w) {i b : Nat} {l : List Value} (hf : frzAt h F i = some l) (hb : μ i = some b) :
    ∃ cs t fr, w.heap[b]? = some (.cells cs t fr) ∧ (∀ (j : Nat) (v : Value), l[j]? = some v → cs[j]? = some v) := by
  obtain ⟨_, B, hB, hro, hg, hs⟩ := frz_spec hf
  obtain ⟨b', hb', cs, t, fr, he, _, hcs⟩ := r.blk i B hB (.inr (by rw [hb]; exact fun h => nomatch h))
  rw [hb] at hb'
  obtain rfl : b = b' := by simpa using hb'
  refine ⟨cs, t, fr, he, ?_⟩
  obtain ⟨rs, g1, g2, g3⟩ := gets_spec hcs _ _ _ hg
  have : rs = l := VRels.eq_of_solids hs g1
  subst this
  intro j v hj
  simpa using g3 j v hj

theorem Rep.freeze_fz (r : Rep μ h w) {i b : Nat} {l : List Value} (hf : frzAt h F i = some l) (hb : μ i = some b) :
    ∃ cs, (μ.freeze w h F).fz b = some cs ∧ (∀ (j : Nat) (v : Value), l[j]? = some v → cs[j]? = some v) := by
  obtain ⟨cs, t, fr, he, hl⟩ := r.frozenCells hf hb
  refine ⟨cs, ?_, hl⟩
  have hin := (frz_spec hf).1
  have : (F.any fun i => decide (μ i = some b) && (frzAt h F i).isSome) = true := by
    rw [List.any_eq_true]
    exact ⟨i, hin, by simp [hb, hf]⟩
  simp only [Mu.freeze, this, if_true, he]

theorem Rep.freeze_le (r : Rep μ h w) : μ.le (μ.freeze w h F) := by
  refine ⟨fun _ _ h => h, fun _ _ _ => rfl, fun b cs hf => ?_⟩
  simp only [Mu.freeze]
  split
  · rename_i hany
    rw [List.any_eq_true] at hany
    obtain ⟨i, _, hi⟩ := hany
    simp only [Bool.and_eq_true, decide_eq_true_eq] at hi
    obtain ⟨l, hl⟩ := Option.isSome_iff_exists.1 hi.2
    obtain ⟨_, B, hB, hro, _⟩ := frz_spec hl
    rw [r.nofz i B b hB hro hi.1] at hf
    cases hf
  · exact hf

theorem rnFs {μ' : Mu} {f : Value → Value} (hf : ∀ x y, VRel μ x y → VRel μ' (f x) y) : ∀ {l m : List Value}, VRels μ l m → VRels μ' (l.map f) m
  | [], [], _ => .nil
  | x :: l, y :: m, h => by cases h with | cons a b => exact .cons (hf x y a) (rnFs hf b)
  | [], _ :: _, h => nomatch h
  | _ :: _, [], h => nomatch h

theorem Rep.freeze_rel (r : Rep μ h w) : ∀ (d : Nat) (v rv : Value), VRel μ v rv → VRel (μ.freeze w h F) (rnF (frzAt h F) d v) rv := by
  have hle : μ.le (μ.freeze w h F) := r.freeze_le
  have hsl : ∀ {i b : Nat} (e : μ i = some b) (off len z c' : Nat) (hc : len ≤ c') (hz : z = 0 ∨ off + c' * z ≤ μ.sz b),
      VRel (μ.freeze w h F) (match frzAt h F i with
        | some l => bif (none : Option Nat).isNone && Nat.blt 0 z && Nat.beq ((l.drop off).take (len * z)).length (len * z) then .func (.yield z) ⟨(l.drop off).take (len * z)⟩ ⟨[.bool true]⟩ else .tuple ⟨[]⟩
        | none => .slice (some ⟨i, off, none⟩) len z) (.slice (some ⟨b, off, none⟩) len c') := by
    intro i b e off len z c' hc hz
    cases hf : frzAt h F i with
    | none => exact (VRel.slice e off len z c' hc hz).mono hle
    | some l =>
      simp only
      cases hcond : ((none : Option Nat).isNone && Nat.blt 0 z && Nat.beq ((l.drop off).take (len * z)).length (len * z))
      · exact .junk _
      · simp only [Bool.and_eq_true] at hcond
        obtain ⟨⟨_, h1⟩, h2⟩ := hcond
        have h1 := blt_tt h1
        obtain ⟨cs, hcs, hl⟩ := r.freeze_fz hf e
        obtain ⟨_, B, hB, hro, hg, hs⟩ := frz_spec hf
        have hsol : ((l.drop off).take (len * z)).all solid = true := by
          rw [List.all_eq_true] at hs ⊢
          exact fun x hx => hs x (List.mem_of_mem_drop (List.mem_of_mem_take hx))
        refine .lst z _ true hsol ⟨_, _, _, rfl⟩ fun _ => .inr (.inr ⟨by omega, b, off, len, c', cs, rfl, hc, (beq_tt h2).symm, hcs, ?_⟩)
        intro j v hj
        rw [List.getElem?_take] at hj
        split at hj
        · exact hl _ _ (by simpa using hj)
        · cases hj
  have hpt : ∀ {i b : Nat} (e : μ i = some b) (off : Nat), VRel (μ.freeze w h F) (match frzAt h F i with
        | some _ => .tuple ⟨[]⟩
        | none => .pointer (some ⟨i, off, none⟩)) (.pointer (some ⟨b, off, none⟩)) := by
    intro i b e off
    cases hf : frzAt h F i with
    | none => exact (VRel.ptr e off).mono hle
    | some l => exact .junk _
  have hptS : ∀ {i b : Nat} (e : μ i = some b) (s off : Nat), VRel (μ.freeze w h F) (match frzAt h F i with
        | some _ => .tuple ⟨[]⟩
        | none => .pointer (some ⟨i, off, some s⟩)) (.pointer (some ⟨b, s + off, none⟩)) := by
    intro i b e s off
    cases hf : frzAt h F i with
    | none => exact (VRel.ptrS e s off).mono hle
    | some l => exact .junk _
  have hslS : ∀ {i b : Nat} (e : μ i = some b) (s off len z c' : Nat) (hc : len ≤ c') (hz : z = 0 ∨ s + off + c' * z ≤ μ.sz b),
      VRel (μ.freeze w h F) (match frzAt h F i with
        | some l => bif (some s : Option Nat).isNone && Nat.blt 0 z && Nat.beq ((l.drop off).take (len * z)).length (len * z) then .func (.yield z) ⟨(l.drop off).take (len * z)⟩ ⟨[.bool true]⟩ else .tuple ⟨[]⟩
        | none => .slice (some ⟨i, off, some s⟩) len z) (.slice (some ⟨b, s + off, none⟩) len c') := by
    intro i b e s off len z c' hc hz
    cases hf : frzAt h F i with
    | none => exact (VRel.sliceS e s off len z c' hc hz).mono hle
    | some l => exact .junk _
  have hslE : ∀ (i s off z : Nat) (a : Option Addr) (c' : Nat) (hz : z = 0 ∨ c' = 0), VRel (μ.freeze w h F) (match frzAt h F i with
        | some l => bif (some s : Option Nat).isNone && Nat.blt 0 z && Nat.beq ((l.drop off).take (0 * z)).length (0 * z) then .func (.yield z) ⟨(l.drop off).take (0 * z)⟩ ⟨[.bool true]⟩ else .tuple ⟨[]⟩
        | none => .slice (some ⟨i, off, some s⟩) 0 z) (.slice a 0 c') := by
    intro i s off z a c' hz
    cases hf : frzAt h F i with
    | none => exact .sliceE i s off z a c' hz
    | some l => exact .junk _
  intro d
  induction d with
  | zero =>
    intro v rv hv
    cases hv with
    | ptr e off => exact hpt e off
    | ptrS e s off => exact hptS e s off
    | slice e off l c c' hc hz => exact hsl e off l c c' hc hz
    | sliceS e s off l c c' hc hz => exact hslS e s off l c c' hc hz
    | sliceE i s off c a c' hz => exact hslE i s off c a c' hz
    | lst z l f hs hr k => exact .lst z l f hs hr fun e => (k e).fmono hle.fzs
    | fptr l hs hf k => exact .fptr l hs (hle.fzs _ _ hf) k
    | junk r => exact .junk _
    | und => exact .und
    | bool b => exact .bool b
    | int k n => exact .int k n
    | float k n => exact .float k n
    | string s => exact .string s
    | ptrNil => exact .ptrNil
    | sliceNil => exact .sliceNil
    | mapNil => exact .mapNil
    | nilFunc => exact .nilFunc
    | nilIface => exact .nilIface
    | func fn a b => exact .junk _
    | iface t a => exact .junk _
    | agg a => exact .junk _
    | tup a => exact .junk _
  | succ d ih =>
    intro v rv hv
    cases hv with
    | ptr e off => exact hpt e off
    | ptrS e s off => exact hptS e s off
    | slice e off l c c' hc hz => exact hsl e off l c c' hc hz
    | sliceS e s off l c c' hc hz => exact hslS e s off l c c' hc hz
    | sliceE i s off c a c' hz => exact hslE i s off c a c' hz
    | lst z l f hs hr k => exact .lst z l f hs hr fun e => (k e).fmono hle.fzs
    | fptr l hs hf k => exact .fptr l hs (hle.fzs _ _ hf) k
    | junk r => exact .junk _
    | und => exact .und
    | bool b => exact .bool b
    | int k n => exact .int k n
    | float k n => exact .float k n
    | string s => exact .string s
    | ptrNil => exact .ptrNil
    | sliceNil => exact .sliceNil
    | mapNil => exact .mapNil
    | nilFunc => exact .nilFunc
    | nilIface => exact .nilIface
    | func fn a b => exact .func fn (rnFs (fun x y hx => ih x y hx) a) (rnFs (fun x y hx => ih x y hx) b)
    | iface t a => exact .iface t (ih _ _ a)
    | agg a => exact .agg (rnFs (fun x y hx => ih x y hx) a)
    | tup a => exact .tup (rnFs (fun x y hx => ih x y hx) a)

theorem rnFS_size (G : Nat → Option (List Value)) (s : Seg) : (rnFS G s).size = s.size := by cases s <;> rfl

theorem rnFB_size (G : Nat → Option (List Value)) (B : Blk) : (rnFB G B).size = B.size := by
  unfold rnFB Blk.size
  simp only
  generalize B.segs = l
  induction l with
  | nil => rfl
  | cons s l ih => simp only [List.map_cons, segsSize, rnFS_size, ih]

theorem rnFS_get {G : Nat → Option (List Value)} {s : Seg} {o : Nat} {v : Value} (h : (rnFS G s).get? o = some v) : ∃ u, s.get? o = some u ∧ (v = rnF G 6 u ∨ (v = u ∧ scalar u = true)) := by
  cases s with
  | one x =>
    simp only [rnFS, Seg.get?] at h ⊢
    cases e : Nat.beq o 0 <;> rw [e] at h <;> simp at h
    exact ⟨x, by simp, .inl h.symm⟩
  | ints k n a =>
    simp only [rnFS, Seg.get?] at h ⊢
    cases e : Nat.blt o n <;> rw [e] at h <;> simp at h
    exact ⟨_, rfl, .inr ⟨h.symm, rfl⟩⟩
  | bools n a =>
    simp only [rnFS, Seg.get?] at h ⊢
    cases e : Nat.blt o n <;> rw [e] at h <;> simp at h
    exact ⟨_, rfl, .inr ⟨h.symm, rfl⟩⟩
  | rows n sz g =>
    simp only [rnFS, Seg.get?] at h ⊢
    cases e : Nat.blt o (n * sz) <;> rw [e] at h <;> simp at h
    obtain ⟨u, hu, hv⟩ := h
    exact ⟨u, by simpa using hu, .inl hv.symm⟩
  | gap n => simp [rnFS, Seg.get?] at h

theorem rnFB_get {G : Nat → Option (List Value)} {B : Blk} {o : Nat} {v : Value} (h : (rnFB G B).get? o = some v) : ∃ u, B.get? o = some u ∧ (v = rnF G 6 u ∨ (v = u ∧ scalar u = true)) := by
  unfold rnFB Blk.get? at *
  simp only at h ⊢
  generalize B.segs = l at *
  induction l generalizing o with
  | nil => simp [segsGet?] at h
  | cons s l ih =>
    simp only [List.map_cons, segsGet?, rnFS_size] at h ⊢
    cases e : Nat.blt o s.size <;> rw [e] at h
    · simpa using ih (by simpa using h)
    · simpa using rnFS_get (by simpa using h)

/-- The blocks behind a freezing: none of those that are frozen. -/
def frzP (H : HF) (F : List Nat) : Heap → Prop
  | [] => True
  | (i, B) :: r => (memB i F = false ∧ (H i).map (rnFB (frzAt H F)) = some B) ∧ frzP H F r

theorem frzP_spec {H : HF} {F : List Nat} : ∀ {h : Heap}, frzP H F h → ∀ i B, lk h i = some B → memB i F = false ∧ ∃ A, H i = some A ∧ B = rnFB (frzAt H F) A
  | [], _, i, B, hl => by simp [lk] at hl
  | (j, C) :: r, h, i, B, hl => by
    simp only [lk] at hl
    cases e : Nat.beq i j <;> rw [e] at hl
    · exact frzP_spec h.2 i B (by simpa using hl)
    · simp at hl; subst hl; rw [beq_tt e]
      obtain ⟨h1, h2⟩ := h.1
      cases hA : H j with
      | none => simp [hA] at h2
      | some A => simp [hA] at h2; exact ⟨h1, A, rfl, h2.symm⟩

theorem memB_tt {x : Nat} : ∀ {l : List Nat}, x ∈ l → memB x l = true
  | [], h => by simp at h
  | y :: r, h => by
    simp only [List.mem_cons] at h
    simp only [memB, Bool.or_eq_true]
    rcases h with rfl | h
    · exact .inl (beq_self _)
    · exact .inr (memB_tt h)

theorem Rep.freeze (r : Rep μ h w) {H' : Heap} (hp : frzP h F H') : Rep (μ.freeze w h F) (lk H') w ∧ ∀ (μ0 : Mu) (h0 : HF) (w0 : World), Keeps μ0 h0 w0 μ h w → Keeps μ0 h0 w0 (μ.freeze w h F) (lk H') w := by
  have hs := frzP_spec hp
  have hfz : ∀ b cs, (μ.freeze w h F).fz b = some cs → μ.fz b = some cs ∨ ∃ i B l, i ∈ F ∧ h i = some B ∧ B.ro = false ∧ μ i = some b ∧ frzAt h F i = some l ∧ ∃ t fr, w.heap[b]? = some (.cells cs t fr) := by
    intro b cs hf
    simp only [Mu.freeze] at hf
    split at hf
    · rename_i hany
      rw [List.any_eq_true] at hany
      obtain ⟨i, hi, hh⟩ := hany
      simp only [Bool.and_eq_true, decide_eq_true_eq] at hh
      obtain ⟨l, hl⟩ := Option.isSome_iff_exists.1 hh.2
      obtain ⟨_, B, hB, hro, _⟩ := frz_spec hl
      split at hf
      · rename_i cs' t fr he
        obtain rfl : cs' = cs := by simpa using hf
        exact .inr ⟨i, B, l, hi, hB, hro, hh.1, hl, t, fr, he⟩
      · cases hf
    · exact .inl hf
  constructor
  · refine ⟨?_, ?_, r.bound, ?_, ?_, ?_⟩
    · intro i B hB hne
      obtain ⟨_, A, hA, rfl⟩ := hs i B hB
      obtain ⟨b, hb, cs, t, fr, he, h1, h2⟩ := r.blk i A hA (by rw [rnFB_size] at hne; exact hne)
      refine ⟨b, hb, cs, t, fr, he, fun hro => ?_, fun off v hv => ?_⟩
      · obtain ⟨p, q, s⟩ := h1 hro
        exact ⟨p, q, by rw [rnFB_size]; exact s⟩
      · obtain ⟨u, hu, hv'⟩ := rnFB_get hv
        obtain ⟨rv, hr, hrel⟩ := h2 off u hu
        refine ⟨rv, hr, ?_⟩
        rcases hv' with rfl | ⟨rfl, hsc⟩
        · exact r.freeze_rel 6 u rv hrel
        · rw [VRel.eq_of_scalar hsc hrel]; exact .of_scalar hsc
    · intro i j A B b hA hB hi hj hne
      obtain ⟨_, A', hA', rfl⟩ := hs i A hA
      obtain ⟨_, B', hB', rfl⟩ := hs j B hB
      exact r.apart i j A' B' b hA' hB' hi hj hne
    · intro i B b hB hro hi
      obtain ⟨_, A, hA, rfl⟩ := hs i B hB
      exact r.size i A b hA hro hi
    · intro b cs hf
      rcases hfz b cs hf with h1 | ⟨i, B, l, _, _, _, _, _, t, fr, he⟩
      · exact r.frz b cs h1
      · exact ⟨t, fr, he⟩
    · intro i B b hB hro hi
      obtain ⟨hnm, A, hA, rfl⟩ := hs i B hB
      cases hf : (μ.freeze w h F).fz b with
      | none => rfl
      | some cs =>
        rcases hfz b cs hf with h1 | ⟨j, C, l, hj, hC, hCro, hjb, _⟩
        · rw [r.nofz i A b hA hro hi] at h1; cases h1
        · have hij : i ≠ j := by
            rintro rfl
            rw [memB_tt hj] at hnm; cases hnm
          have hAro : A.ro = false := hro
          have := (r.apart i j A C b hA hC hi hjb hij).1
          rw [hAro] at this; cases this
  · intro μ0 h0 w0 k
    refine ⟨k.os, k.tape, k.output, k.size, k.same, ?_, k.ksz, ?_, ?_⟩
    · intro i B b hB hb hlt
      obtain ⟨_, A, hA, rfl⟩ := hs i B hB
      exact k.old i A b hA hb hlt
    · intro b cs hf
      exact r.freeze_le.fzs b cs (k.kfz b cs hf)
    · intro b cs hf
      rcases hfz b cs hf with h1 | ⟨i, B, l, _, hB, hro, hib, _⟩
      · exact k.nfz b cs h1
      · rcases Nat.lt_or_ge b w0.heap.size with hlt | hge
        · exact .inr (.inl (k.own b hlt ⟨i, B, hB, hro, hib⟩))
        · exact .inr (.inr hge)

end

/-- A function's contract, out of the executor's run, with blocks that are frozen at its end. -/
def xokF (P : Program) (fn : Func) (fuel : Nat) (A : List Value) (H : Heap) (n0 : Nat) (hs : List Hint) (F : List Nat) (v : Value) (H' : Heap) : Prop :=
  match xfun P fn fuel A H n0 hs with
  | some (v', Hend, ob) => allP ob ∧ (rnF (frzAt (lk Hend) F) 6 v' = v ∧ frzP (lk Hend) F H')
  | none => False

def frzT : Heap → Prop
  | [] => True
  | (_, B) :: r => (false = false ∧ some B = some B) ∧ frzT r

theorem frzT_all : ∀ h : Heap, frzT h
  | [] => trivial
  | (_, _) :: r => ⟨⟨rfl, rfl⟩, frzT_all r⟩

/-- What a function does, of all the blocks that it leaves. -/
theorem fn_of_xokF {P : Program} (hG : P.globals.size ≤ 1000) (hM : P.follows .mixedOrders = true) {g : FuncId} {fn : Func} (hf : P.funcs[g]? = some fn) (hb : fn.body.isSome = true) (hn : (fn.name == "runtime.NumGoroutine") = false) {fuel : Nat} {A : List Value} {H : Heap} {n0 : Nat}
    {hs : List Hint} {F : List Nat} {v : Value} {H' : Heap} (h : xokF P fn fuel A H n0 hs F v H') : FnSpec P g n0 A H v H' := by
  unfold xokF at h
  split at h
  case h_2 => exact h.elim
  case h_1 v' Hend ob hx =>
  obtain ⟨hob, rfl, hfz⟩ := h
  have hs' := allP_spec hob
  -- the contract, of all that is there
  have full : ∀ (μ : Mu) (w : World) (rargs : List Value), Gl P μ → (∀ i, n0 ≤ i → μ i = none) → VRels μ A rargs → Rep μ (lk H) w →
      Calls P g ⟨rargs⟩ w fun e w' => ∃ μ' rv, (μ.le μ' ∧ ∀ i, i < n0 → μ' i = μ i) ∧ Rep μ' (lk Hend) w' ∧ VRel μ' v' rv ∧ e = .returned rv ∧ Keeps μ (lk H) w μ' (lk Hend) w' :=
    (fn_of_xokE hG hM hf hb hn hx hs').runs
  have ent := (fn_of_xokE hG hM hf hb hn hx hs').enters
  refine ⟨ent, fun μ w rargs hg hfr hA hr => (full μ w rargs hg hfr hA hr).mono ?_⟩
  intro e w' hh
  obtain ⟨μ', rv, h1, h2, h3, h4, h5⟩ := hh
  obtain ⟨r2, k2⟩ := h2.freeze hfz
  exact ⟨μ'.freeze w' (lk Hend) F, rv, ⟨Mu.le_trans h1.1 h2.freeze_le, h1.2⟩, r2, h2.freeze_rel 6 _ _ h3, h4, k2 _ _ _ h5⟩

theorem fn_of_f {P : Program} (hG : P.globals.size ≤ 1000) (hM : P.follows .mixedOrders = true) {g : FuncId} {fn : Func} (hf : P.funcs[g]? = some fn) (hb : fn.body.isSome = true) (hn : (fn.name == "runtime.NumGoroutine") = false) (fuel : Nat) (hs : List Hint) (F : List Nat)
    {A : List Value} {H : Heap} {n0 : Nat} {v : Value} {H' : Heap} {O : Prop} (o : O) (h : (O ∧ (v = v ∧ frzT H')) = xokF P fn fuel A H n0 hs F v H') : FnSpec P g n0 A H v H' :=
  have h2 : xokF P fn fuel A H n0 hs F v H' := h ▸ ⟨o, rfl, frzT_all H'⟩
  fn_of_xokF hG hM hf hb hn h2

end Go.Proofs.YtmnhmplcpijanaaGreat.VX
