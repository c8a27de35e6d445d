/-
  Rows that list package variables with what they hold: tables of integers, out of 'laid'; a law by its contract over such tables. No condition.
-/
import Derived.Test.YtgnhhnmpeklciaaVM
import Derived.LaidMore
import Derived.OpenShut
import Derived.Lay
import Derived.LaidLaws
import Derived.LaidSub
import Derived.Handed
import Derived.Stop.Joined
namespace Go.Proofs.Ytgnhhnmpeklciaa.VX
open Go Go.RowKit Go.WideShapes Go.ChangeShapes Go.WideElems
set_option linter.unusedSimpArgs false
set_option linter.unusedVariables false

theorem laid_entry {P : Program} {w : World} {n : String} {d : DataW Unit} : ∀ {l : List (String × DataW Unit)} {ps : List MemPlace}, DataW.LaidVars P w l ps → (n, d) ∈ l →
    ∃ g t cs fuel p, P.globalNamed n = some g ∧ (P.globals[g]?).map (·.type) = some t ∧ w.var? P n = some cs ∧ DataW.trod (fun _ => ()) P w 0 (fun _ => true) false fuel t cs.toList = some (d, p)
  | [], ps, _, hm => by simp at hm
  | (n', d') :: r, ps, h, hm => by
    obtain ⟨g, t, cs, fuel, p, q, h1, h2, h3, h4, hr, rfl⟩ := h
    simp only [List.mem_cons, Prod.mk.injEq] at hm
    rcases hm with ⟨rfl, rfl⟩ | hm
    · exact ⟨g, t, cs, fuel, p, h1, h2, h3, h4⟩
    · exact laid_entry hr hm

/-- A table of integers: what a variable's block holds. -/
theorem tbl_ints {P : Program} {W : World} {laid : List (String × DataW Unit)} (h : laidMet P laid W) {n : String} {d : DataW Unit} (hm : (n, d) ∈ laid) {L : List Int} {k : IntKind} (hd : d = .agg (L.map fun x => .lit (.int k x))) {g : Nat} (hg : P.globalNamed n = some g)
    {ta te : TypeId} (ht : (P.globals[g]?).map (·.type) = some ta) {len : Nat} (hu : P.underlying ta = some (.array len te)) (hue : P.underlying te = some (.int k)) (hc : P.cellsOf te = 1) (hl : L.length = len) (μ : Mu) (ty : TypeId) :
    BlkRel μ ⟨[.ints k len (fun r => L.getD r 0)], ty, true⟩ W.heap[g]? := by
  obtain ⟨ps, hv, _, _⟩ := h
  obtain ⟨g', t', cs, fuel, p, e1, e2, e3, e4⟩ := laid_entry hv hm
  obtain rfl := Option.some.inj (hg.symm.trans e1)
  obtain rfl := Option.some.inj (ht.symm.trans e2)
  obtain ⟨xs, m, _, ex, _, hxl, hel⟩ := DataW.trod_array hu e4
  have hcell : ∀ r, r < len → cs[r]? = some (.int k (L.getD r 0)) := by
    intro r hr
    have hE := hel r hr
    rw [hc, Nat.mul_one, List.getElem?_eq_getElem (by omega)] at hE
    obtain ⟨z, q1, q2, _⟩ := DataW.trod_int hue hE
    have e3 : (xs.map (·.1)) = L.map fun n => .lit (.int k n) := by
      have := (Prod.mk.inj ex).1
      rw [hd] at this
      exact (DataW.agg.inj this).symm
    have e4 : (xs.map (·.1))[r]? = (L.map fun n => (DataW.lit (.int k n) : DataW Unit))[r]? := by rw [e3]
    rw [List.getElem?_map, List.getElem?_map, List.getElem?_eq_getElem (by omega : r < xs.length), List.getElem?_eq_getElem (by omega : r < L.length), q2] at e4
    have hz : z = L.getD r 0 := by
      simp only [Option.map_some, Option.some.injEq, DataW.lit.injEq, Lit.int.injEq, true_and] at e4
      rw [e4, List.getD, List.getElem?_eq_getElem (by omega : r < L.length)]; rfl
    rw [← hz]
    have h0 : ((cs.toList.drop r).take 1)[0]? = some (.int k z) := by rw [q1]; rfl
    simpa using h0
  have hheap : ∃ t fr, W.heap[g]? = some (.cells cs t fr) := by
    simp only [World.var?, hg, Option.bind_some] at e3
    split at e3
    · rename_i c t fr hh
      simp only [Option.some.injEq] at e3
      subst e3
      exact ⟨_, _, hh⟩
    · simp at e3
  obtain ⟨t, fr, hh⟩ := hheap
  refine ⟨cs, t, fr, hh, (fun hro => nomatch hro), fun off v hv => ?_⟩
  simp only [Blk.get?, segsGet?, Seg.size] at hv
  cases e : Nat.blt off len <;> rw [e] at hv
  · simp at hv
  · simp only [cond_true, Seg.get?, e, Option.some.injEq] at hv
    subst hv
    exact ⟨_, hcell off (blt_tt e), .int _ _⟩

/-- Blocks of the package's variables, that nobody writes. -/
theorem rep_tbls {P : Program} {W : World} {Hl : Heap} (h : P.globals.size ≤ W.heap.size) (hb : ∀ i B, lk Hl i = some B → i < P.globals.size ∧ B.ro = true ∧ BlkRel (muG P) B W.heap[i]?) : Rep (muG P) (lk Hl) W := by
  refine ⟨fun i B e _ => ?_, fun i j A B b e1 e2 _ _ _ => ⟨(hb i A e1).2.1, (hb j B e2).2.1⟩, fun i b e => ?_, fun i B b e hr => (by rw [(hb i B e).2.1] at hr; cases hr), (fun b cs e => nomatch e), fun i B b e hr => (by rw [(hb i B e).2.1] at hr; cases hr)⟩
  · obtain ⟨h1, _, h3⟩ := hb i B e
    exact ⟨i, by simp [muG, h1], h3⟩
  · simp only [muG] at e
    split at e
    · simp at e; omega
    · cases e

/-- A law by its contract, over tables. -/
theorem calls_of_spec_tbls {P : Program} {f : FuncId} {A : List Value} {Hl H' : Heap} (hG : P.globals.size ≤ 1000) (sp : FnSpec P f 1000 A Hl (.bool true) H') {W : World} {args : Array Value} (hg : P.globals.size ≤ W.heap.size)
    (hb : ∀ i B, lk Hl i = some B → i < P.globals.size ∧ B.ro = true ∧ BlkRel (muG P) B W.heap[i]?) (ha : VRels (muG P) A args.toList) :
    Calls P f args W fun e W' => e = .returned (.bool true) ∧ Below W.heap.size W W' := by
  have := sp.runs (muG P) W args.toList (muG_ok P) (fun i hi => by simp [muG]; omega) ha (rep_tbls hg hb)
  refine this.mono fun e W' ⟨μ', rv, _, _, hv, he, k⟩ => ?_
  cases hv
  exact ⟨he, ⟨k.os, k.tape, k.output, k.size, fun b hb' => k.same b hb' (by rintro ⟨i, B, e, hr, _⟩; rw [(hb i B e).2.1] at hr; cases hr)⟩⟩

section
variable {H : Type} {enc : TypeId × Value → H} {P : Program}

theorem returnsInHanded_laid {a : Assume} {C : Checked} {os : Os} {f : FuncId} {fn : Func} {s : ChangeSpec} {conds : List PathCond} {apart fresh handsOn again : Bool} {laid : List (String × DataW Unit)}
    (own : ownKnob C.prog.godebug = none) (started : os.Started) (noInit : C.prog.inits.idxOf? f = none) (hfn : C.prog.funcs[f]? = some fn)
    (witness : ∃ (w : World) (tape : Tape) (i : Input), w.os = os ∧ (w.forCall tape i).Shaped C.prog ∧ i.vars = [] ∧ Input.okWide C.prog (w.forCall tape i) .any w.heap.size f i ∧
      ((s.pre enc C.prog fn conds apart (w.forCall tape i).memory i.args ∧ laidMetH C.prog laid (w.forCall tape i).memory) ∧ sizedMet enc C.prog fn (OpenSpec.ofChange s) apart (w.forCall tape i).memory i.args) ∧ a.holds C.prog (lone (Frame.enter C.prog f i.args .normal) [] (w.forCall tape i)))
    (contract : ∀ (W : World) (base : Nat) (args : Array Value) (ds gs : List (DataW H)) (before : List MemPlace),
      (∀ (j : Nat) t v, fn.params[j]? = some t → args[j]? = some v → Value.okWide C.prog W .any base t v) →
      DataW.Whole enc C.prog fn.params.toList s.vars apart W args.toList ds gs before →
      conds.all (PathCond.test C.prog ⟨fn.params.toList, ds, s.plain.varTypes C.prog, gs⟩) = true →
      laidMetH C.prog laid W → W.ShapedOpen C.prog →
      Calls C.prog f args W fun e W' => ∃ v, e = .returned v ∧ s.post enc C.prog fn apart fresh handsOn again W args v W') :
    ReturnsInHanded a C os f .any (fun w args => (s.pre enc C.prog fn conds apart w args ∧ laidMetH C.prog laid w) ∧ sizedMet enc C.prog fn (OpenSpec.ofChange s) apart w args) (s.post enc C.prog fn apart fresh handsOn again) := by
  refine returnsInHanded_of_calls own started noInit witness ?_
  intro w tape i _ hsh _ hok hpre hholds
  obtain ⟨_, _, _, fn', hfn', _, _, _, _, hval⟩ := hok
  have e : fn' = fn := Option.some.inj (hfn'.symm.trans hfn)
  subst e
  obtain ⟨⟨⟨ds, gs, before, hw, hc⟩, hx⟩, hz⟩ := hpre
  have hw' := DataW.Whole.of_heap (w' := w.forCall tape i) (by rfl) hw
  refine (contract (w.forCall tape i) w.heap.size i.args ds gs before hval hw' hc (hx.of_heap (by rfl)) hsh).mono fun e W' ⟨v, he, hp⟩ => ?_
  subst he
  exact ChangeSpec.post_blind hp

/-- The row, out of what the law does, over laid variables. -/
theorem row_of_laid {C : Checked} {os : Os} {f : FuncId} {fn : Func} {s : ChangeSpec} {conds : List PathCond} {apart fresh handsOn again : Bool} {tb : TypeId} {n : Nat} {laid : List (String × DataW Unit)}
    (own : ownKnob C.prog.godebug = none) (started : os.Started) (noInit : C.prog.inits.idxOf? f = none) (hfn : C.prog.funcs[f]? = some fn)
    (hvars : s.vars = []) (hrt : fn.resultTypes = #[tb]) (hb : C.prog.underlying tb = some .bool) (hl : laidOutB C.prog = true)
    (hp : fn.params.toList.all (fun t => C.prog.readableRec t && decide (t < C.prog.types.size)) = true) (hn : fn.params.toList.length = n)
    (hs : ∀ ds : List (DataW H), ds.length = n → s.fn H ds = { results := [.lit (.bool true)], args := ds })
    (hlow : decide (C.prog.globals.size < (begin C.prog (fun _ _ => 0) default).world.heap.size) = true)
    (hplain : (laid.all fun x => x.2.handleName?.isNone) = true)
    (witness : ∃ (w : World) (tape : Tape) (i : Input), w.os = os ∧ (w.forCall tape i).Shaped C.prog ∧ i.vars = [] ∧ Input.okWide C.prog (w.forCall tape i) .any w.heap.size f i ∧
      ((s.pre enc C.prog fn conds apart (w.forCall tape i).memory i.args ∧ laidMetH C.prog laid (w.forCall tape i).memory) ∧ sizedMet enc C.prog fn (OpenSpec.ofChange s) apart (w.forCall tape i).memory i.args) ∧ ({} : Assume).holds C.prog (lone (Frame.enter C.prog f i.args .normal) [] (w.forCall tape i)))
    (walk : ∀ (W : World) (base : Nat) (args : Array Value) (ds : List (DataW H)) (ps : List MemPlace),
      (∀ (j : Nat) t v, fn.params[j]? = some t → args[j]? = some v → Value.okWide C.prog W .any base t v) →
      DataW.TrodAll enc C.prog W 0 (fun _ => true) true fn.params.toList args.toList ds ps →
      conds.all (PathCond.test C.prog ⟨fn.params.toList, ds, s.plain.varTypes C.prog, []⟩) = true →
      C.prog.globals.size ≤ W.heap.size → W.ShapedOpen C.prog → laidMet C.prog laid W →
      Calls C.prog f args W fun e W' => e = .returned (.bool true) ∧ Below W.heap.size W W') :
    ReturnsInHanded {} C os f .any (fun w args => (s.pre enc C.prog fn conds apart w args ∧ laidMetH C.prog laid w) ∧ sizedMet enc C.prog fn (OpenSpec.ofChange s) apart w args) (s.post enc C.prog fn apart fresh handsOn again) := by
  refine returnsInHanded_laid own started noInit hfn witness ?_
  intro W base args ds gs before hval hW hcnd hlaid hsh
  have hW' := hW
  obtain ⟨p, q, hA, hV, rfl, _, _⟩ := hW
  rw [hvars] at hV
  have hgs : gs = [] ∧ q = [] := by
    cases gs with
    | nil => exact ⟨rfl, hV⟩
    | cons _ _ => exact hV.elim
  obtain ⟨rfl, rfl⟩ := hgs
  have hlm : laidMet C.prog laid W := by
    obtain ⟨h1, _⟩ := laidMetH_iff.1 hlaid
    have e : (laid.filter fun x => x.2.handleName?.isNone) = laid := List.filter_eq_self.2 (by simpa using hplain)
    rwa [e] at h1
  have hlt : ∀ x ∈ p, x.block < W.heap.size := fun x hx => hW'.lt x (List.mem_append_left _ hx)
  refine (walk W base args ds p hval hA hcnd (globals_there hsh hlow) hsh hlm).mono fun e W' ⟨he, hbw⟩ => ?_
  subst he
  have hsd : s.fn H (ds ++ []) = { results := [.lit (.bool true)], args := ds } := by
    rw [List.append_nil]; exact hs ds (by rw [← hn]; exact trodAll_length hA)
  refine ⟨_, rfl, post_of_below (pa := p) (pv := []) hW' ?_ ?_ ?_ rfl hbw ?_⟩
  · intro b sp hd
    rw [hsd, hrt]
    exact ⟨[], [], shut_bool hb true, rfl, rfl⟩
  · intro sp hsp
    rw [hsd]
    exact trodAll_stays hl hp hA (fun x hx => hbw.same (hlt x hx)) (fun x hx => hsp x (List.mem_append_left _ hx))
  · intro sp hsp
    rw [hvars, hsd]
    rfl
  · intro j t r hj hr
    rw [hrt] at hj hr
    match j, hj, hr with
    | 0, hj, hr =>
      simp [Value.resultList] at hj hr
      subst hj; subst hr
      simp [Value.okWide, hb, Cell.okWide, Cell.ok]
    | j + 1, hj, hr => simp at hj

end
end Go.Proofs.Ytgnhhnmpeklciaa.VX
