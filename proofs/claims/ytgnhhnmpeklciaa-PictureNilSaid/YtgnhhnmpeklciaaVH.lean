/-
  A region: its operations one behind the other, and, where the region draws its order, in whatever order its edges allow. No condition.
-/
import Derived.Test.YtgnhhnmpeklciaaVQw
namespace Go.Proofs.Ytgnhhnmpeklciaa.VX
open Go
set_option linter.unusedSimpArgs false
set_option linter.unusedVariables false

/-- Every operation that the executor takes. -/
theorem xop0_ok {P : Program} {ρ : Operand → Value} {H : HF} {n : Nat} {hs : List Hint} {o : Oper} {out : Out} (hG : P.globals.size ≤ 1000) (hx : xop0 P ρ H n hs o = some out) (hob : ∀ q ∈ out.ob, q) (h : HF)
    (hrd : ∀ i ∈ out.rd, h i = H i) (hsh : ∀ i ∈ out.sh, SameShape (h i) (H i)) : OpSpec P o ρ h out := by
  by_cases hcall : ∃ c, o.op = .call c
  · obtain ⟨c, ho⟩ := hcall
    unfold xop0 at hx
    simp only [ho] at hx
    split at hx
    · rename_i f hf
      split at hx
      · rename_i g fs cs hρ
        refine xcallA_ok hG hx hob hrd fun μ a w hxs => ?_
        have hv := hxs f (by rw [ho]; simp [Op.operands, Call.operands, hf])
        have hargs : VRels μ (c.args.toList.map ρ) (c.args.toList.map a.eval) := args_rel _ fun x hx => hxs x (by rw [ho]; simp only [Op.operands, Call.operands, Array.mem_append]; exact .inr (by simpa using hx))
        rw [hρ] at hv
        have hex : ∀ fs' cs' : List Value, a.eval f = .func (.func g) ⟨fs'⟩ ⟨cs'⟩ → (execOp a.eval o).run P w = (callFunc g ⟨fs' ++ c.args.toList.map a.eval ++ cs'⟩).run P w := by
          intro fs' cs' he
          unfold execOp
          simp only [ho, resolve, hf, he, Deferred.ofValue, Sem.run_bind, Sem.run_pure, Result.andThen_ok, invoke]
          congr 2
          apply Array.ext'
          simp
        revert hv hex
        generalize a.eval f = X
        intro hv hex
        cases hv with
        | func fn h1 h2 => exact ⟨_, (h1.append hargs).append h2, hex _ _ rfl⟩
      · simp at hx
    · rename_i hf
      split at hx
      · rename_i t x hat hargs
        have key : ∀ v, (∀ (μ : Mu) (a : Act) (w : World), VRel μ (ρ x) (a.eval x) → (Builtin.len_ c.argTypes o.type (c.args.map a.eval)).run P w = .ok v w ∧ VRel μ v v) → some (VX.silent v n hs []) = some out → OpSpec P o ρ h out := by
          intro v hv he
          simp only [Option.some.injEq] at he; subst he
          refine .silent fun μ a w hg hxs => ?_
          obtain ⟨h1, h2⟩ := hv μ a w (hxs x (by rw [ho]; have hm : x ∈ c.args.toList := (by rw [hargs]; simp); simp only [Op.operands, Call.operands, hf]; simpa using hm))
          refine ⟨v, ?_, h2⟩
          unfold execOp
          simp only [ho, resolve, hf, Sem.run_bind, Sem.run_pure, Result.andThen_ok, invoke, builtin]
          rw [h1]
          rfl
        have harg0 : ∀ a : Act, (c.args.map a.eval)[0]? = some (a.eval x) := by
          intro a
          have : c.args.toList[0]? = some x := by rw [hargs]; rfl
          simp at this
          simp [this]
        split at hx
        · rename_i s hu hρ
          refine key _ (fun μ a w hv => ?_) hx
          rw [hρ] at hv
          refine ⟨?_, .int _ _⟩
          unfold Builtin.len_
          simp only [hat, harg0 a]
          revert hv; generalize a.eval x = X; intro hv; cases hv
          simp [underlying_run hu, goInt]
        · rename_i m e hu
          refine key _ (fun μ a w hv => ⟨?_, .int _ _⟩) hx
          unfold Builtin.len_
          simp only [hat, harg0 a]
          simp [underlying_run hu, goInt]
        · rename_i e sl m cap hu hρ
          refine key _ (fun μ a w hv => ?_) hx
          rw [hρ] at hv
          refine ⟨?_, .int _ _⟩
          unfold Builtin.len_
          simp only [hat, harg0 a]
          revert hv; generalize a.eval x = X; intro hv; cases hv <;> simp [underlying_run hu, goInt]
        · simp at hx
      · simp at hx
    · simp at hx
  · exact xop0_quiet hx hob h hrd hsh fun c hc => hcall ⟨c, hc⟩

theorem xopE_ok {P : Program} {ρ : Operand → Value} {H : HF} {n : Nat} {hs : List Hint} {o : Oper} {out : Out} (hx : xopE P ρ H n hs o = some out) (hob : ∀ q ∈ out.ob, q) (h : HF) (hrd : ∀ i ∈ out.rd, h i = H i) : OpSpec P o ρ h out := by
  unfold xopE at hx
  split at hx
  · rename_i t p ho
    obtain ⟨h1, h2, h3⟩ := xloadE_ok hx hob hrd
    refine .quiet h1 h2 fun μ a w hg hxs hr => ?_
    obtain ⟨rv, hrun, hv⟩ := h3 hr (hxs p (by rw [ho]; simp [Op.operands]))
    refine ⟨rv, ?_, hv⟩
    unfold execOp
    simp only [ho, Sem.run_bind, hrun, Result.andThen_ok, Sem.run_pure]
  · rename_i s p f ho
    obtain ⟨h1, h2, h3⟩ := xfieldE_ok hx
    refine .quiet h1 h2 fun μ a w hg hxs hr => ?_
    obtain ⟨rv, hrun, hv⟩ := h3 (w := w) (hxs p (by rw [ho]; simp [Op.operands]))
    refine ⟨rv, ?_, hv⟩
    unfold execOp
    simp only [ho, Sem.run_bind, hrun, Result.andThen_ok, Sem.run_pure]
  · rename_i t x ix ho
    obtain ⟨h1, h2, h3⟩ := xatE_ok hx hob
    refine .quiet h1 h2 fun μ a w hg hxs hr => ?_
    obtain ⟨rv, hrun, hv⟩ := h3 (w := w) (hxs x (by rw [ho]; simp [Op.operands])) (hxs ix (by rw [ho]; simp [Op.operands]))
    refine ⟨rv, ?_, hv⟩
    unfold execOp
    simp only [ho, Sem.run_bind, hrun, Result.andThen_ok, Sem.run_pure]
  · rename_i t x low high max ho
    exact xslice_ok hx hob ho
  · rename_i t parts ho
    cases hp : parts.toList.isEmpty <;> rw [hp] at hx
    · simp at hx
    · simp only [cond_true] at hx
      split at hx
      · exact xnone_ok hx ho (by simpa using hp)
      · exact xempty_ok hx ho (by simpa using hp)
  · rename_i c ho
    have two : ∀ (x y : Operand), c.args.toList = [x, y] → ∀ a : Act, c.args.map a.eval = #[a.eval x, a.eval y] := by
      intro x y hl a
      apply Array.ext'
      simp [hl]
    have mem : ∀ (x y : Operand), c.args.toList = [x, y] → x ∈ c.args ∧ y ∈ c.args := by
      intro x y hl
      constructor
      · have : x ∈ c.args.toList := by rw [hl]; simp
        simpa using this
      · have : y ∈ c.args.toList := by rw [hl]; simp
        simpa using this
    split at hx
    · rename_i x y hf hl
      split at hx
      · rename_i k a k' b hxv hyv
        simp only [Option.some.injEq] at hx; subst hx
        refine .silent fun μ ac w hg hxs => ?_
        have hx1 := hxs x (by rw [ho]; simp [Op.operands, Call.operands, hf, (mem x y hl).1])
        have hy1 := hxs y (by rw [ho]; simp [Op.operands, Call.operands, hf, (mem x y hl).2])
        rw [hxv] at hx1
        rw [hyv] at hy1
        refine ⟨.int k (if b < a then b else a), ?_, .int _ _⟩
        unfold execOp
        simp only [ho, resolve, hf, Sem.run_bind, Sem.run_pure, Result.andThen_ok, invoke, builtin, two x y hl]
        revert hx1 hy1
        generalize ac.eval x = X
        generalize ac.eval y = Y
        intro hx1 hy1
        cases hx1; cases hy1
        rfl
      · simp at hx
    · rename_i x y hf hl
      split at hx
      · rename_i k a k' b hxv hyv
        simp only [Option.some.injEq] at hx; subst hx
        refine .silent fun μ ac w hg hxs => ?_
        have hx1 := hxs x (by rw [ho]; simp [Op.operands, Call.operands, hf, (mem x y hl).1])
        have hy1 := hxs y (by rw [ho]; simp [Op.operands, Call.operands, hf, (mem x y hl).2])
        rw [hxv] at hx1
        rw [hyv] at hy1
        refine ⟨.int k (if b > a then b else a), ?_, .int _ _⟩
        unfold execOp
        simp only [ho, resolve, hf, Sem.run_bind, Sem.run_pure, Result.andThen_ok, invoke, builtin, two x y hl]
        revert hx1 hy1
        generalize ac.eval x = X
        generalize ac.eval y = Y
        intro hx1 hy1
        cases hx1; cases hy1
        rfl
      · simp at hx
    · rename_i x hf hl
      split at hx
      · rename_i t ht
        obtain ⟨h1, h2, h3⟩ := xlenE_ok (ty := o.type) hx hob ht
        refine .quiet h1 h2 fun μ a w hg hxs hr => ?_
        have hm : x ∈ c.args := by
          have : x ∈ c.args.toList := by rw [hl]; simp
          simpa using this
        have harg0 : (c.args.map a.eval)[0]? = some (a.eval x) := by
          have : c.args.toList[0]? = some x := by rw [hl]; rfl
          simp at this
          simp [this]
        obtain ⟨rv, hrun, hv⟩ := h3 (w := w) (hxs x (by rw [ho]; simp [Op.operands, Call.operands, hf, hm])) harg0
        refine ⟨rv, ?_, hv⟩
        unfold execOp
        simp only [ho, resolve, hf, Sem.run_bind, Sem.run_pure, Result.andThen_ok, invoke, builtin, hrun]
      · simp at hx
    · rename_i hf
      split at hx
      · exact xappendL_ok hx hob hrd ho hf
      · split at hx
        · rename_i out' hx'
          simp only [Option.some.injEq] at hx; subst hx
          exact xappendW_ok hx' hob hrd ho hf
        · exact xappendN_ok hx hob ho hf
      · exact xappend_ok hx hob hrd ho hf
    · simp at hx
  · rename_i t x y g ho
    split at hx
    · rename_i out' hx'
      simp only [Option.some.injEq] at hx; subst hx
      exact xeqNil_ok hx' hob ho
    · exact xeqNilT_ok hx hob ho
  · rename_i t l c ho
    exact xmake_ok hx hob ho
  · simp at hx

theorem xopA_ok {P : Program} {ρ : Operand → Value} {H : HF} {n : Nat} {hs : List Hint} {o : Oper} {out : Out} (hG : P.globals.size ≤ 1000) (hx : xopA P ρ H n hs o = some out) (hob : ∀ q ∈ out.ob, q) (h : HF)
    (hrd : ∀ i ∈ out.rd, h i = H i) (hsh : ∀ i ∈ out.sh, SameShape (h i) (H i)) : OpSpec P o ρ h out := by
  unfold xopA at hx
  split at hx
  · rename_i out0 h0
    simp only [Option.some.injEq] at hx; subst hx
    exact xop0_ok hG h0 hob h hrd hsh
  · exact xopE_ok hx hob h hrd

/-- Every operation, with or without a value that is told. -/
theorem xop_ok {P : Program} {ρ : Operand → Value} {H : HF} {n : Nat} {hs : List Hint} {o : Oper} {out : Out} (hG : P.globals.size ≤ 1000) (hx : xop P ρ H n hs o = some out) (hob : ∀ q ∈ out.ob, q) (h : HF)
    (hrd : ∀ i ∈ out.rd, h i = H i) (hsh : ∀ i ∈ out.sh, SameShape (h i) (H i)) : OpSpec P o ρ h out := by
  unfold xop at hx
  split at hx
  · rename_i d w hs'
    cases hd : dstIs o.dst d <;> rw [hd] at hx
    · exact xopA_ok hG hx hob h hrd hsh
    · simp only [cond_true] at hx
      cases h0 : xopA P ρ H n hs' o with
      | none => simp [h0] at hx
      | some out0 =>
        simp only [h0, Option.map_some, Option.some.injEq] at hx
        subst hx
        have hv : out0.v = w := hob _ (by simp)
        have hs0 := xopA_ok hG h0 (fun q hq => hob q (by simp [hq])) h hrd hsh
        intro μ a w' hg hxs hr hn K Q hk
        exact hs0 μ a w' hg hxs hr hn K Q fun μ' w1 rv h1 h2 h3 h4 h5 => hk μ' w1 rv h1 h2 h3 (by rw [hv] at h4; exact h4) h5
  · split at hx
    · rename_i out0 h0
      simp only [Option.some.injEq] at hx; subst hx
      exact xborn_ok h0 h
    · exact xopA_ok hG hx hob h hrd hsh
  · split at hx
    · rename_i out0 h0
      simp only [Option.some.injEq] at hx; subst hx
      exact xwhole_ok h0 hob h hrd
    · exact xopA_ok hG hx hob h hrd hsh
  · exact xopA_ok hG hx hob h hrd hsh

-- ---------------------------------------------------------------- slots

def tput (T : Tm) (d : Option Tmp) (v : Value) : Tm :=
  match d with
  | some d => (d, v) :: T
  | none => T

/-- The slots stand for a frame's. -/
def TRel (N : Nat) (μ : Mu) (T : Nat → Value) (tmps : Array Value) : Prop := tmps.size = N ∧ ∀ t, VRel μ (T t) (tmps.getD t undef)

theorem TRel.mono {N : Nat} {μ μ' : Mu} {T : Nat → Value} {tmps : Array Value} (h : μ.le μ') (r : TRel N μ T tmps) : TRel N μ' T tmps := ⟨r.1, fun t => (r.2 t).mono h⟩

def tupd (T : Nat → Value) (d : Option Tmp) (v : Value) : Nat → Value := fun t =>
  match d with
  | some d => bif Nat.beq t d then v else T t
  | none => T t

theorem tget_tput (T : Tm) (d : Option Tmp) (v : Value) : tget (tput T d v) = tupd (tget T) d v := by
  funext t
  cases d with
  | none => rfl
  | some d => simp [tput, tget, tupd]

theorem TRel.put {N : Nat} {μ : Mu} {T : Nat → Value} {a : Act} (r : TRel N μ T a.tmps) {d : Option Tmp} {v rv : Value} (hd : ∀ x, d = some x → x < N) (hv : VRel μ v rv) : TRel N μ (tupd T d v) (a.put d rv).tmps := by
  cases d with
  | none => exact r
  | some d =>
    have hlt := hd d rfl
    refine ⟨by simpa [Act.put] using r.1, fun t => ?_⟩
    simp only [tupd, Act.put]
    cases e : Nat.beq t d
    · simp only [cond_false]
      have hne := beq_ff e
      have := r.2 t
      rw [Array.getD_eq_getD_getElem?] at this ⊢
      rw [Array.getElem?_setIfInBounds_ne (fun h => hne h.symm)]
      exact this
    · have := beq_tt e
      subst this
      simp only [cond_true]
      rw [Array.getD_eq_getD_getElem?]
      have : t < a.tmps.size := by rw [r.1]; exact hlt
      simp [this]
      exact hv

theorem put_defers (a : Act) (d : Option Tmp) (v : Value) : (a.put d v).defers = a.defers := by cases d <;> rfl

theorem ev_rel {P : Program} {N : Nat} {μ : Mu} {T : Tm} {a : Act} (hg : Gl P μ) (r : TRel N μ (tget T) a.tmps) (x : Operand) : VRel μ (ev P T x) (a.eval x) := by
  cases x with
  | tmp t => exact r.2 t
  | const v =>
    simp only [ev, Act.eval]
    cases h : flat v
    · exact .junk _
    · exact .of_flat h
  | global g =>
    simp only [ev, Act.eval]
    cases h : Nat.blt g P.globals.size
    · exact .junk _
    · exact .ptr (hg g (blt_tt h)) 0
  | func f => exact .func _ .nil .nil

-- ---------------------------------------------------------------- the run of a region in the text's order

structure Rec where
  o : Oper
  ran : Bool
  out : Out

def slotOf (ops : Array Oper) (k : Nat) : Option Tmp := (ops[k]?).bind (·.dst)

def xwant (ops : Array Oper) (T : Tm) (o : Oper) (hs : List Hint) : Option (Bool × List Hint × List Prop) :=
  match o.guard with
  | none => some (true, hs, [])
  | some (k, want) =>
    match slotOf ops k with
    | none => some (false, hs, [])
    | some d =>
      match tget T d with
      | .bool c => match takeB c hs with
        | some (b, hs, ob) => some (b == want, hs, ob)
        | none => none
      | .chan none => some (false, hs, [])
      | _ => none

def dstOk (N : Nat) : Option Tmp → Bool
  | some d => Nat.blt d N
  | none => true

def skipped (n : Nat) (hs : List Hint) (ob : List Prop) : Out := { v := .chan none, eff := [], rd := [], sh := [], new := [], n, hs, ob }

def xreg (P : Program) (N : Nat) (ops : Array Oper) : List Oper → Tm → Heap → Nat → List Hint → Option (List Rec × Tm × Heap × Nat × List Hint)
  | [], T, H, n, hs => some ([], T, H, n, hs)
  | o :: r, T, H, n, hs =>
    bif dstOk N o.dst then
      match xwant ops T o hs with
      | some (true, hs, ob) =>
        match xop P (ev P T) (lk H) n hs o with
        | some out =>
          match xreg P N ops r (tput T o.dst out.v) (happ out.eff H) out.n out.hs with
          | some (l, x) => some ({ o, ran := true, out := { out with ob := ob ++ out.ob } } :: l, x)
          | none => none
        | none => none
      | some (false, hs, ob) =>
        match xreg P N ops r (tput T o.dst (.chan none)) H n hs with
        | some (l, x) => some ({ o, ran := false, out := skipped n hs ob } :: l, x)
        | none => none
      | none => none
    else none

-- ---------------------------------------------------------------- what of it is done, in whatever order

def foldT (D : Nat → Bool) : Nat → List Rec → (Nat → Value) → Nat → Value
  | _, [], T => T
  | k, r :: l, T => foldT D (k + 1) l (if D k then tupd T r.o.dst r.out.v else T)

def foldH (D : Nat → Bool) : Nat → List Rec → HF → HF
  | _, [], h => h
  | k, r :: l, h => foldH D (k + 1) l (if D k then app r.out.eff h else h)

theorem app_untouched : ∀ (e : List (Nat × Upd)) (h h' : HF) (i : Nat), (∀ x ∈ e, x.1 ≠ i) → h i = h' i → app e h i = h' i
  | [], h, h', i, _, hh => hh
  | x :: e, h, h', i, hx, hh => by
    simp only [app]
    refine app_untouched e _ h' i (fun y hy => hx y (by simp [hy])) ?_
    rw [upd1_other (fun hi => hx x (by simp) hi.symm)]
    exact hh

theorem app_agree : ∀ (e : List (Nat × Upd)) (h h' : HF) (i : Nat), h i = h' i → app e h i = app e h' i
  | [], h, h', i, hh => hh
  | x :: e, h, h', i, hh => by
    simp only [app]
    refine app_agree e _ _ i ?_
    unfold upd1
    cases Nat.beq i x.1
    · simpa using hh
    · cases x.2 <;> simp [hh]

theorem foldT_agree {D D' : Nat → Bool} (t : Nat) : ∀ (l : List Rec) (k : Nat) (T T' : Nat → Value), T t = T' t → (∀ j r, l[j]? = some r → D (k + j) ≠ D' (k + j) → r.o.dst ≠ some t) → foldT D k l T t = foldT D' k l T' t
  | [], k, T, T', h, _ => h
  | r :: l, k, T, T', h, hd => by
    simp only [foldT]
    refine foldT_agree t l (k + 1) _ _ ?_ (fun j r' hj hne => hd (j + 1) r' (by simpa using hj) (by rw [show k + (j + 1) = k + 1 + j by omega]; exact hne))
    by_cases he : D k = D' k
    · rw [he]
      split
      · unfold tupd
        cases r.o.dst with
        | none => exact h
        | some d => simp only; cases Nat.beq t d <;> simp [h]
      · exact h
    · have hne := hd 0 r (by simp) (by simpa using he)
      have hput : ∀ (T : Nat → Value) v, tupd T r.o.dst v t = T t := by
        intro T v
        unfold tupd
        cases hdst : r.o.dst with
        | none => rfl
        | some d =>
          have : t ≠ d := by rintro rfl; exact hne hdst
          simp [beq_ne this]
      split <;> split <;> simp [hput, h]

theorem foldH_agree {D D' : Nat → Bool} (i : Nat) : ∀ (l : List Rec) (k : Nat) (h h' : HF), h i = h' i → (∀ j r, l[j]? = some r → D (k + j) ≠ D' (k + j) → ∀ x ∈ r.out.eff, x.1 ≠ i) → foldH D k l h i = foldH D' k l h' i
  | [], k, h, h', e, _ => e
  | r :: l, k, h, h', e, hd => by
    simp only [foldH]
    refine foldH_agree i l (k + 1) _ _ ?_ (fun j r' hj hne => hd (j + 1) r' (by simpa using hj) (by rw [show k + (j + 1) = k + 1 + j by omega]; exact hne))
    by_cases he : D k = D' k
    · rw [he]
      split
      · exact app_agree _ _ _ _ e
      · exact e
    · have hne := hd 0 r (by simp) (by simpa using he)
      split <;> split
      · exact app_agree _ _ _ _ e
      · exact app_untouched _ _ _ _ hne e
      · exact (app_untouched _ _ _ _ hne e.symm).symm
      · exact e

/-- The shape alone. -/
def shapeOf (b : Option Blk) : Option (Bool × Nat) := b.map fun B => (B.ro, B.size)

theorem sameShape_of {a b : Option Blk} (h : shapeOf a = shapeOf b) : SameShape a b := by
  intro B hB
  subst hB
  cases a with
  | none => simp [shapeOf] at h
  | some A =>
    simp [shapeOf] at h
    exact ⟨A, rfl, h.1, h.2⟩

theorem upd1_shape {h h' : HF} {x : Nat × Upd} {i : Nat} (e : shapeOf (h i) = shapeOf (h' i)) : shapeOf (upd1 h x i) = shapeOf (upd1 h' x i) := by
  unfold upd1
  cases Nat.beq i x.1
  · simpa using e
  · cases x.2 with
    | blk B => rfl
    | del => rfl
    | cell o v =>
      simp only [cond_true]
      cases hi : h i <;> cases hi' : h' i <;> simp [shapeOf, hi, hi', Blk.set_size] at e ⊢
      · exact e

theorem upd1_cell_shape {h : HF} {x : Nat × Upd} {i : Nat} (hx : x.1 = i → ∃ o v, x.2 = .cell o v) : shapeOf (upd1 h x i) = shapeOf (h i) := by
  unfold upd1
  cases e : Nat.beq i x.1
  · rfl
  · obtain ⟨o, v, he⟩ := hx (beq_tt e).symm
    rw [he]
    simp only [cond_true]
    cases h i <;> simp [shapeOf, Blk.set_size, Blk.set]
    exact segsSet_size _ _ _

theorem app_shape : ∀ (e : List (Nat × Upd)) (h h' : HF) (i : Nat), shapeOf (h i) = shapeOf (h' i) → shapeOf (app e h i) = shapeOf (app e h' i)
  | [], h, h', i, hh => hh
  | x :: e, h, h', i, hh => by simp only [app]; exact app_shape e _ _ i (upd1_shape hh)

theorem app_cells_shape : ∀ (e : List (Nat × Upd)) (h h' : HF) (i : Nat), (∀ x ∈ e, x.1 = i → ∃ o v, x.2 = .cell o v) → shapeOf (h i) = shapeOf (h' i) → shapeOf (app e h i) = shapeOf (h' i)
  | [], h, h', i, _, hh => hh
  | x :: e, h, h', i, hx, hh => by
    simp only [app]
    exact app_cells_shape e _ h' i (fun y hy => hx y (by simp [hy])) (by rw [upd1_cell_shape (hx x (by simp))]; exact hh)

theorem foldH_shape {D D' : Nat → Bool} (i : Nat) : ∀ (l : List Rec) (k : Nat) (h h' : HF), shapeOf (h i) = shapeOf (h' i) → (∀ j r, l[j]? = some r → D (k + j) ≠ D' (k + j) → ∀ x ∈ r.out.eff, x.1 = i → ∃ o v, x.2 = .cell o v) →
    shapeOf (foldH D k l h i) = shapeOf (foldH D' k l h' i)
  | [], k, h, h', e, _ => e
  | r :: l, k, h, h', e, hd => by
    simp only [foldH]
    refine foldH_shape i l (k + 1) _ _ ?_ (fun j r' hj hne => hd (j + 1) r' (by simpa using hj) (by rw [show k + (j + 1) = k + 1 + j by omega]; exact hne))
    by_cases he : D k = D' k
    · rw [he]
      split
      · exact app_shape _ _ _ _ e
      · exact e
    · have hne := hd 0 r (by simp) (by simpa using he)
      split <;> split
      · exact app_shape _ _ _ _ e
      · exact app_cells_shape _ _ _ _ hne e
      · exact (app_cells_shape _ _ _ _ hne e.symm).symm
      · exact e

-- ---------------------------------------------------------------- two updates that commute

theorem Seg.set_comm (s : Seg) {o o' : Nat} (v v' : Value) (h : o ≠ o') : (s.set o v).set o' v' = (s.set o' v').set o v := by
  cases s with
  | one x =>
    simp only [Seg.set]
    cases e : Nat.beq o 0 <;> cases e' : Nat.beq o' 0 <;> simp [Seg.set, e, e']
    exact absurd ((beq_tt e).trans (beq_tt e').symm) h
  | ints k n a =>
    have gap : ∀ v o, Seg.set (.gap n) o v = .gap n := fun _ _ => rfl
    cases v with
    | int kv x =>
      cases v' with
      | int kv' x' =>
        simp only [Seg.set]
        cases e : k == kv <;> cases e' : k == kv' <;> simp [Seg.set, e, e']
        funext j
        simp only [upd]
        cases h1 : Nat.beq j o' <;> cases h2 : Nat.beq j o <;> simp
        exact absurd ((beq_tt h2).symm.trans (beq_tt h1)) h
      | _ => simp only [Seg.set]; cases k == kv <;> rfl
    | _ =>
      cases v' with
      | int kv' x' => simp only [Seg.set]; cases k == kv' <;> rfl
      | _ => rfl
  | bools n a =>
    cases v with
    | bool x =>
      cases v' with
      | bool x' =>
        simp only [Seg.set, Seg.bools.injEq, true_and]
        funext j
        simp only [upd]
        cases h1 : Nat.beq j o' <;> cases h2 : Nat.beq j o <;> simp
        exact absurd ((beq_tt h2).symm.trans (beq_tt h1)) h
      | _ => rfl
    | _ => cases v' <;> rfl
  | rows n sz g => rfl
  | gap n => rfl

theorem segsSet_comm : ∀ (l : List Seg) {o o' : Nat} (v v' : Value), o ≠ o' → segsSet (segsSet l o v) o' v' = segsSet (segsSet l o' v') o v
  | [], o, o', v, v', h => rfl
  | s :: r, o, o', v, v', h => by
    simp only [segsSet]
    cases e : Nat.blt o s.size <;> cases e' : Nat.blt o' s.size <;> simp only [cond_true, cond_false, segsSet, Seg.set_size, e, e']
    · have := blt_ff e; have := blt_ff e'
      rw [segsSet_comm r v v' (by omega)]
    · rw [Seg.set_comm s v v' h]

/-- May two updates be done in either order? -/
def updFree (x y : Nat × Upd) : Bool :=
  !Nat.beq x.1 y.1 || (match x.2, y.2 with | .cell o _, .cell o' _ => !Nat.beq o o' | _, _ => false)

theorem upd1_comm {h : HF} {x y : Nat × Upd} (hf : updFree x y = true) : upd1 (upd1 h x) y = upd1 (upd1 h y) x := by
  funext j
  obtain ⟨i, u⟩ := x
  obtain ⟨i', u'⟩ := y
  simp only [updFree, Bool.or_eq_true, Bool.not_eq_true'] at hf
  by_cases hii : i = i'
  · subst hii
    rcases hf with hf | hf
    · rw [beq_self] at hf; cases hf
    · cases u with
      | blk B => simp at hf
      | del => simp at hf
      | cell o v =>
        cases u' with
        | blk B => simp at hf
        | del => simp at hf
        | cell o' v' =>
          simp only [Bool.not_eq_true'] at hf
          have hne := beq_ff hf
          by_cases hj : j = i
          · subst hj
            simp only [upd1_cell, Option.map_map]
            cases h j with
            | none => rfl
            | some B =>
              simp only [Option.map_some, Function.comp, Blk.set, Option.some.injEq, Blk.mk.injEq, and_true]
              exact segsSet_comm _ _ _ hne
          · rw [upd1_other hj, upd1_other hj, upd1_other hj, upd1_other hj]
  · by_cases hj : j = i
    · subst hj
      rw [upd1_other (x := (i', u')) hii]
      unfold upd1
      simp only [beq_self, cond_true, beq_ne hii, cond_false]
    · by_cases hj' : j = i'
      · subst hj'
        rw [upd1_other (x := (i, u)) hj]
        unfold upd1
        simp only [beq_self, cond_true, beq_ne hj, cond_false]
      · rw [upd1_other hj', upd1_other hj, upd1_other hj, upd1_other hj']

theorem app_upd1_comm : ∀ (e : List (Nat × Upd)) (h : HF) (x : Nat × Upd), (∀ y ∈ e, updFree x y = true) → app e (upd1 h x) = upd1 (app e h) x
  | [], h, x, _ => rfl
  | y :: e, h, x, hf => by
    simp only [app]
    rw [upd1_comm (hf y (by simp)), app_upd1_comm e _ x (fun z hz => hf z (by simp [hz]))]

theorem app_comm : ∀ (e e' : List (Nat × Upd)) (h : HF), (∀ x ∈ e', ∀ y ∈ e, updFree x y = true) → app e (app e' h) = app e' (app e h)
  | e, [], h, _ => rfl
  | e, x :: e', h, hf => by
    simp only [app]
    rw [app_comm e e' _ (fun z hz => hf z (by simp [hz])), app_upd1_comm e h x (hf x (by simp))]

theorem foldH_app {D : Nat → Bool} (e : List (Nat × Upd)) : ∀ (l : List Rec) (k : Nat) (h : HF), (∀ j r, l[j]? = some r → D (k + j) = true → ∀ x ∈ e, ∀ y ∈ r.out.eff, updFree x y = true) →
    foldH D k l (app e h) = app e (foldH D k l h)
  | [], k, h, _ => rfl
  | r :: l, k, h, hf => by
    simp only [foldH]
    have ih := fun h => foldH_app (D := D) e l (k + 1) h (fun j r' hj hd => hf (j + 1) r' (by simpa using hj) (by rw [show k + (j + 1) = k + 1 + j by omega]; exact hd))
    split
    · rename_i hk
      rw [app_comm _ _ _ (fun x hx y hy => hf 0 r (by simp) (by simpa using hk) x hx y hy)]
      exact ih _
    · exact ih _

theorem foldT_put {D : Nat → Bool} (d : Option Tmp) (v : Value) : ∀ (l : List Rec) (k : Nat) (T : Nat → Value), (∀ j r, l[j]? = some r → D (k + j) = true → ∀ x, d = some x → r.o.dst ≠ some x) →
    foldT D k l (tupd T d v) = tupd (foldT D k l T) d v
  | [], k, T, _ => rfl
  | r :: l, k, T, hf => by
    simp only [foldT]
    have ih := fun T => foldT_put (D := D) d v l (k + 1) T (fun j r' hj hd => hf (j + 1) r' (by simpa using hj) (by rw [show k + (j + 1) = k + 1 + j by omega]; exact hd))
    split
    · rename_i hk
      have e : tupd (tupd T d v) r.o.dst r.out.v = tupd (tupd T r.o.dst r.out.v) d v := by
        funext t
        unfold tupd
        cases hd : d with
        | none => rfl
        | some x =>
          cases hr : r.o.dst with
          | none => rfl
          | some y =>
            have hne : y ≠ x := by rintro rfl; exact hf 0 r (by simp) (by simpa using hk) y hd hr
            simp only
            cases h1 : Nat.beq t x <;> cases h2 : Nat.beq t y <;> simp
            exact absurd ((beq_tt h2).symm.trans (beq_tt h1)) hne
      rw [e]
      exact ih _
    · exact ih _

/-- One operation more is done. -/
def plus (D : Nat → Bool) (i : Nat) : Nat → Bool := fun k => D k || Nat.beq k i

theorem foldT_plus {D : Nat → Bool} {i : Nat} (hD : D i = false) : ∀ (l : List Rec) (k : Nat) (T : Nat → Value) (r : Rec), l[i - k]? = some r → k ≤ i →
    (∀ j r', l[j]? = some r' → i < k + j → D (k + j) = true → ∀ x, r.o.dst = some x → r'.o.dst ≠ some x) → foldT (plus D i) k l T = tupd (foldT D k l T) r.o.dst r.out.v
  | [], k, T, r, hr, _, _ => by simp at hr
  | r0 :: l, k, T, r, hr, hk, hf => by
    simp only [foldT]
    by_cases hki : k = i
    · subst hki
      simp only [Nat.sub_self, List.getElem?_cons_zero, Option.some.injEq] at hr
      subst hr
      have h1 : plus D k k = true := by simp [plus, beq_self]
      rw [h1, hD]
      simp only [if_true, Bool.false_eq_true, if_false]
      have hsame : ∀ (l : List Rec) (m : Nat) (T : Nat → Value), k < m → foldT (plus D k) m l T = foldT D m l T := by
        intro l
        induction l with
        | nil => intro m T _; rfl
        | cons a l ih =>
          intro m T hm
          have : plus D k m = D m := by simp [plus, beq_ne (show m ≠ k by omega)]
          simp only [foldT, this]
          exact ih (m + 1) _ (by omega)
      rw [hsame l (k + 1) _ (by omega)]
      exact foldT_put r0.o.dst r0.out.v l (k + 1) T (fun j r' hj hd x hx => hf (j + 1) r' (by simpa using hj) (by omega) (by rw [show k + (j + 1) = k + 1 + j by omega]; exact hd) x hx)
    · have : plus D i k = D k := by simp [plus, beq_ne hki]
      rw [this]
      refine foldT_plus hD l (k + 1) _ r ?_ (by omega) (fun j r' hj hlt hd => hf (j + 1) r' (by simpa using hj) (by omega) (by rw [show k + (j + 1) = k + 1 + j by omega]; exact hd))
      rw [show i - k = (i - (k + 1)) + 1 by omega] at hr
      simpa using hr

theorem foldH_plus {D : Nat → Bool} {i : Nat} (hD : D i = false) : ∀ (l : List Rec) (k : Nat) (h : HF) (r : Rec), l[i - k]? = some r → k ≤ i →
    (∀ j r', l[j]? = some r' → i < k + j → D (k + j) = true → ∀ x ∈ r.out.eff, ∀ y ∈ r'.out.eff, updFree x y = true) → foldH (plus D i) k l h = app r.out.eff (foldH D k l h)
  | [], k, h, r, hr, _, _ => by simp at hr
  | r0 :: l, k, h, r, hr, hk, hf => by
    simp only [foldH]
    by_cases hki : k = i
    · subst hki
      simp only [Nat.sub_self, List.getElem?_cons_zero, Option.some.injEq] at hr
      subst hr
      have h1 : plus D k k = true := by simp [plus, beq_self]
      rw [h1, hD]
      simp only [if_true, Bool.false_eq_true, if_false]
      have hsame : ∀ (l : List Rec) (m : Nat) (h : HF), k < m → foldH (plus D k) m l h = foldH D m l h := by
        intro l
        induction l with
        | nil => intro m h _; rfl
        | cons a l ih =>
          intro m h hm
          have : plus D k m = D m := by simp [plus, beq_ne (show m ≠ k by omega)]
          simp only [foldH, this]
          exact ih (m + 1) _ (by omega)
      rw [hsame l (k + 1) _ (by omega)]
      exact foldH_app r0.out.eff l (k + 1) h (fun j r' hj hd => hf (j + 1) r' (by simpa using hj) (by omega) (by rw [show k + (j + 1) = k + 1 + j by omega]; exact hd))
    · have : plus D i k = D k := by simp [plus, beq_ne hki]
      rw [this]
      refine foldH_plus hD l (k + 1) _ r ?_ (by omega) (fun j r' hj hlt hd => hf (j + 1) r' (by simpa using hj) (by omega) (by rw [show k + (j + 1) = k + 1 + j by omega]; exact hd))
      rw [show i - k = (i - (k + 1)) + 1 by omega] at hr
      simpa using hr

end Go.Proofs.Ytgnhhnmpeklciaa.VX
