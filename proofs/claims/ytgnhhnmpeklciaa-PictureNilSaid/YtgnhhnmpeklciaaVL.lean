/-
  Pieces of code by the executor; loops by a step function. No condition.
-/
import Derived.Test.YtgnhhnmpeklciaaVK
namespace Go.Proofs.Ytgnhhnmpeklciaa.VX
open Go
set_option linter.unusedSimpArgs false
set_option linter.unusedVariables false

theorem belowVs {n d : Nat} {μ μ' : Mu} (ih : ∀ v r, xrun2.belowV n d v = true → VRel μ v r → VRel μ' v r) : ∀ {l m : List Value}, l.all (xrun2.belowV n d) = true → VRels μ l m → VRels μ' l m
  | [], [], _, _ => .nil
  | x :: l, y :: m, h, hv => by
    simp only [List.all_cons, Bool.and_eq_true] at h
    cases hv with
    | cons a b => exact .cons (ih x y h.1 a) (belowVs ih h.2 b)
  | [], _ :: _, _, hv => nomatch hv
  | _ :: _, [], _, hv => nomatch hv

theorem belowV_rel {n : Nat} {μ μ' : Mu} (hμ : ∀ i b, i < n → μ i = some b → μ' i = some b) (hs' : ∀ b, μ'.sz b = μ.sz b) (hf' : ∀ b cs, μ.fz b = some cs → μ'.fz b = some cs) : ∀ (d : Nat) (v r : Value), xrun2.belowV n d v = true → VRel μ v r → VRel μ' v r := by
  intro d
  induction d with
  | zero =>
    intro v r hb h
    cases h with
    | ptr e off => exact .ptr (hμ _ _ (blt_tt (by simpa [xrun2.belowV] using hb)) e) _
    | ptrS e s off => exact .ptrS (hμ _ _ (blt_tt (by simpa [xrun2.belowV] using hb)) e) _ _
    | slice e off l c c' hc hz => exact .slice (hμ _ _ (blt_tt (by simpa [xrun2.belowV] using hb)) e) _ _ _ _ hc (by rw [hs']; exact hz)
    | lst z l f hs hr k => exact .lst z l f hs hr fun e => (k e).fmono hf'
    | fptr l hs hf k => exact .fptr l hs (hf' _ _ hf) k
    | emp a c => exact .emp a c
    | sliceS e s off l c c' hc hz => exact .sliceS (hμ _ _ (blt_tt (by simpa [xrun2.belowV] using hb)) e) _ _ _ _ _ hc (by rw [hs']; exact hz)
    | sliceE i s off c a c' hz => exact .sliceE _ _ _ _ _ _ hz
    | junk r => exact .junk _
    | und => exact .und
    | bool b => exact .bool b
    | int k n => exact .int k n
    | float k n => exact .float k n
    | string s => exact .string s
    | ptrNil => exact .ptrNil
    | sliceNil => exact .sliceNil
    | mapNil => exact .mapNil
    | nilFunc => exact .nilFunc
    | nilIface => exact .nilIface
    | func fn a b => simp [xrun2.belowV] at hb
    | iface t a => simp [xrun2.belowV] at hb
    | agg a => simp [xrun2.belowV] at hb
    | tup a => simp [xrun2.belowV] at hb
  | succ d ih =>
    intro v r hb h
    cases h with
    | ptr e off => exact .ptr (hμ _ _ (blt_tt (by simpa [xrun2.belowV] using hb)) e) _
    | ptrS e s off => exact .ptrS (hμ _ _ (blt_tt (by simpa [xrun2.belowV] using hb)) e) _ _
    | slice e off l c c' hc hz => exact .slice (hμ _ _ (blt_tt (by simpa [xrun2.belowV] using hb)) e) _ _ _ _ hc (by rw [hs']; exact hz)
    | lst z l f hs hr k => exact .lst z l f hs hr fun e => (k e).fmono hf'
    | fptr l hs hf k => exact .fptr l hs (hf' _ _ hf) k
    | emp a c => exact .emp a c
    | sliceS e s off l c c' hc hz => exact .sliceS (hμ _ _ (blt_tt (by simpa [xrun2.belowV] using hb)) e) _ _ _ _ _ hc (by rw [hs']; exact hz)
    | sliceE i s off c a c' hz => exact .sliceE _ _ _ _ _ _ hz
    | junk r => exact .junk _
    | und => exact .und
    | bool b => exact .bool b
    | int k n => exact .int k n
    | float k n => exact .float k n
    | string s => exact .string s
    | ptrNil => exact .ptrNil
    | sliceNil => exact .sliceNil
    | mapNil => exact .mapNil
    | nilFunc => exact .nilFunc
    | nilIface => exact .nilIface
    | func fn a b =>
      simp only [xrun2.belowV, Bool.and_eq_true] at hb
      exact .func fn (belowVs ih hb.1 a) (belowVs ih hb.2 b)
    | iface t a => exact .iface t (ih _ _ (by simpa [xrun2.belowV] using hb) a)
    | agg a => exact .agg (belowVs ih (by simpa [xrun2.belowV] using hb) a)
    | tup a => exact .tup (belowVs ih (by simpa [xrun2.belowV] using hb) a)

theorem scalar_below {n : Nat} {v : Value} (h : scalar v = true) : xrun2.belowV n 6 v = true := by
  cases v with
  | pointer a => cases a <;> simp_all [scalar, xrun2.belowV]
  | slice a l c => cases a <;> simp_all [scalar, xrun2.belowV]
  | map a => cases a <;> simp_all [scalar, xrun2.belowV]
  | func a b c => simp [scalar] at h
  | iface a b => simp [scalar] at h
  | agg a => simp [scalar] at h
  | tuple a => simp [scalar] at h
  | _ => simp_all [scalar, xrun2.belowV]

theorem rowsS_skip : ∀ {l : List Seg} {k : Prop}, rowsS l k → k
  | [], _, h => h
  | s :: r, k, h => by
    cases s with
    | rows m z g => exact rowsS_skip (l := r) h.2
    | one x => exact rowsS_skip (l := r) h
    | ints a b c => exact rowsS_skip (l := r) h
    | bools a b => exact rowsS_skip (l := r) h
    | gap m => exact rowsS_skip (l := r) h

theorem rowsP_lk : ∀ {H : Heap}, rowsP H → ∀ i B, lk H i = some B → rowsS B.segs True
  | [], _, i, B, h => by simp [lk] at h
  | (j, C) :: r, hb, i, B, h => by
    have tr : ∀ {l : List Seg} {k : Prop}, rowsS l k → rowsS l True := by
      intro l
      induction l with
      | nil => intro k _; trivial
      | cons s r ih =>
        intro k h
        cases s with
        | rows m z g => exact ⟨h.1, ih h.2⟩
        | one x => exact ih (k := k) h
        | ints a b c => exact ih (k := k) h
        | bools a b => exact ih (k := k) h
        | gap m => exact ih (k := k) h
    simp only [rowsP] at hb
    simp only [lk] at h
    cases e : Nat.beq i j <;> rw [e] at h
    · exact rowsP_lk (rowsS_skip hb) i B (by simpa using h)
    · simp at h; subst h; exact tr hb

theorem rowsS_tail {s : Seg} {r : List Seg} {k : Prop} (h : rowsS (s :: r) k) : rowsS r k := by
  cases s with
  | rows m z g => exact h.2
  | one x => exact h
  | ints a b c => exact h
  | bools a b => exact h
  | gap m => exact h

theorem belowS_get {n : Nat} : ∀ {l : List Seg} {o : Nat} {v : Value}, xrun2.belowS n l = true → rowsS l True → segsGet? l o = some v → xrun2.belowV n 6 v = true
  | [], o, v, _, _, h => by simp [segsGet?] at h
  | s :: r, o, v, hb, hw, h => by
    simp only [segsGet?] at h
    cases e : Nat.blt o s.size <;> rw [e] at h
    · refine belowS_get (l := r) ?_ (rowsS_tail hw) (by simpa using h)
      cases s <;> simp_all [xrun2.belowS]
    · simp only [cond_true] at h
      cases s with
      | one x =>
        simp only [xrun2.belowS, Bool.and_eq_true] at hb
        simp only [Seg.get?] at h
        cases e2 : Nat.beq o 0 <;> rw [e2] at h <;> simp at h
        subst h; exact hb.1
      | ints k m a =>
        simp only [Seg.get?] at h
        cases e2 : Nat.blt o m <;> rw [e2] at h <;> simp at h
        subst h; rfl
      | bools m a =>
        simp only [Seg.get?] at h
        cases e2 : Nat.blt o m <;> rw [e2] at h <;> simp at h
        subst h; rfl
      | rows m sz g =>
        simp only [Seg.get?] at h
        cases e2 : Nat.blt o (m * sz) <;> rw [e2] at h <;> simp at h
        exact scalar_below (List.all_eq_true.1 (hw.1 _) v (List.mem_of_getElem? h))
      | gap m => simp [Seg.get?] at h

theorem below_lk {n : Nat} : ∀ {H : Heap}, xrun2.below n H = true → ∀ i B, lk H i = some B → i < n ∧ xrun2.belowS n B.segs = true
  | [], _, i, B, h => by simp [lk] at h
  | (j, C) :: r, hb, i, B, h => by
    simp only [xrun2.below, Bool.and_eq_true] at hb
    simp only [lk] at h
    cases e : Nat.beq i j <;> rw [e] at h
    · exact below_lk hb.2 i B (by simpa using h)
    · simp at h; subst h; rw [beq_tt e]; exact ⟨blt_tt hb.1.1, hb.1.2⟩

theorem belowT_get {n : Nat} : ∀ {T : Tm}, xrun2.belowT n T = true → ∀ t, xrun2.belowV n 6 (tget T t) = true
  | [], _, t => rfl
  | (d, v) :: r, hb, t => by
    simp only [xrun2.belowT, Bool.and_eq_true] at hb
    simp only [tget]
    cases e : Nat.beq t d
    · simpa using belowT_get hb.2 t
    · simpa using hb.1

theorem tmP_get {T : Tm} : ∀ {live : Tm}, xrun2.tmP T live → ∀ t, tget live t = tget T t ∨ tget live t = .tuple ⟨[]⟩
  | [], _, t => .inr rfl
  | (d, v) :: r, h, t => by
    simp only [tget]
    cases e : Nat.beq t d
    · simpa using tmP_get h.2 t
    · rw [beq_tt e]; exact .inl (by simpa using h.1.symm)

theorem Runs.weaken {P : Program} {N : Nat} {c : Code} {T T1 live : Tm} {H H1 H' : Heap} {n n1 n' : Nat} {e : Ex} (a : Runs P N c T H n e T1 H1 n1) (hT : xrun2.tmP T1 live) (hH : subP (lk H1) H') (hF : xrun2.freshP n' n n1 H' live) (hW : rowsP H') :
    Runs P N c T H n e live H' n' := by
  simp only [xrun2.freshP, Bool.and_eq_true, Bool.or_eq_true] at hF
  obtain ⟨hn, hF⟩ := hF
  have hn := ble_tt hn
  have hsub := subP_spec hH
  refine .intro hn fun μ ac w hg ht hr hd hf Q hQ => ?_
  refine a.elim hg ht hr hd hf ?_
  intro μ1 a1 w1 hle1 hsame1 hf1 ht1 hr1 hd1 hk1
  have htm : TRel N μ1 (tget live) a1.tmps := by
    refine ⟨ht1.1, fun t => ?_⟩
    rcases tmP_get hT t with h | h <;> rw [h]
    · exact ht1.2 t
    · exact .junk _
  rcases hF with h | ⟨hb, hbt⟩
  · have h := ble_tt h
    exact hQ μ1 a1 w1 hle1 hsame1 (fun i hi => hf1 i (by omega)) htm (hr1.sub hsub) hd1 (hk1.sub hsub)
  · let μ2 : Mu := ⟨fun i => if i < n' then μ1 i else none, μ1.sz, μ1.fz⟩
    have h2 : ∀ i b, i < n' → μ1 i = some b → μ2 i = some b := fun i b hi hb => by simp only [μ2, if_pos hi, hb]
    have h3 : ∀ i b, μ2 i = some b → i < n' ∧ μ1 i = some b := by
      intro i b hb
      simp only [μ2] at hb
      split at hb
      · exact ⟨‹_›, hb⟩
      · cases hb
    have hbl := below_lk hb
    refine hQ μ2 a1 w1 ⟨?_, hle1.szs, hle1.fzs⟩ ?_ ?_ ?_ ?_ hd1 ?_
    · intro i b hi
      have hin : i < n := by
        rcases Nat.lt_or_ge i n with h | h
        · exact h
        · rw [hf i h] at hi; cases hi
      exact h2 i b (by omega) (hle1 i b hi)
    · intro i hi
      simp only [μ2, if_pos (show i < n' by omega)]
      exact hsame1 i hi
    · intro i hi
      simp only [μ2, if_neg (show ¬ i < n' by omega)]
    · exact ⟨htm.1, fun t => belowV_rel h2 (fun _ => rfl) (fun _ _ h => h) 6 _ _ (belowT_get hbt t) (htm.2 t)⟩
    · have r' := hr1.sub hsub
      refine ⟨?_, ?_, ?_, fun i B b hB hro hi => r'.size i B b hB hro (h3 i b hi).2, r'.frz, fun i B b hB hro hi => r'.nofz i B b hB hro (h3 i b hi).2⟩
      · intro i B hB hne
        obtain ⟨hi, hs⟩ := hbl i B hB
        obtain ⟨b, hb', cs, t, fr, e1, e2, e3⟩ := r'.blk i B hB (by simp only [μ2, if_pos hi] at hne; exact hne)
        exact ⟨b, h2 i b hi hb', cs, t, fr, e1, e2, fun off v hv => let ⟨x, hx, hvx⟩ := e3 off v hv; ⟨x, hx, belowV_rel h2 (fun _ => rfl) (fun _ _ h => h) 6 _ _ (belowS_get hs (rowsP_lk hW i B hB) hv) hvx⟩⟩
      · intro i j A B b hA hB hi hj hne
        exact r'.apart i j A B b hA hB (h3 i b hi).2 (h3 j b hj).2 hne
      · intro i b hi
        exact r'.bound i b (h3 i b hi).2
    · have k' := hk1.sub hsub
      exact { k' with old := fun i B b e m hb => k'.old i B b e (h3 i b m).2 hb }

def tmT : Tm → Prop
  | [] => True
  | (_, v) :: r => v = v ∧ tmT r

theorem tmT_all : ∀ l : Tm, tmT l
  | [] => trivial
  | (_, _) :: r => ⟨rfl, tmT_all r⟩

def rowsTS : List Seg → Prop → Prop
  | [], k => k
  | .rows _ _ _ :: r, k => (∀ _ : Nat, true = true) ∧ rowsTS r k
  | _ :: r, k => rowsTS r k
def rowsT : Heap → Prop
  | [] => True
  | (_, B) :: r => rowsTS B.segs (rowsT r)

theorem rowsTS_all : ∀ (l : List Seg) (k : Prop), k → rowsTS l k
  | [], _, h => h
  | s :: r, k, h => by
    cases s with
    | rows m z g => exact ⟨fun _ => rfl, rowsTS_all r k h⟩
    | one x => exact rowsTS_all r k h
    | ints a b c => exact rowsTS_all r k h
    | bools a b => exact rowsTS_all r k h
    | gap m => exact rowsTS_all r k h
theorem rowsT_all : ∀ H : Heap, rowsT H
  | [] => trivial
  | (_, B) :: r => rowsTS_all B.segs _ (rowsT_all r)

/-- A piece of code, out of the executor's run. -/
theorem runs_of_x {P : Program} (hG : P.globals.size ≤ 1000) (hM : P.follows .mixedOrders = true) {N : Nat} {c : Code} (fuel : Nat) (hs : List Hint) {T : Tm} {H : Heap} {n : Nat} {e : Ex} {live : Tm} {H' : Heap} {n' : Nat} {O : Prop} (o : O)
    (h : (O ∧ (e = e ∧ (tmT live ∧ (subT H' ∧ (true = true ∧ rowsT H'))))) = xrun2 P N c fuel T H n hs e live H' n') : Runs P N c T H n e live H' n' := by
  have h2 : xrun2 P N c fuel T H n hs e live H' n' := h ▸ ⟨o, rfl, tmT_all live, subT_all H', rfl, rowsT_all H'⟩
  unfold xrun2 at h2
  split at h2
  · rename_i e' s hx
    obtain ⟨ho, rfl, ht, hh, hf, hw⟩ := h2
    exact ((xcode_ok hG hM fuel c _ s e' hx).2 (allP_spec ho)).1.weaken ht hh hf hw
  · exact h2.elim

-- ---------------------------------------------------------------- loops

/-- A step again and again, at most m times, till it comes to something. -/
def iter {S R : Type} (step : S → S ⊕ R) : Nat → S → Option R
  | 0, _ => none
  | m + 1, s => match step s with
    | .inl s' => iter step m s'
    | .inr r => some r

theorem block_iter {P : Program} {N id n : Nat} {body : Code} {S R : Type} (step : S → S ⊕ R) (T0 : S → Tm) (H0 : S → Heap) (ex : R → Ex) (T1 : R → Tm) (H1 : R → Heap) (hex : ∀ r, ex r ≠ .normal)
    (hgo : ∀ s s', step s = .inl s' → Runs P N body (T0 s) (H0 s) n .normal (T0 s') (H0 s') n) (hout : ∀ s r, step s = .inr r → Runs P N body (T0 s) (H0 s) n (ex r) (T1 r) (H1 r) n)
    (m : Nat) (s : S) (r : R) (h : iter step m s = some r) : Runs P N (.block id (.loop body)) (T0 s) (H0 s) n (outOf id (ex r)) (T1 r) (H1 r) n := by
  have key : ∀ (m : Nat) (s : S), iter step m s = some r → ∃ k, LRuns P N body k (T0 s) (H0 s) n (ex r) (T1 r) (H1 r) n := by
    intro m
    induction m with
    | zero => intro s h; simp [iter] at h
    | succ m ih =>
      intro s h
      simp only [iter] at h
      cases hs : step s with
      | inl s' =>
        simp only [hs] at h
        obtain ⟨k, hk⟩ := ih s' h
        exact ⟨k + 1, LRuns.more (hgo s s' hs) hk⟩
      | inr r' =>
        simp only [hs, Option.some.injEq] at h
        subst h
        exact ⟨1, LRuns.last (hex _) (hout s _ hs) 0⟩
  obtain ⟨k, hk⟩ := key m s h
  exact Runs.block (id := id) hk.loop

/-- A place in a function's code. -/
def subCode : Code → List Nat → Code
  | c, [] => c
  | .seq a _, 0 :: r => subCode a r
  | .seq _ b, _ :: r => subCode b r
  | .cond _ a _, 0 :: r => subCode a r
  | .cond _ _ b, _ :: r => subCode b r
  | .block _ a, _ :: r => subCode a r
  | .loop a, _ :: r => subCode a r
  | c, _ => c

def bodyOf (f : Func) (p : List Nat) : Code := match f.body with
  | some c => subCode c p
  | none => .skip

end Go.Proofs.Ytgnhhnmpeklciaa.VX
