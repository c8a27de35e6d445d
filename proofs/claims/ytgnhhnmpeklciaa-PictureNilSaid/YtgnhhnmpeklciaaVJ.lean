/-
  Regions whole, code, functions: the executor's word is the model's. No condition.
-/
import Derived.Test.YtgnhhnmpeklciaaVI
namespace Go.Proofs.Ytgnhhnmpeklciaa.VX
open Go
set_option linter.unusedSimpArgs false
set_option linter.unusedVariables false

-- ---------------------------------------------------------------- what must be done ahead of an operation

def maskOf (acc : List Nat) : List Edge → Nat → Nat
  | [], s => s
  | e :: r, s => maskOf acc r (bif Region.binds .any e then Nat.lor (Nat.lor s (2 ^ e.on)) (acc.getD e.on 0) else s)

def masksGo : List Oper → List Nat → List Nat
  | [], acc => acc
  | o :: r, acc => masksGo r (acc ++ [maskOf acc o.after.toList 0])

def edgesOk : Nat → List Oper → Bool
  | _, [] => true
  | i, o :: r => (o.after.toList.all fun e => !Region.binds .any e || Nat.blt e.on i) && edgesOk (i + 1) r

theorem edgesOk_spec : ∀ {l : List Oper} {k : Nat}, edgesOk k l = true → ∀ i o, l[i]? = some o → ∀ e ∈ o.after, Region.binds .any e = true → e.on < k + i
  | [], k, _, i, o, h, _, _, _ => by simp at h
  | x :: r, k, h, i, o, hi, e, he, hb => by
    simp only [edgesOk, Bool.and_eq_true, List.all_eq_true, Bool.or_eq_true, Bool.not_eq_true'] at h
    cases i with
    | zero =>
      simp only [List.getElem?_cons_zero, Option.some.injEq] at hi
      subst hi
      rcases h.1 e (by simpa using he) with h1 | h1
      · rw [hb] at h1; cases h1
      · have := blt_tt h1; omega
    | succ i =>
      simp only [List.getElem?_cons_succ] at hi
      have := edgesOk_spec h.2 i o hi e he hb
      omega

/-- D holds all that its operations lean on. -/
def Closed (ops : Array Oper) (D : Nat → Bool) : Prop := ∀ j o, ops[j]? = some o → D j = true → ∀ e ∈ o.after, Region.binds .any e = true → D e.on = true

theorem maskOf_spec {D : Nat → Bool} {acc : List Nat} (hacc : ∀ p m, acc[p]? = some m → D p = true → ∀ k, m.testBit k = true → D k = true) : ∀ (l : List Edge) (s : Nat), (∀ k, s.testBit k = true → D k = true) →
    (∀ e ∈ l, Region.binds .any e = true → D e.on = true) → ∀ k, (maskOf acc l s).testBit k = true → D k = true
  | [], s, hs, _, k, hk => hs k hk
  | e :: r, s, hs, hl, k, hk => by
    simp only [maskOf] at hk
    refine maskOf_spec hacc r _ ?_ (fun e' he' => hl e' (by simp [he'])) k hk
    intro k hk
    cases hb : Region.binds .any e <;> rw [hb] at hk
    · exact hs k (by simpa using hk)
    · have hD := hl e (by simp) hb
      simp only [cond_true] at hk
      have hk' : ((s ||| 2 ^ e.on) ||| acc.getD e.on 0).testBit k = true := hk
      rw [Nat.testBit_or, Nat.testBit_or, Bool.or_eq_true, Bool.or_eq_true] at hk'
      rcases hk' with (h | h) | h
      · exact hs k h
      · rw [Nat.testBit_two_pow] at h
        have : e.on = k := by simpa using h
        rw [← this]; exact hD
      · cases ha : acc[e.on]? with
        | none => simp [List.getD_eq_getElem?_getD, ha] at h
        | some m => simp [List.getD_eq_getElem?_getD, ha] at h; exact hacc e.on m ha hD k h

theorem masksGo_spec {D : Nat → Bool} : ∀ (l : List Oper) (acc : List Nat), (∀ p m, acc[p]? = some m → D p = true → ∀ k, m.testBit k = true → D k = true) →
    (∀ i o, l[i]? = some o → D (acc.length + i) = true → ∀ e ∈ o.after, Region.binds .any e = true → D e.on = true) → ∀ p m, (masksGo l acc)[p]? = some m → D p = true → ∀ k, m.testBit k = true → D k = true
  | [], acc, hacc, _ => hacc
  | o :: r, acc, hacc, hl => by
    simp only [masksGo]
    refine masksGo_spec r _ ?_ ?_
    · intro p m hm hp k hk
      rcases Nat.lt_trichotomy p acc.length with h | h | h
      · rw [List.getElem?_append_left h] at hm
        exact hacc p m hm hp k hk
      · subst h
        simp only [List.getElem?_append_right (Nat.le_refl _), Nat.sub_self, List.getElem?_cons_zero, Option.some.injEq] at hm
        subst hm
        refine maskOf_spec hacc _ 0 (by simp) (fun e he hb => hl 0 o (by simp) (by simpa using hp) e (by simpa using he) hb) k hk
      · rw [List.getElem?_append_right (by omega)] at hm
        simp only [List.getElem?_cons] at hm
        rw [if_neg (by omega)] at hm
        simp at hm
    · intro i o' hi hp e he hb
      refine hl (i + 1) o' (by simpa using hi) ?_ e he hb
      rw [show acc.length + (i + 1) = (acc ++ [maskOf acc o.after.toList 0]).length + i by simp; omega]
      exact hp

def pairsRow (ops : Array Oper) (r' : Rec) (m : Nat) : Nat → List Rec → Bool
  | _, [] => true
  | i, r :: l => (Nat.testBit m i || (indepB ops r r' && indepB ops r' r)) && pairsRow ops r' m (i + 1) l

def pairsGo (ops : Array Oper) (ms : List Nat) : Nat → List Rec → List Rec → Bool
  | _, _, [] => true
  | j, done, r :: l => pairsRow ops r (ms.getD j 0) 0 done && pairsGo ops ms (j + 1) (done ++ [r]) l

/-- The order of a region's operations is nobody's matter: two that no edge orders don't see one another. -/
def orderOk (ops : Array Oper) (recs : List Rec) : Bool :=
  edgesOk 0 ops.toList && pairsGo ops (masksGo ops.toList []) 0 [] recs

theorem pairsRow_spec {ops : Array Oper} {r' : Rec} {m : Nat} : ∀ {l : List Rec} {k : Nat}, pairsRow ops r' m k l = true → ∀ i r, l[i]? = some r → m.testBit (k + i) = true ∨ (Indep ops r r' ∧ Indep ops r' r)
  | [], k, _, i, r, h => by simp at h
  | x :: l, k, h, i, r, hi => by
    simp only [pairsRow, Bool.and_eq_true, Bool.or_eq_true] at h
    cases i with
    | zero =>
      simp only [List.getElem?_cons_zero, Option.some.injEq] at hi
      subst hi
      rcases h.1 with h1 | h1
      · exact .inl h1
      · exact .inr ⟨indepB_spec h1.1, indepB_spec h1.2⟩
    | succ i =>
      simp only [List.getElem?_cons_succ] at hi
      have := pairsRow_spec h.2 i r hi
      rw [show k + (i + 1) = k + 1 + i by omega]
      exact this

theorem pairsGo_spec {ops : Array Oper} {ms : List Nat} : ∀ {l done : List Rec}, pairsGo ops ms done.length done l = true → ∀ i j r r', i < j → (done ++ l)[i]? = some r → (done ++ l)[j]? = some r' → done.length ≤ j →
    (ms.getD j 0).testBit i = true ∨ (Indep ops r r' ∧ Indep ops r' r)
  | [], done, _, i, j, r, r', hij, hi, hj, hle => by
    simp only [List.append_nil] at hj
    have := (List.getElem?_eq_some_iff.1 hj).1
    omega
  | x :: l, done, h, i, j, r, r', hij, hi, hj, hle => by
    simp only [pairsGo, Bool.and_eq_true] at h
    by_cases hjd : j = done.length
    · subst hjd
      rw [List.getElem?_append_right (Nat.le_refl _)] at hj
      simp only [Nat.sub_self, List.getElem?_cons_zero, Option.some.injEq] at hj
      subst hj
      rw [List.getElem?_append_left hij] at hi
      simpa using pairsRow_spec h.1 i r hi
    · have e : done ++ x :: l = (done ++ [x]) ++ l := by simp
      rw [e] at hi hj
      refine pairsGo_spec (done := done ++ [x]) ?_ i j r r' hij hi hj (by simp; omega)
      simpa using h.2

theorem orderOk_indep {ops : Array Oper} {recs : List Rec} (h : orderOk ops recs = true) {D : Nat → Bool} (hc : Closed ops D) {i : Nat} {r : Rec} (hr : recs[i]? = some r) (hDi : D i = false)
    (hpre : ∀ o, ops[i]? = some o → ∀ e ∈ o.after, Region.binds .any e = true → D e.on = true) :
    ∀ j r', recs[j]? = some r' → ((D j = true ∧ i < j) ∨ (D j = false ∧ j < i)) → Indep ops r r' := by
  simp only [orderOk, Bool.and_eq_true] at h
  intro j r' hj hcase
  have hspec := pairsGo_spec (done := []) (l := recs) h.2
  simp only [List.nil_append] at hspec
  have hmask : ∀ (D : Nat → Bool), Closed ops D → ∀ p m, (masksGo ops.toList [])[p]? = some m → D p = true → ∀ k, m.testBit k = true → D k = true := by
    intro D hc
    refine masksGo_spec ops.toList [] (by simp) ?_
    intro q o ho hq e he hb
    exact hc q o (by simpa using ho) (by simpa using hq) e he hb
  rcases hcase with ⟨hD, hlt⟩ | ⟨hD, hlt⟩
  · rcases hspec i j r r' hlt hr hj (Nat.zero_le _) with hb | hb
    · exfalso
      cases hm : (masksGo ops.toList [])[j]? with
      | none => simp [List.getD_eq_getElem?_getD, hm] at hb
      | some m =>
        simp [List.getD_eq_getElem?_getD, hm] at hb
        have := hmask D hc j m hm hD i hb
        rw [hDi] at this; cases this
    · exact hb.1
  · rcases hspec j i r' r hlt hj hr (Nat.zero_le _) with hb | hb
    · exfalso
      -- D with i added is closed
      have hc' : Closed ops (plus D i) := by
        intro q o ho hq e he hb'
        simp only [plus, Bool.or_eq_true] at hq ⊢
        rcases hq with hq | hq
        · exact .inl (hc q o ho hq e he hb')
        · have := beq_tt hq
          subst this
          exact .inl (hpre o ho e he hb')
      cases hm : (masksGo ops.toList [])[i]? with
      | none => simp [List.getD_eq_getElem?_getD, hm] at hb
      | some m =>
        simp [List.getD_eq_getElem?_getD, hm] at hb
        have := hmask (plus D i) hc' i m hm (by simp [plus, beq_self]) j hb
        simp only [plus, hD, Bool.false_or] at this
        have := beq_tt this
        omega
    · exact hb.2

-- ---------------------------------------------------------------- a region

def obsOf : List Rec → List Prop
  | [] => []
  | r :: l => r.out.ob ++ obsOf l

theorem obsOf_mem {recs : List Rec} (h : ∀ q ∈ obsOf recs, q) {i : Nat} {r : Rec} (hr : recs[i]? = some r) : ∀ q ∈ r.out.ob, q := by
  induction recs generalizing i with
  | nil => simp at hr
  | cons x l ih =>
    cases i with
    | zero =>
      simp only [List.getElem?_cons_zero, Option.some.injEq] at hr
      subst hr
      exact fun q hq => h q (by simp [obsOf, hq])
    | succ i =>
      simp only [List.getElem?_cons_succ] at hr
      exact ih (fun q hq => h q (by simp [obsOf, hq])) hr

theorem foldT_ext {D D' : Nat → Bool} (l : List Rec) (k : Nat) (T : Nat → Value) (h : ∀ j, j < k + l.length → D j = D' j) : foldT D k l T = foldT D' k l T := by
  funext t
  exact foldT_agree t l k T T rfl fun j r hj hne => absurd (h (k + j) (by have := (List.getElem?_eq_some_iff.1 hj).1; omega)) hne

theorem foldH_ext {D D' : Nat → Bool} (l : List Rec) (k : Nat) (H : HF) (h : ∀ j, j < k + l.length → D j = D' j) : foldH D k l H = foldH D' k l H := by
  funext i
  exact foldH_agree i l k H H rfl fun j r hj hne => absurd (h (k + j) (by have := (List.getElem?_eq_some_iff.1 hj).1; omega)) hne

theorem Inv.ext {P : Program} {N : Nat} {recs : List Rec} {T0 : Nat → Value} {H0 : HF} {μ0 : Mu} {w0 : World} {D D' : Nat → Bool} {μ : Mu} {a : Act} {w : World} (inv : Inv P N recs T0 H0 μ0 w0 D μ a w) (h : ∀ j, j < recs.length → D j = D' j) :
    Inv P N recs T0 H0 μ0 w0 D' μ a w := by
  have e1 := foldT_ext recs 0 T0 (D := D) (D' := D') (by simpa using h)
  have e2 := foldH_ext recs 0 H0 (D := D) (D' := D') (by simpa using h)
  exact ⟨inv.gl, by rw [← e1]; exact inv.tm, by rw [← e2]; exact inv.rep, inv.defers, fun j r hj hd => inv.fresh j r hj (by rw [h j (List.getElem?_eq_some_iff.1 hj).1]; exact hd), inv.le, by rw [← e2]; exact inv.keeps, inv.other⟩

/-- What a piece of code does, told of slots and blocks: from T and H, no name from n on being used, it comes to the end e with T' and H'. -/
def Runs (P : Program) (N : Nat) (c : Code) (T : Tm) (H : Heap) (n : Nat) (e : Ex) (T' : Tm) (H' : Heap) (n' : Nat) : Prop :=
  n ≤ n' ∧ ∀ (μ : Mu) (a : Act) (w : World), Gl P μ → TRel N μ (tget T) a.tmps → Rep μ (lk H) w → a.defers = [] → (∀ i, n ≤ i → μ i = none) →
    ∀ Q : Exit → Act → World → Prop, (∀ μ' a' w', μ.le μ' → (∀ i, i < n → μ' i = μ i) → (∀ i, n' ≤ i → μ' i = none) → TRel N μ' (tget T') a'.tmps → Rep μ' (lk H') w' → a'.defers = [] → Keeps μ (lk H) w μ' (lk H') w' →
      Q (match e with | .normal => .normal | .exit id => .exit id | .ret => .ret) a' w') → c.wp P Q a w

theorem cnt_set {l : Array Bool} {i : Nat} (h : l.getD i true = false) : (l.setIfInBounds i true).toList.count false + 1 = l.toList.count false := by
  have hlt : i < l.size := by
    rcases Nat.lt_or_ge i l.size with hh | hh
    · exact hh
    · rw [Array.getD_eq_getD_getElem?, Array.getElem?_eq_none hh] at h; simp at h
  have hi : l.toList[i]? = some false := by
    rw [Array.getD_eq_getD_getElem?] at h
    rw [Array.getElem?_toList]
    cases hx : l[i]? with
    | none => rw [hx] at h; simp at h
    | some b => rw [hx] at h; simp at h; rw [h]
  rw [Array.toList_setIfInBounds]
  generalize l.toList = m at hi
  clear h hlt
  induction m generalizing i with
  | nil => simp at hi
  | cons b m ih =>
    cases i with
    | zero =>
      simp only [List.getElem?_cons_zero, Option.some.injEq] at hi
      subst hi
      simp
    | succ i =>
      simp only [List.getElem?_cons_succ] at hi
      have := ih hi
      simp only [List.set_cons_succ, List.count_cons]
      omega

theorem replicate_getD (m j : Nat) : (Array.replicate m false).getD j false = false := by
  rw [Array.getD_eq_getD_getElem?]
  simp only [Array.getElem?_replicate]
  split <;> rfl

theorem region_ok {P : Program} {N : Nat} {ops : Array Oper} {id : Nat} {draw : Bool} {T T' : Tm} {H H' : Heap} {n n' : Nat} {hs hs' : List Hint} {recs : List Rec} (hG : P.globals.size ≤ 1000) (hM : P.follows .mixedOrders = true)
    (hx : xreg P N ops ops.toList T H n hs = some (recs, T', H', n', hs')) (hord : draw = true → orderOk ops recs = true) (hob : ∀ q ∈ obsOf recs, q) : Runs P N (.region id ops draw) T H n .normal T' H' n' := by
  obtain ⟨h1, h2, h3, h4, h5⟩ := xreg_spec hx
  refine ⟨h2, ?_⟩
  intro μ a w hg ht hr hdf hfr Q hQ
  obtain ⟨eT', eH', hrecs⟩ := h5 0
  have hlen : recs.length = ops.size := by rw [← List.length_map (f := (·.o)), h1]; simp
  have hops : ∀ (i : Nat) (r : Rec), recs[i]? = some r → ops[i]? = some r.o := by
    intro i r hr
    have : (recs.map (·.o))[i]? = some r.o := by simp [hr]
    rw [h1] at this
    simpa using this
  have hT0 : foldT (fun _ => false) 0 recs (tget T) = tget T := by
    have : ∀ (l : List Rec) (k : Nat) (T : Nat → Value), foldT (fun _ => false) k l T = T := by
      intro l; induction l with
      | nil => intro k T; rfl
      | cons a l ih => intro k T; simp [foldT, ih]
    exact this _ _ _
  have hH0 : foldH (fun _ => false) 0 recs (lk H) = lk H := by
    have : ∀ (l : List Rec) (k : Nat) (h : HF), foldH (fun _ => false) k l h = h := by
      intro l; induction l with
      | nil => intro k T; rfl
      | cons a l ih => intro k T; simp [foldH, ih]
    exact this _ _ _
  -- the beginning
  have start : ∀ w1 : World, w1.heap = w.heap → w1.os = w.os → w1.tape = w.tape → w1.output = w.output → Inv P N recs (tget T) (lk H) μ w (fun _ => false) μ a w1 := by
    intro w1 e1 e2 e3 e4
    refine ⟨hg, by rw [hT0]; exact ht, by rw [hH0]; exact hr.heap_eq e1, hdf, ?_, Mu.le_refl μ, ?_, fun _ _ => rfl⟩
    · intro j r hj _ i hi
      exact hfr i (h3 r (List.mem_of_getElem? hj) i hi).1
    · rw [hH0]
      exact ⟨e2, e3, e4, by rw [e1]; exact Nat.le_refl _, fun b _ _ => by rw [e1], fun i B b e m _ => ⟨i, B, e, m, fun h => h⟩, fun _ _ => rfl, fun _ _ h => h, fun _ _ h => .inl h⟩
  -- the end
  have finish : ∀ (D : Nat → Bool) (μ' : Mu) (a' : Act) (w' : World), (∀ j, j < recs.length → D j = true) → Inv P N recs (tget T) (lk H) μ w D μ' a' w' → Q .normal a' w' := by
    intro D μ' a' w' hD inv
    have inv := inv.ext (D' := fun _ => true) hD
    refine hQ μ' a' w' inv.le ?_ ?_ (by rw [eT']; exact inv.tm) (by rw [eH']; exact inv.rep) inv.defers (by rw [eH']; exact inv.keeps)
    · intro i hi
      exact inv.other i fun r hr hin => by have := (h3 r hr i hin).1; omega
    · intro i hi
      rw [inv.other i fun r hr hin => by have := (h3 r hr i hin).2; omega]
      exact hfr i (by omega)
  cases draw with
  | false =>
    refine wp_region ?_
    -- in the text's order
    have go : ∀ (m k : Nat), k + m = ops.size → ∀ (μ' : Mu) (a' : Act) (w' : World), Inv P N recs (tget T) (lk H) μ w (fun j => Nat.blt j k) μ' a' w' → wpOps P ops Q (List.range' k m) a' w' := by
      intro m
      induction m with
      | zero =>
        intro k hk μ' a' w' inv
        exact finish _ μ' a' w' (fun j hj => Nat.ble_eq_true_of_le (by omega)) inv
      | succ m ih =>
        intro k hk μ' a' w' inv
        rw [List.range'_succ, wpOps_cons]
        have hkl : k < recs.length := by omega
        have hr : recs[k]? = some recs[k] := by simp [hkl]
        obtain ⟨Ti, Hi, e1, e2, e3⟩ := hrecs k _ hr
        have hself : Nat.blt k k = false := by
          cases e : Nat.blt k k with
          | false => rfl
          | true => have := blt_tt e; omega
        refine inv.step hG hr (hops k _ hr) hself (by simpa using e1) (by simpa using e2) e3 (obsOf_mem hob hr) h4 ?_ ?_
        · intro j r' hj hc
          rcases hc with ⟨hc, hlt⟩ | ⟨hc, hlt⟩
          · have := blt_tt hc; omega
          · have := blt_ff hc; omega
        · intro μ2 a2 w2 inv2
          refine ih (k + 1) (by omega) μ2 a2 w2 (inv2.ext fun j hj => ?_)
          simp only [plus]
          cases e : Nat.blt j k with
          | true =>
            have := blt_tt e
            simp only [Bool.true_or]
            exact (Nat.ble_eq_true_of_le (by omega) : Nat.blt j (k + 1) = true).symm
          | false =>
            have := blt_ff e
            simp only [Bool.false_or]
            by_cases hjk : j = k
            · subst hjk; rw [beq_self]; exact (Nat.ble_eq_true_of_le (by omega) : Nat.blt j (j + 1) = true).symm
            · rw [beq_ne hjk]
              cases e2 : Nat.blt j (k + 1) with
              | false => rfl
              | true => have := blt_tt e2; omega
    have := go ops.size 0 (by omega) μ a w ((start w rfl rfl rfl rfl).ext fun j hj => by
      cases e : Nat.blt j 0 with
      | false => rfl
      | true => have := blt_tt e; omega)
    rw [← List.range_eq_range'] at this
    exact this
  | true =>
    refine wp_region_any hM ?_
    have hO := hord rfl
    have hedges : edgesOk 0 ops.toList = true := by
      simp only [orderOk, Bool.and_eq_true] at hO
      exact hO.1
    have hedge := edgesOk_spec hedges
    have go : ∀ (fuel : Nat) (listed : Array Bool) (μ' : Mu) (a' : Act) (w' : World), listed.size = ops.size → listed.toList.count false ≤ fuel → Closed ops (fun j => listed.getD j false) →
        Inv P N recs (tget T) (lk H) μ w (fun j => listed.getD j false) μ' a' w' → wpAny P .any ops Q fuel listed a' w' := by
      intro fuel
      -- when nothing is ready, all is done
      have done : ∀ (listed : Array Bool) (μ' : Mu) (a' : Act) (w' : World), listed.size = ops.size → Region.ready .any ops listed = [] → Inv P N recs (tget T) (lk H) μ w (fun j => listed.getD j false) μ' a' w' → Q .normal a' w' := by
        intro listed μ' a' w' hsz hready inv
        refine finish _ μ' a' w' ?_ inv
        intro j hj
        induction j using Nat.strongRecOn with
        | _ j ih =>
          cases hc : listed.getD j false with
          | true => rfl
          | false =>
            exfalso
            have hjs : j < listed.size := by omega
            have hj2 : listed.getD j true = false := by
              rw [Array.getD_eq_getD_getElem?] at hc ⊢
              simp [hjs] at hc ⊢; exact hc
            have hm : j ∈ Region.ready .any ops listed := by
              rw [mem_ready]
              refine ⟨hj2, ops[j]'(by omega), by simp [show j < ops.size by omega], ?_⟩
              intro e he hb
              have hlt := hedge j _ (by simp [show j < ops.size by omega]) e he hb
              exact ih e.on (by omega) (by omega)
            rw [hready] at hm
            simp at hm
      induction fuel with
      | zero =>
        intro listed μ' a' w' hsz hcnt hcl inv
        have hready : Region.ready .any ops listed = [] := by
          cases hrd : Region.ready .any ops listed with
          | nil => rfl
          | cons i l =>
            have hm : i ∈ Region.ready .any ops listed := by rw [hrd]; simp
            have := cnt_set (mem_ready.1 hm).1
            omega
        exact ⟨hready, done listed μ' a' w' hsz hready inv⟩
      | succ fuel ih =>
        intro listed μ' a' w' hsz hcnt hcl inv
        refine ⟨fun hready => done listed μ' a' w' hsz hready inv, ?_⟩
        intro i hi
        obtain ⟨hi1, o, ho, hpre⟩ := mem_ready.1 hi
        have hil : i < recs.length := by rw [hlen]; exact (Array.getElem?_eq_some_iff.1 ho).1
        have hr : recs[i]? = some recs[i] := by simp [hil]
        have hDi : listed.getD i false = false := by
          rw [Array.getD_eq_getD_getElem?] at hi1 ⊢
          simp [show i < listed.size by omega] at hi1 ⊢; exact hi1
        obtain ⟨Ti, Hi, e1, e2, e3⟩ := hrecs i _ hr
        refine inv.step hG hr (hops i _ hr) hDi (by simpa using e1) (by simpa using e2) e3 (obsOf_mem hob hr) h4 ?_ ?_
        · refine orderOk_indep hO hcl hr hDi ?_
          intro o' ho' e he hb
          rw [ho] at ho'
          obtain rfl : o = o' := by simpa using ho'
          exact hpre e he hb
        · intro μ2 a2 w2 inv2
          have hset : ∀ j, (listed.setIfInBounds i true).getD j false = plus (fun j => listed.getD j false) i j := by
            intro j
            simp only [plus]
            by_cases hji : j = i
            · subst hji
              rw [beq_self, Bool.or_true, Array.getD_eq_getD_getElem?]
              simp [show j < listed.size by omega]
            · rw [beq_ne hji, Bool.or_false, Array.getD_eq_getD_getElem?, Array.getD_eq_getD_getElem?, Array.getElem?_setIfInBounds_ne (fun h => hji h.symm)]
          refine ih _ μ2 a2 w2 (by simpa using hsz) ?_ ?_ (inv2.ext fun j _ => (hset j).symm)
          · have := cnt_set hi1; omega
          · intro j o' ho' hj e he hb
            show (listed.setIfInBounds i true).getD e.on false = true
            have hj : (listed.setIfInBounds i true).getD j false = true := hj
            rw [hset] at hj ⊢
            simp only [plus, Bool.or_eq_true] at hj ⊢
            rcases hj with hj | hj
            · exact .inl (hcl j o' ho' hj e he hb)
            · have := beq_tt hj
              subst this
              rw [ho] at ho'
              obtain rfl : o = o' := by simpa using ho'
              exact .inl (hpre e he hb)
    refine go ops.size _ μ a _ (by simp) ?_ ?_ ((start { w with drawn := w.drawn + 1 } rfl rfl rfl rfl).ext ?_)
    · simp
    · intro j o ho hj
      have hj : (Array.replicate ops.size false).getD j false = true := hj
      rw [replicate_getD] at hj
      cases hj
    · intro j _
      exact (replicate_getD _ _).symm

end Go.Proofs.Ytgnhhnmpeklciaa.VX
