/-
  A region in whatever order its edges allow. No condition.
-/
import Derived.Test.YtgnhhnmpeklciaaVH
namespace Go.Proofs.Ytgnhhnmpeklciaa.VX
open Go
set_option linter.unusedSimpArgs false
set_option linter.unusedVariables false

-- ---------------------------------------------------------------- new names lie in their own stretch

theorem newOk_lt : ∀ {τ σ : List (Nat × Nat)} {n0 n : Nat}, newOk τ σ n0 n = true → ∀ i ∈ τ.map (·.2), n ≤ i ∧ i < n + τ.length
  | [], σ, n0, n, _, i, hm => by simp at hm
  | (j, k) :: r, σ, n0, n, h, i, hm => by
    simp only [newOk, Bool.and_eq_true] at h
    simp only [List.map_cons, List.mem_cons] at hm
    simp only [List.length_cons]
    rcases hm with rfl | hm
    · have := beq_tt h.1.1.1
      omega
    · have := newOk_lt h.2 i hm
      omega

theorem xcall_new {P : Program} {H : HF} {n : Nat} {g : FuncId} {args : List Value} {hs : List Hint} {out : Out} (h : xcall P H n g args hs = some out) : n ≤ out.n ∧ ∀ i ∈ out.new, n ≤ i ∧ i < out.n := by
  unfold xcall at h
  split at h
  · rename_i σ τ n0 v post hs'
    cases hsub : subHeap H σ σ with
    | none => simp [hsub] at h
    | some h0 =>
    simp only [hsub] at h
    cases hpe : postEff (renBack σ τ) post with
    | none => simp [hpe] at h
    | some e =>
    simp only [hpe] at h
    cases hc : (swapOk σ n0 && newOk τ σ n0 n && (nodupIds post && postHas post τ τ) && Nat.ble 1000 n0) <;> rw [hc] at h
    · simp at h
    simp only [cond_true, Option.some.injEq] at h
    subst h
    simp only [Bool.and_eq_true] at hc
    exact ⟨by simp, newOk_lt hc.1.1.2⟩
  · simp at h

theorem xcallA_new {P : Program} {H : HF} {n : Nat} {g : FuncId} {args : List Value} {hs : List Hint} {out : Out} (h : xcallA P H n g args hs = some out) : n ≤ out.n ∧ ∀ i ∈ out.new, n ≤ i ∧ i < out.n := by
  unfold xcallA at h
  split at h
  · split at h
    · rename_i out' hx
      cases hc : lendOk _ out'.eff <;> rw [hc] at h
      · simp at h
      · simp at h; subst h; exact xcall_new hx
    · simp at h
  · simp only [Option.some.injEq] at h; subst h; exact ⟨Nat.le_refl _, by simp⟩
  · exact xcall_new h

theorem xop0_new {P : Program} {ρ : Operand → Value} {H : HF} {n : Nat} {hs : List Hint} {o : Oper} {out : Out} (h : xop0 P ρ H n hs o = some out) : n ≤ out.n ∧ ∀ i ∈ out.new, n ≤ i ∧ i < out.n := by
  have hsil : ∀ v hs ob, VX.silent v n hs ob = out → n ≤ out.n ∧ ∀ i ∈ out.new, n ≤ i ∧ i < out.n := by
    intro v hs ob he; subst he; exact ⟨Nat.le_refl _, by simp [VX.silent]⟩
  have hnew : ∀ B v hs ob, VX.newBlk n B v hs ob = out → n ≤ out.n ∧ ∀ i ∈ out.new, n ≤ i ∧ i < out.n := by
    intro B v hs ob he; subst he; exact ⟨by simp [VX.newBlk], by simp [VX.newBlk]⟩
  unfold xop0 at h
  split at h
  case h_20 =>
    split at h
    · split at h
      · exact xcallA_new h
      · simp at h
    · repeat' split at h
      all_goals first | (simp at h; done) | (simp only [Option.some.injEq] at h; exact hsil _ _ _ h)
    · simp at h
  case h_6 =>
    split at h
    · simp only [Option.some.injEq] at h; subst h; exact ⟨Nat.le_refl _, by simp⟩
    · simp at h
  case h_7 =>
    split at h
    · simp only [Option.some.injEq] at h; subst h; exact ⟨Nat.le_refl _, by simp⟩
    · simp only [Option.some.injEq] at h; subst h; exact ⟨Nat.le_refl _, by simp⟩
    · simp at h
  case h_4 =>
    split at h
    · split at h
      · cases hf : flat _ <;> rw [hf] at h
        · simp at h
        · simp only [cond_true] at h
          split at h
          · cases hm : matchSegs _ _ <;> rw [hm] at h
            · simp at h
            · simp only [cond_true, Option.some.injEq] at h; exact hnew _ _ _ _ h
          · simp only [Option.some.injEq] at h; exact hnew _ _ _ _ h
      · simp at h
    · simp at h
  case h_5 x _ =>
    cases hst : (ρ x).cells.toList.all storable <;> rw [hst] at h
    · simp at h
    · simp only [cond_true] at h
      split at h
      · rename_i g hs'
        cases hgr : groupSegs g (ρ x).cells.toList with
        | none => simp [hgr] at h
        | some l => simp only [hgr, Option.map_some, Option.some.injEq] at h; exact hnew _ _ _ _ h
      · rename_i l hs'
        cases hm : matchSegs l (ρ x).cells.toList <;> rw [hm] at h
        · simp at h
        · simp only [cond_true, Option.some.injEq] at h; exact hnew _ _ _ _ h
      · simp only [Option.some.injEq] at h; exact hnew _ _ _ _ h
  case h_18 t len parts ho =>
    split at h
    · split at h
      · rename_i inf hi
        split at h
        · rename_i z hz
          cases hc : (flat z && Nat.beq z.cells.toList.length inf.size && Nat.ble 1 inf.size && Nat.ble ((len + 1) * inf.size) 16777216) <;> rw [hc] at h
          · simp at h
          · simp only [cond_true] at h
            cases hl : layAll (fun i => some (i * inf.size, inf.size)) (parts.toList.map fun p => (p.1, ρ p.2)) (repeatCells z.cells.toList (len + 1)) with
            | none => simp [hl] at h
            | some l =>
              simp only [hl, Option.map_some, Option.some.injEq] at h
              split at h <;> exact hnew _ _ _ _ h
        · simp at h
      · simp at h
    · simp at h
  case h_17 t parts ho =>
    split at h
    · rename_i inf fields hi hu
      split at h
      · rename_i z pl hz hpl
        cases hf : flat z <;> rw [hf] at h
        · simp at h
        · simp only [cond_true] at h
          cases hl : layAll (fun i => pl[i]?) (parts.toList.map fun p => (p.1, ρ p.2)) z.cells.toList with
          | none => simp [hl] at h
          | some l => simp only [hl, Option.map_some, Option.some.injEq] at h; exact hsil _ _ _ h
      · simp at h
    · rename_i inf m e hi hu
      split at h
      · rename_i z sz hz hsz
        cases hf : flat z <;> rw [hf] at h
        · simp at h
        · simp only [cond_true] at h
          cases hl : layAll (fun i => some (i * sz, sz)) (parts.toList.map fun p => (p.1, ρ p.2)) z.cells.toList with
          | none => simp [hl] at h
          | some l => simp only [hl, Option.map_some, Option.some.injEq] at h; exact hsil _ _ _ h
      · simp at h
    · simp at h
  case h_15 t x ix ho =>
    split at h
    · rename_i k i len e cs hix hu hρ
      split at h
      · rename_i j hs' ha hsz
        cases hc : cs[j]? with
        | none => simp [hc] at h
        | some v => simp only [hc, Option.map_some, Option.some.injEq] at h; exact hsil _ _ _ h
      · split at h
        · rename_i k' z r
          cases hl : intsOf k' (.int k' z :: r) with
          | none => simp [hl] at h
          | some l => simp only [hl, Option.map_some, Option.some.injEq] at h; exact hsil _ _ _ h
        · simp at h
      · simp at h
    · simp only [Option.some.injEq] at h; exact hsil _ _ _ h
    · simp at h
  case h_10 op t x ho =>
    cases hu : xun op (ρ x) with
    | none => simp [hu] at h
    | some v => simp only [hu, Option.map_some, Option.some.injEq] at h; exact hsil _ _ _ h
  case h_11 src dst x ho =>
    split at h
    · cases hu : xconv P dst (ρ x) with
      | none => simp [hu] at h
      | some v => simp only [hu, Option.map_some, Option.some.injEq] at h; exact hsil _ _ _ h
    · simp at h
  case h_16 x i ho =>
    split at h
    · rename_i vs hρ
      cases hc : vs[i]? with
      | none => simp [hc] at h
      | some v => simp only [hc, Option.map_some, Option.some.injEq] at h; exact hsil _ _ _ h
    · simp at h
  case h_13 t x f ho =>
    split at h
    · rename_i cs fields hρ hu
      split at h
      · rename_i fd hfd
        split at h
        · simp only [Option.some.injEq] at h; exact hsil _ _ _ h
        · cases hc : cs[fd.offset]? with
          | none => simp [hc] at h
          | some v => simp only [hc, Option.map_some, Option.some.injEq] at h; exact hsil _ _ _ h
        · simp at h
      · simp at h
    · simp at h
  all_goals
    repeat' split at h
    all_goals first | (simp at h; done) | (simp only [Option.some.injEq] at h; exact hsil _ _ _ h)

-- ---------------------------------------------------------------- what the run of a region says

theorem xopE_new {P : Program} {ρ : Operand → Value} {H : HF} {n : Nat} {hs : List Hint} {o : Oper} {out : Out} (h : xopE P ρ H n hs o = some out) : n ≤ out.n ∧ ∀ i ∈ out.new, n ≤ i ∧ i < out.n := by
  have hsil : ∀ v hs ob, VX.silent v n hs ob = out → n ≤ out.n ∧ ∀ i ∈ out.new, n ≤ i ∧ i < out.n := by
    intro v hs ob he; subst he; exact ⟨Nat.le_refl _, by simp [VX.silent]⟩
  have hnew : ∀ B v hs ob, VX.newBlk n B v hs ob = out → n ≤ out.n ∧ ∀ i ∈ out.new, n ≤ i ∧ i < out.n := by
    intro B v hs ob he; subst he; exact ⟨by simp [VX.newBlk], by simp [VX.newBlk]⟩
  have hmap : ∀ {α : Type} (q : Option α) (f : α → Value) (hs : List Hint) (ob : α → List Prop), (q.map fun v => VX.silent (f v) n hs (ob v)) = some out → n ≤ out.n ∧ ∀ i ∈ out.new, n ≤ i ∧ i < out.n := by
    intro α q f hs ob he
    cases q with
    | none => simp at he
    | some v => simp only [Option.map_some, Option.some.injEq] at he; exact hsil _ _ _ he
  have hbif : ∀ {c : Bool} {q : Out}, (bif c then some q else none) = some out → q = out := by
    intro c q he; cases c <;> simp at he; exact he
  unfold xopE at h
  split at h
  · unfold xloadE at h
    split at h
    · split at h
      · exact hsil _ _ _ (hbif h)
      · exact hmap _ (fun v => v) _ (fun _ => []) h
      · simp at h
    · split at h
      · simp only [Option.some.injEq] at h; subst h; exact ⟨Nat.le_refl _, by simp⟩
      · simp at h
    · split at h
      · split at h
        · rename_i k a rr _ _
          cases hns : intsOf k (.int k a :: rr) with
          | none => simp [hns] at h
          | some ns => simp only [hns, Option.map_some, Option.some.injEq] at h; subst h; exact ⟨Nat.le_refl _, by simp⟩
        · rename_i a rr _ _
          cases hns : boolsOf (.bool a :: rr) with
          | none => simp [hns] at h
          | some ns => simp only [hns, Option.map_some, Option.some.injEq] at h; subst h; exact ⟨Nat.le_refl _, by simp⟩
        · simp at h
      · simp at h
    · simp at h
  · unfold xfieldE at h
    repeat' split at h
    all_goals first | (simp at h; done) | (simp only [Option.some.injEq] at h; exact hsil _ _ _ h)
  · unfold xatE at h
    split at h
    · split at h
      · exact hsil _ _ _ (hbif h)
      · rename_i hs' _
        revert h
        generalize (Nat.beq _ 1 && Nat.beq _ 1) = c
        intro h
        cases c
        · simp at h
        · simp only [cond_true] at h
          split at h
          · rename_i k' a rr _
            cases hns : intsOf k' (.int k' a :: rr) with
            | none => simp [hns] at h
            | some ns => simp only [hns, Option.map_some, Option.some.injEq] at h; exact hsil _ _ _ h
          · rename_i a rr _
            cases hns : strsOf (.string a :: rr) with
            | none => simp [hns] at h
            | some ns => simp only [hns, Option.map_some, Option.some.injEq] at h; exact hsil _ _ _ h
          · simp at h
      · simp at h
    · simp at h
  · unfold xslice at h
    split at h <;> (try split at h) <;> (try split at h) <;> first | (simp at h; done) | exact hsil _ _ _ (hbif h) | (simp only [Option.some.injEq] at h; exact hsil _ _ _ h)
  · rename_i t parts ho
    cases hp : parts.toList.isEmpty <;> rw [hp] at h
    · simp at h
    · simp only [cond_true] at h
      split at h
      · unfold xnone at h
        split at h
        · split at h
          · simp only [Option.some.injEq] at h; exact hsil _ _ _ h
          · simp at h
        · simp at h
      · unfold xempty at h
        split at h
        · split at h
          · simp only [Option.some.injEq] at h; exact hnew _ _ _ _ h
          · simp at h
        · simp at h
  · split at h
    · split at h
      · simp only [Option.some.injEq] at h; exact hsil _ _ _ h
      · simp at h
    · split at h
      · simp only [Option.some.injEq] at h; exact hsil _ _ _ h
      · simp at h
    · split at h
      · unfold xlenE at h
        split at h
        · split at h <;> exact hsil _ _ _ (hbif h)
        · simp at h
      · simp at h
    · have hone : ∀ q : Out, q.n = n + 1 → q.new = [n] → q = out → n ≤ out.n ∧ ∀ i ∈ out.new, n ≤ i ∧ i < out.n := by
        intro q h1 h2 he; subst he; rw [h1, h2]; exact ⟨by omega, by simp⟩
      have hbif2 : ∀ {c d : Bool} {q : Out}, (bif c then (bif d then some q else none) else none) = some out → q = out := by
        intro c d q he; cases c <;> cases d <;> simp at he; exact he
      split at h
      · unfold xappendL at h
        repeat' split at h
        all_goals first | (simp at h; done) | exact hone _ rfl rfl (hbif h)
      · split at h
        · rename_i out' h'
          simp only [Option.some.injEq] at h; subst h
          unfold xappendW at h'
          repeat' split at h'
          all_goals first | (simp at h'; done) | exact hone _ rfl rfl (hbif h') | exact hone _ rfl rfl (hbif2 h')
        · unfold xappendN at h
          repeat' split at h
          all_goals first | (simp at h; done) | exact hone _ rfl rfl (Option.some.inj h)
      · unfold xappend at h
        repeat' split at h
        all_goals first | (simp at h; done) | exact hone _ rfl rfl (hbif h) | exact hone _ rfl rfl (hbif2 h)
    · simp at h
  · split at h
    · rename_i out' h'
      simp only [Option.some.injEq] at h; subst h
      unfold xeqNil at h'
      split at h'
      · rename_i hρ _
        cases he : eqv P 10000 _ (.slice (some ⟨0, 0, none⟩) 0 0) (.slice none 0 0) with
        | none => rw [he] at h'; simp at h'
        | some c => rw [he] at h'; simp only [Option.map_some, Option.some.injEq] at h'; exact hsil _ _ _ h'
      · simp at h'
    · unfold xeqNilT at h
      split at h
      · cases he : eqv P 10000 _ (.slice (some ⟨0, 0, none⟩) 0 0) (.slice none 0 0) with
        | none => rw [he] at h; simp at h
        | some c => rw [he] at h; simp only [Option.map_some, Option.some.injEq] at h; exact hsil _ _ _ h
      · cases he : eqv P 10000 _ (.slice (some ⟨0, 0, none⟩) 0 0) (.slice none 0 0) with
        | none => rw [he] at h; simp at h
        | some c => rw [he] at h; simp only [Option.map_some, Option.some.injEq] at h; exact hsil _ _ _ h
      · simp at h
  · unfold xmake at h
    repeat' split at h
    all_goals first | (simp at h; done) | skip
    rename_i n' _ _ _ _ _ _ _ _ _ _ _ _ _
    revert h
    generalize (Nat.beq _ 1 && _ && _ && _ && _) = c
    intro h
    cases c
    · simp at h
    · simp only [cond_true, Option.some.injEq] at h; exact hnew _ _ _ _ h
  · simp at h

theorem xopA_new {P : Program} {ρ : Operand → Value} {H : HF} {n : Nat} {hs : List Hint} {o : Oper} {out : Out} (h : xopA P ρ H n hs o = some out) : n ≤ out.n ∧ ∀ i ∈ out.new, n ≤ i ∧ i < out.n := by
  unfold xopA at h
  split at h
  · rename_i out0 h0
    simp only [Option.some.injEq] at h; subst h
    exact xop0_new h0
  · exact xopE_new h

theorem xop_new {P : Program} {ρ : Operand → Value} {H : HF} {n : Nat} {hs : List Hint} {o : Oper} {out : Out} (h : xop P ρ H n hs o = some out) : n ≤ out.n ∧ ∀ i ∈ out.new, n ≤ i ∧ i < out.n := by
  unfold xop at h
  split at h
  · rename_i d w hs'
    cases hd : dstIs o.dst d <;> rw [hd] at h
    · exact xopA_new h
    · simp only [cond_true] at h
      cases h0 : xopA P ρ H n hs' o with
      | none => simp [h0] at h
      | some out0 =>
        simp only [h0, Option.map_some, Option.some.injEq] at h
        subst h
        have hn := xopA_new h0
        exact hn
  · split at h
    · rename_i out0 h0
      simp only [Option.some.injEq] at h; subst h
      unfold xborn at h0
      simp only [Bool.cond_eq_ite] at h0
      repeat' split at h0
      all_goals first | (simp at h0; done) | (simp only [Option.some.injEq] at h0; subst h0; exact ⟨Nat.le_refl _, by simp [VX.silent]⟩)
    · exact xopA_new h
  · split at h
    · rename_i out0 h0
      simp only [Option.some.injEq] at h; subst h
      unfold xwhole at h0
      simp only [Bool.cond_eq_ite] at h0
      repeat' split at h0
      all_goals first | (simp at h0; done) | (simp only [Option.some.injEq] at h0; subst h0; exact ⟨Nat.le_refl _, by simp⟩)
    · exact xopA_new h
  · exact xopA_new h

/-- One operation of the run, at the slots and the heap that the ones ahead of it left. -/
structure RecOk (P : Program) (N : Nat) (ops : Array Oper) (T : Tm) (H : Heap) (r : Rec) : Prop where
  dst : ∀ d, r.o.dst = some d → d < N
  run : ∃ n hs hs1 ob1, xwant ops T r.o hs = some (r.ran, hs1, ob1) ∧ (r.ran = true → ∃ out, xop P (ev P T) (lk H) n hs1 r.o = some out ∧ r.out = { out with ob := ob1 ++ out.ob }) ∧ (r.ran = false → r.out = skipped n hs1 ob1)

theorem dstOk_spec {N : Nat} {d : Option Tmp} (h : dstOk N d = true) : ∀ x, d = some x → x < N := by
  intro x hx
  subst hx
  exact blt_tt h

theorem xreg_spec {P : Program} {N : Nat} {ops : Array Oper} : ∀ {l : List Oper} {T T' : Tm} {H H' : Heap} {n n' : Nat} {hs hs' : List Hint} {recs : List Rec}, xreg P N ops l T H n hs = some (recs, T', H', n', hs') →
    recs.map (·.o) = l ∧ n ≤ n' ∧ (∀ r ∈ recs, ∀ i ∈ r.out.new, n ≤ i ∧ i < n') ∧ (∀ (i j : Nat) (r r' : Rec), i < j → recs[i]? = some r → recs[j]? = some r' → ∀ x ∈ r.out.new, ∀ y ∈ r'.out.new, x < y) ∧
    ∀ k, tget T' = foldT (fun _ => true) k recs (tget T) ∧ lk H' = foldH (fun _ => true) k recs (lk H) ∧
      ∀ (i : Nat) (r : Rec), recs[i]? = some r → ∃ Ti Hi, tget Ti = foldT (fun j => Nat.blt j (k + i)) k recs (tget T) ∧ lk Hi = foldH (fun j => Nat.blt j (k + i)) k recs (lk H) ∧ RecOk P N ops Ti Hi r
  | [], T, T', H, H', n, n', hs, hs', recs, h => by
    simp only [xreg, Option.some.injEq, Prod.mk.injEq] at h
    obtain ⟨rfl, rfl, rfl, rfl, rfl⟩ := h
    exact ⟨rfl, Nat.le_refl _, by simp, by simp, fun k => ⟨rfl, rfl, by simp⟩⟩
  | o :: l, T, T', H, H', n, n', hs, hs', recs, h => by
    simp only [xreg] at h
    cases hd : dstOk N o.dst <;> rw [hd] at h
    · simp at h
    simp only [cond_true] at h
    -- one step, then the rest
    have step : ∀ (r0 : Rec) (recs1 : List Rec) (v : Value) (e : List (Nat × Upd)) (n1 : Nat) (hs1 : List Hint), r0.o = o → r0.out.v = v → r0.out.eff = e → n ≤ n1 → (∀ i ∈ r0.out.new, n ≤ i ∧ i < n1) →
        xreg P N ops l (tput T o.dst v) (happ e H) n1 hs1 = some (recs1, T', H', n', hs') → recs = r0 :: recs1 → RecOk P N ops T H r0 →
        recs.map (·.o) = o :: l ∧ n ≤ n' ∧ (∀ r ∈ recs, ∀ i ∈ r.out.new, n ≤ i ∧ i < n') ∧ (∀ (i j : Nat) (r r' : Rec), i < j → recs[i]? = some r → recs[j]? = some r' → ∀ x ∈ r.out.new, ∀ y ∈ r'.out.new, x < y) ∧
        ∀ k, tget T' = foldT (fun _ => true) k recs (tget T) ∧ lk H' = foldH (fun _ => true) k recs (lk H) ∧
          ∀ (i : Nat) (r : Rec), recs[i]? = some r → ∃ Ti Hi, tget Ti = foldT (fun j => Nat.blt j (k + i)) k recs (tget T) ∧ lk Hi = foldH (fun j => Nat.blt j (k + i)) k recs (lk H) ∧ RecOk P N ops Ti Hi r := by
      intro r0 recs1 v e n1 hs1 ho hv he hn1 hnew hrest hrecs hok
      obtain ⟨h1, h2, h3, h4, h5⟩ := xreg_spec hrest
      subst hrecs
      refine ⟨by simp [ho, h1], by omega, ?_, ?_, ?_⟩
      · intro r hr i hi
        simp only [List.mem_cons] at hr
        rcases hr with rfl | hr
        · have := hnew i hi; omega
        · have := h3 r hr i hi; omega
      · intro i j r r' hij hi hj x hx y hy
        cases j with
        | zero => omega
        | succ j =>
          simp only [List.getElem?_cons_succ] at hj
          cases i with
          | zero =>
            simp only [List.getElem?_cons_zero, Option.some.injEq] at hi
            subst hi
            have := hnew x hx
            have := h3 r' (List.mem_of_getElem? hj) y hy
            omega
          | succ i =>
            simp only [List.getElem?_cons_succ] at hi
            exact h4 i j r r' (by omega) hi hj x hx y hy
      · intro k
        obtain ⟨a, b, c⟩ := h5 (k + 1)
        refine ⟨?_, ?_, ?_⟩
        · simp only [foldT, if_true]
          rw [ho, hv, ← tget_tput]
          exact a
        · simp only [foldH, if_true]
          rw [he, ← lk_happ]
          exact b
        · intro i r hr
          cases i with
          | zero =>
            simp only [List.getElem?_cons_zero, Option.some.injEq] at hr
            subst hr
            have hfalse : ∀ (m : Nat), k ≤ m → Nat.blt m (k + 0) = false := by
              intro m hm
              cases e : Nat.blt m (k + 0) with
              | false => rfl
              | true => have := blt_tt e; omega
            have hT : ∀ (l : List Rec) (m : Nat) (T : Nat → Value), k ≤ m → foldT (fun j => Nat.blt j (k + 0)) m l T = T := by
              intro l
              induction l with
              | nil => intro m T _; rfl
              | cons a l ih => intro m T hm; simp only [foldT, hfalse m hm, Bool.false_eq_true, if_false]; exact ih (m + 1) T (by omega)
            have hH : ∀ (l : List Rec) (m : Nat) (h : HF), k ≤ m → foldH (fun j => Nat.blt j (k + 0)) m l h = h := by
              intro l
              induction l with
              | nil => intro m h _; rfl
              | cons a l ih => intro m h hm; simp only [foldH, hfalse m hm, Bool.false_eq_true, if_false]; exact ih (m + 1) h (by omega)
            exact ⟨T, H, (hT _ _ _ (Nat.le_refl _)).symm, (hH _ _ _ (Nat.le_refl _)).symm, hok⟩
          | succ i =>
            simp only [List.getElem?_cons_succ] at hr
            obtain ⟨Ti, Hi, e1, e2, e3⟩ := c i r hr
            have hk : Nat.blt k (k + (i + 1)) = true := Nat.ble_eq_true_of_le (by omega)
            refine ⟨Ti, Hi, ?_, ?_, e3⟩
            · simp only [foldT, hk, if_true]
              rw [ho, hv, ← tget_tput, show k + (i + 1) = k + 1 + i by omega]
              exact e1
            · simp only [foldH, hk, if_true]
              rw [he, ← lk_happ, show k + (i + 1) = k + 1 + i by omega]
              exact e2
    split at h
    · rename_i hs1 ob1 hw
      split at h
      · rename_i out hx
        split at h
        · rename_i recs1 x hrest
          obtain ⟨T1, H1, n1, hs2⟩ := x
          simp only [Option.some.injEq, Prod.mk.injEq] at h
          obtain ⟨rfl, rfl, rfl, rfl, rfl⟩ := h
          have hnew := xop_new hx
          exact step _ recs1 out.v out.eff out.n out.hs rfl rfl rfl hnew.1 hnew.2 hrest rfl ⟨dstOk_spec hd, ⟨n, hs, hs1, ob1, hw, fun _ => ⟨out, hx, rfl⟩, fun h => by cases h⟩⟩
        · simp at h
      · simp at h
    · rename_i hs1 ob1 hw
      split at h
      · rename_i recs1 x hrest
        obtain ⟨T1, H1, n1, hs2⟩ := x
        simp only [Option.some.injEq, Prod.mk.injEq] at h
        obtain ⟨rfl, rfl, rfl, rfl, rfl⟩ := h
        exact step _ recs1 (.chan none) [] n hs1 rfl rfl rfl (Nat.le_refl _) (by simp [skipped]) hrest rfl ⟨dstOk_spec hd, ⟨n, hs, hs1, ob1, hw, fun h => (by cases h), fun _ => rfl⟩⟩
      · simp at h
    · simp at h

-- ---------------------------------------------------------------- independence

def memB (x : Nat) : List Nat → Bool
  | [] => false
  | y :: r => Nat.beq x y || memB x r

theorem memB_ff {x : Nat} : ∀ {l : List Nat}, memB x l = false → x ∉ l
  | [], _ => by simp
  | y :: r, h => by
    simp only [memB, Bool.or_eq_false_iff] at h
    simp only [List.mem_cons, not_or]
    exact ⟨beq_ff h.1, memB_ff h.2⟩

def tmpsOf : List Operand → List Nat
  | [] => []
  | .tmp t :: r => t :: tmpsOf r
  | _ :: r => tmpsOf r

theorem mem_tmpsOf {t : Nat} : ∀ {l : List Operand}, Operand.tmp t ∈ l → t ∈ tmpsOf l
  | [], h => by simp at h
  | x :: r, h => by
    simp only [List.mem_cons] at h
    rcases h with rfl | h
    · simp [tmpsOf]
    · have := mem_tmpsOf h
      cases x <;> simp [tmpsOf, this]

/-- The slots that an operation looks at. -/
def looks (ops : Array Oper) (o : Oper) : List Nat :=
  tmpsOf o.op.operands.toList ++ (match o.guard with
    | some (k, _) => match slotOf ops k with
      | some d => [d]
      | none => []
    | none => [])

/-- Nothing of r' is seen by r. -/
def indepB (ops : Array Oper) (r r' : Rec) : Bool :=
  (match r'.o.dst with
    | none => true
    | some d => !memB d (looks ops r.o) && (match r.o.dst with | some x => !Nat.beq x d | none => true)) &&
  r'.out.eff.all fun y => !memB y.1 r.out.rd && (match y.2 with | .blk _ => !memB y.1 r.out.sh | .del => !memB y.1 r.out.sh | .cell .. => true) && r.out.eff.all fun x => updFree x y

structure Indep (ops : Array Oper) (r r' : Rec) : Prop where
  looks : ∀ d, r'.o.dst = some d → d ∉ looks ops r.o
  dst : ∀ x, r.o.dst = some x → r'.o.dst ≠ some x
  rd : ∀ y ∈ r'.out.eff, y.1 ∉ r.out.rd
  sh : ∀ y ∈ r'.out.eff, y.1 ∈ r.out.sh → ∃ o v, y.2 = .cell o v
  eff : ∀ x ∈ r.out.eff, ∀ y ∈ r'.out.eff, updFree x y = true

theorem indepB_spec {ops : Array Oper} {r r' : Rec} (h : indepB ops r r' = true) : Indep ops r r' := by
  simp only [indepB, Bool.and_eq_true, List.all_eq_true, Bool.not_eq_true'] at h
  obtain ⟨h1, h2⟩ := h
  refine ⟨?_, ?_, ?_, ?_, ?_⟩
  · intro d hd
    simp only [hd, Bool.and_eq_true, Bool.not_eq_true'] at h1
    exact memB_ff h1.1
  · intro x hx hx'
    simp only [hx', hx, Bool.and_eq_true, Bool.not_eq_true'] at h1
    rw [beq_self] at h1
    simp at h1
  · intro y hy
    exact memB_ff (h2 y hy).1.1
  · intro y hy hsh
    have := (h2 y hy).1.2
    cases hu : y.2 with
    | cell o v => exact ⟨o, v, rfl⟩
    | blk B => simp only [hu, Bool.not_eq_true'] at this; exact absurd hsh (memB_ff this)
    | del => simp only [hu, Bool.not_eq_true'] at this; exact absurd hsh (memB_ff this)
  · intro x hx y hy
    exact (h2 y hy).2 x hx

-- ---------------------------------------------------------------- one operation in a place where those that it leans on are done

/-- How things stand when the operations of D are done. -/
structure Inv (P : Program) (N : Nat) (recs : List Rec) (T0 : Nat → Value) (H0 : HF) (μ0 : Mu) (w0 : World) (D : Nat → Bool) (μ : Mu) (a : Act) (w : World) : Prop where
  gl : Gl P μ
  tm : TRel N μ (foldT D 0 recs T0) a.tmps
  rep : Rep μ (foldH D 0 recs H0) w
  defers : a.defers = []
  fresh : ∀ j r, recs[j]? = some r → D j = false → ∀ i ∈ r.out.new, μ i = none
  le : μ0.le μ
  keeps : Keeps μ0 H0 w0 μ (foldH D 0 recs H0) w
  other : ∀ i, (∀ r ∈ recs, i ∉ r.out.new) → μ i = μ0 i

theorem Gl.le {P : Program} {μ μ' : Mu} (h : Gl P μ) (hl : μ.le μ') : Gl P μ' := fun g hg => hl g g (h g hg)

theorem wanted_of {ops : Array Oper} {T : Tm} {o : Oper} {hs hs1 : List Hint} {b : Bool} {ob : List Prop} (h : xwant ops T o hs = some (b, hs1, ob)) (hob : ∀ q ∈ ob, q) {μ : Mu} {tmps : Array Value}
    (ht : ∀ d, d ∈ looks ops o → VRel μ (tget T d) (tmps.getD d undef)) : Region.wanted o (yielded ops tmps) = b := by
  unfold xwant at h
  unfold Region.wanted
  cases hg : o.guard with
  | none => simp [hg] at h; simp [h.1]
  | some q =>
    obtain ⟨k, want⟩ := q
    simp only [hg] at h ⊢
    unfold yielded
    cases hs : slotOf ops k with
    | none =>
      simp only [hs, Option.some.injEq, Prod.mk.injEq] at h
      unfold slotOf at hs
      rw [hs]
      simp [← h.1]
    | some d =>
      simp only [hs] at h
      have hd := ht d (by unfold looks; simp [hg, hs])
      unfold slotOf at hs
      rw [hs]
      simp only [Option.bind_some]
      split at h
      · rename_i c hc
        rw [hc] at hd
        have he : tmps.getD d undef = .bool c := by
          revert hd; generalize tmps.getD d undef = X; intro hd; cases hd; rfl
        have he2 : tmps[d]? = some (.bool c) := by
          rw [Array.getD_eq_getD_getElem?] at he
          cases hx : tmps[d]? with
          | none => rw [hx] at he; simp [undef] at he
          | some x => rw [hx] at he; simp at he; rw [he]
        rw [he2]
        split at h
        · rename_i b' hs2 ob2 htk
          simp only [Option.some.injEq, Prod.mk.injEq] at h
          obtain ⟨rfl, rfl, rfl⟩ := h
          have := takeB_spec htk hob
          subst this
          simp
        · simp at h
      · rename_i hc
        simp only [Option.some.injEq, Prod.mk.injEq] at h
        rw [hc] at hd
        have he : tmps.getD d undef = .tuple #[] := by
          revert hd; generalize tmps.getD d undef = X; intro hd; cases hd; rfl
        have he2 : tmps[d]? = none ∨ tmps[d]? = some (.tuple #[]) := by
          rw [Array.getD_eq_getD_getElem?] at he
          cases hx : tmps[d]? with
          | none => exact .inl rfl
          | some x => rw [hx] at he; simp at he; rw [he]; exact .inr rfl
        rcases he2 with he2 | he2 <;> rw [he2] <;> simp [← h.1]
      · simp at h

theorem Inv.step {P : Program} {N : Nat} {ops : Array Oper} {recs : List Rec} {T0 : Tm} {H0 : Heap} {μ0 : Mu} {w0 : World} {D : Nat → Bool} {μ : Mu} {a : Act} {w : World} (hG : P.globals.size ≤ 1000)
    (inv : Inv P N recs (tget T0) (lk H0) μ0 w0 D μ a w) {i : Nat} {r : Rec} (hr : recs[i]? = some r) (ho : ops[i]? = some r.o) (hD : D i = false) {Ti : Tm} {Hi : Heap}
    (eT : tget Ti = foldT (fun j => Nat.blt j i) 0 recs (tget T0)) (eH : lk Hi = foldH (fun j => Nat.blt j i) 0 recs (lk H0)) (hok : RecOk P N ops Ti Hi r) (hob : ∀ q ∈ r.out.ob, q)
    (hnew : ∀ (p q : Nat) (s s' : Rec), p < q → recs[p]? = some s → recs[q]? = some s' → ∀ x ∈ s.out.new, ∀ y ∈ s'.out.new, x < y)
    (hind : ∀ j r', recs[j]? = some r' → ((D j = true ∧ i < j) ∨ (D j = false ∧ j < i)) → Indep ops r r') {Q : Exit → Act → World → Prop} {K : Act → World → Prop}
    (hK : ∀ μ' a' w', Inv P N recs (tget T0) (lk H0) μ0 w0 (plus D i) μ' a' w' → K a' w') : wpOp P ops Q i K a w := by
  -- what differs from the text's order is independent
  have hdiff : ∀ j r', recs[j]? = some r' → D (0 + j) ≠ Nat.blt (0 + j) i → Indep ops r r' := by
    intro j r' hj hne
    rw [Nat.zero_add] at hne
    refine hind j r' hj ?_
    cases hDj : D j with
    | true =>
      refine .inl ⟨rfl, ?_⟩
      have hb : Nat.blt j i = false := by
        cases e : Nat.blt j i with
        | false => rfl
        | true => rw [hDj, e] at hne; exact absurd rfl hne
      have := blt_ff hb
      have : j ≠ i := by rintro rfl; rw [hD] at hDj; cases hDj
      omega
    | false =>
      refine .inr ⟨rfl, ?_⟩
      have hb : Nat.blt j i = true := by
        cases e : Nat.blt j i with
        | true => rfl
        | false => rw [hDj, e] at hne; exact absurd rfl hne
      exact blt_tt hb
  have hT : ∀ t, t ∈ looks ops r.o → tget Ti t = foldT D 0 recs (tget T0) t := by
    intro t ht
    rw [eT]
    exact (foldT_agree t recs 0 _ _ rfl fun j r' hj hne hd => (hdiff j r' hj hne).looks t hd ht).symm
  have hTr : ∀ t, t ∈ looks ops r.o → VRel μ (tget Ti t) (a.tmps.getD t undef) := fun t ht => by rw [hT t ht]; exact inv.tm.2 t
  obtain ⟨n, hs, hs1, ob1, hw, hrun, hskip⟩ := hok.run
  have hob1 : ∀ q ∈ ob1, q := by
    cases hran : r.ran with
    | true => obtain ⟨out, _, he⟩ := hrun hran; intro q hq; exact hob q (by rw [he]; simp [hq])
    | false => intro q hq; exact hob q (by rw [hskip hran]; exact hq)
  have hwant := wanted_of hw hob1 (μ := μ) hTr
  unfold wpOp
  simp only [ho]
  -- the frame and the heap behind it
  have hi0 : recs[i - 0]? = some r := by simpa using hr
  have ePlusT : foldT (plus D i) 0 recs (tget T0) = tupd (foldT D 0 recs (tget T0)) r.o.dst r.out.v :=
    foldT_plus hD recs 0 _ r hi0 (Nat.zero_le _) fun j r' hj hlt hd x hx => (hind j r' hj (.inl ⟨by simpa using hd, by omega⟩)).dst x hx
  have ePlusH : foldH (plus D i) 0 recs (lk H0) = app r.out.eff (foldH D 0 recs (lk H0)) :=
    foldH_plus hD recs 0 _ r hi0 (Nat.zero_le _) fun j r' hj hlt hd x hx y hy => (hind j r' hj (.inl ⟨by simpa using hd, by omega⟩)).eff x hx y hy
  have hfreshP : ∀ μ' : Mu, (∀ k, k ∉ r.out.new → μ' k = μ k) → ∀ j r', recs[j]? = some r' → plus D i j = false → ∀ k ∈ r'.out.new, μ' k = none := by
    intro μ' hoth j r' hj hpj k hk
    simp only [plus, Bool.or_eq_false_iff] at hpj
    have hji := beq_ff hpj.2
    have hkn : k ∉ r.out.new := by
      intro hkr
      rcases Nat.lt_or_gt_of_ne hji with h | h
      · have := hnew j i r' r h hj hr k hk k hkr; omega
      · have := hnew i j r r' h hr hj k hkr k hk; omega
    rw [hoth k hkn]
    exact inv.fresh j r' hj hpj.1 k hk
  cases hran : r.ran with
  | false =>
    have hout := hskip hran
    rw [hran] at hwant
    rw [hwant]
    simp only [Bool.false_eq_true, if_false]
    refine hK μ _ w ⟨inv.gl, ?_, ?_, by rw [put_defers]; exact inv.defers, hfreshP μ (fun _ _ => rfl), inv.le, ?_, inv.other⟩
    · rw [ePlusT, hout]
      exact inv.tm.put hok.dst .und
    · rw [ePlusH, hout]; exact inv.rep
    · rw [ePlusH, hout]; exact inv.keeps
  | true =>
    obtain ⟨out, hx, hout⟩ := hrun hran
    rw [hran] at hwant
    rw [hwant]
    simp only [if_true]
    refine .inl ?_
    have hobo : ∀ q ∈ out.ob, q := fun q hq => hob q (by rw [hout]; simp [hq])
    have hspec := xop_ok hG hx hobo (foldH D 0 recs (lk H0))
      (fun k hk => by
        rw [eH]
        exact foldH_agree k recs 0 _ _ rfl fun j r' hj hne y hy hyk => (hdiff j r' hj hne).rd y hy (by rw [hout, hyk]; exact hk))
      (fun k hk => by
        rw [eH]
        exact sameShape_of (foldH_shape k recs 0 _ _ rfl fun j r' hj hne y hy hyk => (hdiff j r' hj hne).sh y hy (by rw [hout, hyk]; exact hk)))
    refine hspec μ a w inv.gl (fun x hx => ?_) inv.rep (fun k hk => inv.fresh i r hr hD k (by rw [hout]; exact hk)) K Q ?_
    · cases x with
      | tmp t =>
        exact hTr t (by unfold looks; simp only [List.mem_append]; exact .inl (mem_tmpsOf (by simpa using hx)))
      | const v =>
        simp only [ev, Act.eval]
        cases h : flat v
        · exact .junk _
        · exact .of_flat h
      | global g =>
        simp only [ev, Act.eval]
        cases h : Nat.blt g P.globals.size
        · exact .junk _
        · exact .ptr (inv.gl g (blt_tt h)) 0
      | func f => exact .func _ .nil .nil
    · intro μ' w' rv hle hoth hrep hv hkeep
      refine hK μ' _ w' ⟨inv.gl.le hle, ?_, ?_, by rw [put_defers]; exact inv.defers, hfreshP μ' (fun k hk => hoth k (by rw [hout] at hk; exact hk)), Mu.le_trans inv.le hle, ?_, ?_⟩
      · rw [ePlusT, hout]
        exact (inv.tm.mono hle).put hok.dst hv
      · rw [ePlusH, hout]; exact hrep
      · rw [ePlusH, hout]; exact inv.keeps.trans hkeep
      · intro k hk
        rw [hoth k (by have := hk r (List.mem_of_getElem? hr); rw [hout] at this; exact this)]
        exact inv.other k hk

end Go.Proofs.Ytgnhhnmpeklciaa.VX
