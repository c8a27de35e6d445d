/-
  Pieces of code behind which names from a bound on may stand for other blocks: for loops that carry lists which grow. No condition.
-/
import Derived.Test.YtgnhhnmpeklciaaVL
import Derived.Test.YtgnhhnmpeklciaaVG
import Derived.Test.YtgnhhnmpeklciaaVP
namespace Go.Proofs.Ytgnhhnmpeklciaa.VX
open Go
set_option linter.unusedSimpArgs false
set_option linter.unusedVariables false

/-- As Runs; but of the names only those below mv stay. -/
def RunsM (P : Program) (N : Nat) (c : Code) (mv : Nat) (T : Tm) (H : Heap) (n : Nat) (e : Ex) (T' : Tm) (H' : Heap) (n' : Nat) : Prop :=
  mv ≤ n ∧ mv ≤ n' ∧ ∀ (μ : Mu) (a : Act) (w : World), Gl P μ → 1000 ≤ mv → TRel N μ (tget T) a.tmps → Rep μ (lk H) w → a.defers = [] → (∀ i, n ≤ i → μ i = none) →
    ∀ Q : Exit → Act → World → Prop, (∀ μ' a' w', (∀ i, i < mv → μ' i = μ i) → (∀ i, n' ≤ i → μ' i = none) → TRel N μ' (tget T') a'.tmps → Rep μ' (lk H') w' → a'.defers = [] → Keeps μ (lk H) w μ' (lk H') w' → Q e.to a' w') → c.wp P Q a w

theorem Gl.below {P : Program} {μ μ' : Mu} {mv : Nat} (hG : P.globals.size ≤ 1000) (hmv : 1000 ≤ mv) (g : Gl P μ) (h : ∀ i, i < mv → μ' i = μ i) : Gl P μ' :=
  fun i hi => by rw [h i (by omega)]; exact g i hi

theorem Runs.toM {P : Program} {N : Nat} {c : Code} {mv : Nat} {T T' : Tm} {H H' : Heap} {n n' : Nat} {e : Ex} (h1 : mv ≤ n) (r : Runs P N c T H n e T' H' n') : RunsM P N c mv T H n e T' H' n' := by
  refine ⟨h1, Nat.le_trans h1 r.1, fun μ a w hg _ ht hr hd hf Q hQ => r.elim hg ht hr hd hf ?_⟩
  intro μ' a' w' hle hsame hf' ht' hr' hd' hk
  exact hQ μ' a' w' (fun i hi => hsame i (by omega)) hf' ht' hr' hd' hk

theorem RunsM.toRuns {P : Program} {N : Nat} {c : Code} {T T' : Tm} {H H' : Heap} {n n' : Nat} {e : Ex} (hn : 1000 ≤ n) (r : RunsM P N c n T H n e T' H' n') : Runs P N c T H n e T' H' n' := by
  refine .intro r.2.1 fun μ a w hg ht hr hd hf Q hQ => r.2.2 μ a w hg hn ht hr hd hf Q ?_
  intro μ' a' w' hsame hf' ht' hr' hd' hk
  refine hQ μ' a' w' ⟨?_, ?_, hk.kfz⟩ hsame hf' ht' hr' hd' hk
  · intro i b hi
    have : i < n := by
      rcases Nat.lt_or_ge i n with h | h
      · exact h
      · rw [hf i h] at hi; cases hi
    rw [hsame i this]; exact hi
  · intro i b hi
    exact hk.ksz b (hr.bound i b hi)

/-- The rounds of a loop, at most m of them. -/
def LRunsM (P : Program) (N : Nat) (c : Code) (mv m : Nat) (T : Tm) (H : Heap) (n : Nat) (e : Ex) (T' : Tm) (H' : Heap) (n' : Nat) : Prop :=
  mv ≤ n ∧ mv ≤ n' ∧ ∀ (μ : Mu) (a : Act) (w : World), Gl P μ → 1000 ≤ mv → TRel N μ (tget T) a.tmps → Rep μ (lk H) w → a.defers = [] → (∀ i, n ≤ i → μ i = none) →
    ∀ Q : Exit → Act → World → Prop, (∀ μ' a' w', (∀ i, i < mv → μ' i = μ i) → (∀ i, n' ≤ i → μ' i = none) → TRel N μ' (tget T') a'.tmps → Rep μ' (lk H') w' → a'.defers = [] → Keeps μ (lk H) w μ' (lk H') w' → Q e.to a' w') →
      Code.rounds P c Q m a w

theorem LRunsM.last {P : Program} {N : Nat} {c : Code} {mv : Nat} {T T1 : Tm} {H H1 : Heap} {n n1 : Nat} {e : Ex} (he : e ≠ .normal) (a : RunsM P N c mv T H n e T1 H1 n1) (m : Nat) : LRunsM P N c mv (m + 1) T H n e T1 H1 n1 := by
  refine ⟨a.1, a.2.1, fun μ ac w hg hmv ht hr hd hf Q hQ => ?_⟩
  rw [rounds_succ]
  refine a.2.2 μ ac w hg hmv ht hr hd hf _ ?_
  intro μ1 a1 w1 h2 h3 h4 h5 h6 h7
  have := hQ μ1 a1 w1 h2 h3 h4 h5 h6 h7
  cases e with
  | normal => exact absurd rfl he
  | exit id => exact this
  | ret => exact this

theorem LRunsM.more {P : Program} (hG : P.globals.size ≤ 1000) {N : Nat} {c : Code} {mv : Nat} {T T1 T2 : Tm} {H H1 H2 : Heap} {n n1 n2 m : Nat} {e : Ex} (a : RunsM P N c mv T H n .normal T1 H1 n1) (b : LRunsM P N c mv m T1 H1 n1 e T2 H2 n2) : LRunsM P N c mv (m + 1) T H n e T2 H2 n2 := by
  refine ⟨a.1, b.2.1, fun μ ac w hg hmv ht hr hd hf Q hQ => ?_⟩
  rw [rounds_succ]
  refine a.2.2 μ ac w hg hmv ht hr hd hf _ ?_
  intro μ1 a1 w1 hsame1 hf1 ht1 hr1 hd1 hk1
  show Code.rounds P c Q m a1 w1
  refine b.2.2 μ1 a1 w1 (hg.below hG hmv hsame1) hmv ht1 hr1 hd1 hf1 Q ?_
  intro μ2 a2 w2 hsame2 hf2 ht2 hr2 hd2 hk2
  exact hQ μ2 a2 w2 (fun i hi => by rw [hsame2 i hi, hsame1 i hi]) hf2 ht2 hr2 hd2 (hk1.trans hk2)

theorem LRunsM.loop {P : Program} {N : Nat} {c : Code} {mv : Nat} {T T1 : Tm} {H H1 : Heap} {n n1 m : Nat} {e : Ex} (a : LRunsM P N c mv m T H n e T1 H1 n1) : RunsM P N (.loop c) mv T H n e T1 H1 n1 :=
  ⟨a.1, a.2.1, fun μ ac w hg hmv ht hr hd hf Q hQ => wp_loop_rounds m (a.2.2 μ ac w hg hmv ht hr hd hf Q hQ)⟩

theorem RunsM.block {P : Program} {N : Nat} {id : Nat} {c : Code} {mv : Nat} {T T1 : Tm} {H H1 : Heap} {n n1 : Nat} {e : Ex} (a : RunsM P N c mv T H n e T1 H1 n1) : RunsM P N (.block id c) mv T H n (outOf id e) T1 H1 n1 := by
  refine ⟨a.1, a.2.1, fun μ ac w hg hmv ht hr hd hf Q hQ => ?_⟩
  refine wp_block (a.2.2 μ ac w hg hmv ht hr hd hf _ ?_)
  intro μ1 a1 w1 h2 h3 h4 h5 h6 h7
  have := hQ μ1 a1 w1 h2 h3 h4 h5 h6 h7
  cases e with
  | normal => exact this
  | ret => exact this
  | exit i =>
    simp only [Ex.to, Exit.inBlock, outOf] at this ⊢
    cases hb : Nat.beq i id
    · rw [hb] at this
      rw [if_neg (beq_ff hb)]
      exact this
    · rw [hb] at this
      rw [if_pos (beq_tt hb)]
      exact this

-- ---------------------------------------------------------------- other names, lists out of nil

def renOk (σ : List (Nat × Nat)) (mv n' : Nat) : Bool :=
  Nat.ble mv n' && σ.all fun x => (match look (swap σ) x.2 with | some i => Nat.beq i x.1 | none => false) && (match look σ x.1 with | some j => Nat.beq j x.2 | none => false) && Nat.blt x.2 n' && (Nat.ble mv x.2 || Nat.beq x.1 x.2)

/-- A value under its new names; as v' is: nil may become an empty list, a slice of its own a list. -/
def tagTo (σ : List (Nat × Nat)) : Value → Value → Value
  | .slice none 0 0, .slice (some ⟨k, 0, some 0⟩) _ z => .slice (some ⟨k, 0, some 0⟩) 0 z
  | .slice (some ⟨i, 0, none⟩) l z, .slice (some ⟨_, 0, some 0⟩) _ _ => match look σ i with
    | some j => .slice (some ⟨j, 0, some 0⟩) l z
    | none => .tuple ⟨[]⟩
  | v, _ => rn σ 6 v

def cvSegs (σ : List (Nat × Nat)) : List Seg → List Seg → List Seg
  | .one v :: r, .one v' :: r' => .one (tagTo σ v v') :: cvSegs σ r r'
  | .one v :: r, l => .one (rn σ 6 v) :: cvSegs σ r l.tail
  | s :: r, l => rnS σ s :: cvSegs σ r l.tail
  | [], _ => []

def cvB (σ : List (Nat × Nat)) (A B : Blk) : Blk := { A with segs := cvSegs σ A.segs B.segs }

def cvT (σ : List (Nat × Nat)) (T1 : Tm) : Tm → Prop
  | [] => True
  | (t, v) :: r => tagTo σ (tget T1 t) v = v ∧ cvT σ T1 r

def cvH1 (σ : List (Nat × Nat)) (mv : Nat) (H1 : HF) (j : Nat) (B : Blk) : Option Blk :=
  match look (swap σ) j with
  | some i => (H1 i).map fun A => cvB σ A B
  | none => bif Nat.beq B.size 0 && Nat.ble mv j then some B else none

def cvH (σ : List (Nat × Nat)) (mv : Nat) (H1 : HF) : Heap → Prop
  | [] => True
  | (j, B) :: r => cvH1 σ mv H1 j B = some B ∧ cvH σ mv H1 r

theorem tagTo_rel {σ : List (Nat × Nat)} {μ μ' : Mu} (hσ : Renames σ μ μ') (v v' r : Value) (h : VRel μ v r) : VRel μ' (tagTo σ v v') r := by
  unfold tagTo
  split
  · cases h
    exact .sliceE _ _ _ _ _ _ (.inr rfl)
  · split
    · rename_i j hj
      cases h with
      | slice e _ _ _ c' hc hz => exact VRel.sliceS (hσ _ _ _ hj e) 0 0 _ _ c' hc (hz.imp id fun k => by rw [hσ.szs _ _ e]; simpa using k)
    · exact .junk _
  · exact rn_rel hσ 6 _ _ h

theorem cvSegs_size (σ : List (Nat × Nat)) : ∀ (l l' : List Seg), segsSize (cvSegs σ l l') = segsSize l
  | [], _ => rfl
  | s :: r, l' => by
    have h1 := rnS_size σ s
    cases s with
    | one v =>
      cases l' with
      | nil => simp only [cvSegs, segsSize, Seg.size, cvSegs_size σ r]
      | cons s' r' => cases s' <;> simp only [cvSegs, segsSize, Seg.size, cvSegs_size σ r]
    | _ => simp only [cvSegs, segsSize, h1, cvSegs_size σ r]

theorem cvSegs_get {σ : List (Nat × Nat)} : ∀ {l l' : List Seg} {o : Nat} {v : Value}, segsGet? (cvSegs σ l l') o = some v → ∃ u, segsGet? l o = some u ∧ (v = rn σ 6 u ∨ (v = u ∧ scalar u = true) ∨ ∃ v', v = tagTo σ u v')
  | [], _, o, v, h => by simp [cvSegs, segsGet?] at h
  | s :: r, l', o, v, h => by
    have gen : ∀ (s' : Seg) (l'' : List Seg), s'.size = s.size → (∀ {o v}, s'.get? o = some v → ∃ u, s.get? o = some u ∧ (v = rn σ 6 u ∨ (v = u ∧ scalar u = true) ∨ ∃ v', v = tagTo σ u v')) → segsGet? (s' :: cvSegs σ r l'') o = some v →
        ∃ u, segsGet? (s :: r) o = some u ∧ (v = rn σ 6 u ∨ (v = u ∧ scalar u = true) ∨ ∃ v', v = tagTo σ u v') := by
      intro s' l'' hz hg h
      simp only [segsGet?, hz] at h ⊢
      cases e : Nat.blt o s.size <;> rw [e] at h
      · simp only [cond_false] at h ⊢
        exact cvSegs_get h
      · simp only [cond_true] at h ⊢
        exact hg h
    have one : ∀ (x w : Value) (hw : w = rn σ 6 x ∨ ∃ v', w = tagTo σ x v') {o : Nat} {v : Value}, (Seg.one w).get? o = some v → ∃ u, (Seg.one x).get? o = some u ∧ (v = rn σ 6 u ∨ (v = u ∧ scalar u = true) ∨ ∃ v', v = tagTo σ u v') := by
      intro x w hw o v hg
      simp only [Seg.get?] at hg ⊢
      cases e : Nat.beq o 0 <;> rw [e] at hg
      · simp at hg
      · simp at hg; subst hg
        exact ⟨x, by simp, hw.imp id .inr⟩
    have oth : ∀ {o v}, (rnS σ s).get? o = some v → ∃ u, s.get? o = some u ∧ (v = rn σ 6 u ∨ (v = u ∧ scalar u = true) ∨ ∃ v', v = tagTo σ u v') := fun hg => let ⟨u, h1, h2⟩ := rnS_get hg; ⟨u, h1, h2.imp id .inl⟩
    cases s with
    | one x =>
      cases l' with
      | nil => exact gen (.one (rn σ 6 x)) _ rfl (fun hg => one x _ (.inl rfl) hg) (by simpa only [cvSegs] using h)
      | cons s' r' =>
        cases s' with
        | one v' => exact gen (.one (tagTo σ x v')) _ rfl (fun hg => one x _ (.inr ⟨v', rfl⟩) hg) (by simpa only [cvSegs] using h)
        | _ => exact gen (.one (rn σ 6 x)) _ rfl (fun hg => one x _ (.inl rfl) hg) (by simpa only [cvSegs] using h)
    | _ => exact gen (rnS σ _) _ (rnS_size σ _) oth (by simpa only [cvSegs] using h)

theorem cvB_rel {σ : List (Nat × Nat)} {μ μ' : Mu} (hσ : Renames σ μ μ') {A B : Blk} {o : Option Obj} (h : BlkRel μ A o) : BlkRel μ' (cvB σ A B) o := by
  obtain ⟨cs, t, fr, e, h1, h2⟩ := h
  refine ⟨cs, t, fr, e, fun hro => ?_, fun off v hv => ?_⟩
  · obtain ⟨p, q, s⟩ := h1 hro
    exact ⟨p, q, by unfold Blk.size cvB; rw [cvSegs_size]; exact s⟩
  · obtain ⟨u, hu, hv'⟩ := cvSegs_get hv
    obtain ⟨r, hr, hrel⟩ := h2 off u hu
    refine ⟨r, hr, ?_⟩
    rcases hv' with rfl | ⟨rfl, hsc⟩ | ⟨v', rfl⟩
    · exact rn_rel hσ 6 _ _ hrel
    · rw [VRel.eq_of_scalar hsc hrel]; exact .of_scalar hsc
    · exact tagTo_rel hσ _ _ _ hrel

theorem cvT_get {σ : List (Nat × Nat)} {T1 : Tm} : ∀ {live : Tm}, cvT σ T1 live → ∀ t, (∃ v', tget live t = tagTo σ (tget T1 t) v') ∨ tget live t = .tuple ⟨[]⟩
  | [], _, t => .inr rfl
  | (d, v) :: r, h, t => by
    simp only [tget]
    cases e : Nat.beq t d
    · simpa using cvT_get h.2 t
    · rw [beq_tt e]; exact .inl ⟨v, by simpa using h.1.symm⟩

theorem cvH_get {σ : List (Nat × Nat)} {mv : Nat} {H1 : HF} : ∀ {H' : Heap}, cvH σ mv H1 H' → ∀ j B, lk H' j = some B → (∃ i A, look (swap σ) j = some i ∧ H1 i = some A ∧ B = cvB σ A B) ∨ (look (swap σ) j = none ∧ B.size = 0 ∧ mv ≤ j)
  | [], _, j, B, h => by simp [lk] at h
  | (k, C) :: r, hh, j, B, h => by
    simp only [lk] at h
    cases e : Nat.beq j k <;> rw [e] at h
    · exact cvH_get hh.2 j B (by simpa using h)
    · simp at h; subst h
      rw [beq_tt e]
      have h1 := hh.1
      unfold cvH1 at h1
      split at h1
      · rename_i i hi
        cases hA : H1 i with
        | none => simp [hA] at h1
        | some A => simp [hA] at h1; exact .inl ⟨i, A, hi, hA, h1.symm⟩
      · rename_i hi
        cases hc : (Nat.beq C.size 0 && Nat.ble mv k) <;> rw [hc] at h1
        · simp at h1
        · simp only [Bool.and_eq_true] at hc
          exact .inr ⟨hi, beq_tt hc.1, ble_tt hc.2⟩

theorem look_in {σ : List (Nat × Nat)} : ∀ {i j : Nat}, look σ i = some j → (i, j) ∈ σ := by
  induction σ with
  | nil => intro i j h; simp [look] at h
  | cons x r ih =>
    intro i j h
    obtain ⟨a, b⟩ := x
    simp only [look] at h
    cases e : Nat.beq i a <;> rw [e] at h
    · exact List.mem_cons_of_mem _ (ih (by simpa using h))
    · simp at h; subst h; rw [beq_tt e]; exact List.mem_cons_self

theorem swap_in {σ : List (Nat × Nat)} {i j : Nat} (h : look (swap σ) j = some i) : (i, j) ∈ σ := by
  have := look_in h
  simp only [swap, List.mem_map] at this
  obtain ⟨⟨a, b⟩, hm, e⟩ := this
  simp only [Prod.mk.injEq] at e
  obtain ⟨rfl, rfl⟩ := e
  exact hm

theorem renOk_spec {σ : List (Nat × Nat)} {mv n' : Nat} (h : renOk σ mv n' = true) : mv ≤ n' ∧ ∀ i j, (i, j) ∈ σ → look (swap σ) j = some i ∧ look σ i = some j ∧ j < n' ∧ (mv ≤ j ∨ i = j) := by
  simp only [renOk, Bool.and_eq_true, List.all_eq_true] at h
  refine ⟨ble_tt h.1, fun i j hm => ?_⟩
  obtain ⟨⟨⟨h1, h2⟩, h3⟩, h4⟩ := h.2 (i, j) hm
  refine ⟨?_, ?_, blt_tt h3, ?_⟩
  · revert h1
    cases e : look (swap σ) j with
    | none => simp
    | some k => intro h1; exact congrArg some (Nat.eq_of_beq_eq_true h1)
  · revert h2
    cases e : look σ i with
    | none => simp
    | some k => intro h2; exact congrArg some (Nat.eq_of_beq_eq_true h2)
  · simp only [Bool.or_eq_true] at h4
    exact h4.imp ble_tt beq_tt

/-- The names behind a renaming. -/
theorem cv_world {σ : List (Nat × Nat)} {mv n' : Nat} {μ1 : Mu} {h1 : HF} {w1 : World} {H' : Heap} (hok : renOk σ mv n' = true) (hr1 : Rep μ1 h1 w1) (hH : cvH σ mv h1 H') :
    ∃ μ2 : Mu, (∀ i, i < mv → μ2 i = μ1 i) ∧ (∀ i, n' ≤ i → μ2 i = none) ∧ Renames σ μ1 μ2 ∧ Rep μ2 (lk H') w1 ∧ ∀ (μ : Mu) (h : HF) (w : World), Keeps μ h w μ1 h1 w1 → Keeps μ h w μ2 (lk H') w1 := by
  obtain ⟨hn', hσ⟩ := renOk_spec hok
  let μ2 : Mu := ⟨fun j => if j < mv then μ1 j else (match look (swap σ) j with | some i => μ1 i | none => none), μ1.sz, μ1.fz⟩
  have hlow : ∀ j, j < mv → μ2 j = μ1 j := fun j hj => by simp only [μ2, if_pos hj]
  have heq : ∀ i j, (i, j) ∈ σ → μ2 j = μ1 i := by
    intro i j hm
    obtain ⟨h1, h2, h3, h4⟩ := hσ i j hm
    rcases Nat.lt_or_ge j mv with hj | hj
    · rcases h4 with h4 | h4
      · omega
      · subst h4; exact hlow i hj
    · simp only [μ2, if_neg (show ¬ j < mv by omega), h1]
  have hren : Renames σ μ1 μ2 := ⟨fun i j b hl hb => by rw [heq i j (look_in hl)]; exact hb, fun _ _ _ => rfl, fun _ _ h => h⟩
  have hback : ∀ j b, μ2 j = some b → ∃ i, μ1 i = some b := by
    intro j b hb
    simp only [μ2] at hb
    split at hb
    · exact ⟨j, hb⟩
    · split at hb
      · exact ⟨_, hb⟩
      · cases hb
  have hget : ∀ j B, lk H' j = some B → (∃ i A, h1 i = some A ∧ B = cvB σ A B ∧ look σ i = some j ∧ μ2 j = μ1 i) ∨ (μ2 j = none ∧ B.size = 0) := by
    intro j B hB
    rcases cvH_get hH j B hB with ⟨i, A, hl, hA, hB⟩ | ⟨hl, hz, hj⟩
    · obtain ⟨_, h2, _, _⟩ := hσ i j (swap_in hl)
      exact .inl ⟨i, A, hA, hB, h2, heq i j (swap_in hl)⟩
    · exact .inr ⟨by simp only [μ2, if_neg (show ¬ j < mv by omega), hl], hz⟩
  have hro : ∀ {A B : Blk}, B = cvB σ A B → B.ro = A.ro := fun e => by rw [e]; rfl
  have hsz : ∀ {A B : Blk}, B = cvB σ A B → B.size = A.size := fun e => by rw [e]; exact cvSegs_size _ _ _
  refine ⟨μ2, hlow, ?_, hren, ?_, ?_⟩
  · intro i hi
    simp only [μ2, if_neg (show ¬ i < mv by omega)]
    split
    · rename_i k hk
      have := (hσ k i (swap_in hk)).2.2.1
      omega
    · rfl
  · refine ⟨?_, ?_, ?_, ?_, hr1.frz, ?_⟩
    · intro j B hB hne
      rcases hget j B hB with ⟨i, A, hA, eB, hl, hm⟩ | ⟨hm, hz⟩
      · obtain ⟨b, hb, hrel⟩ := hr1.blk i A hA (by rw [hm, hsz eB] at hne; exact hne)
        exact ⟨b, by rw [hm]; exact hb, by rw [eB]; exact cvB_rel hren hrel⟩
      · rcases hne with h | h
        · exact absurd hz h
        · exact absurd hm h
    · intro j k A B b hA hB hj hk hne
      rcases hget j A hA with ⟨i1, A1, hA1, e1, hl1, hm1⟩ | ⟨hm1, _⟩
      · rcases hget k B hB with ⟨i2, A2, hA2, e2, hl2, hm2⟩ | ⟨hm2, _⟩
        · rw [hm1] at hj; rw [hm2] at hk
          rw [hro e1, hro e2]
          exact hr1.apart i1 i2 A1 A2 b hA1 hA2 hj hk (by rintro rfl; rw [hl1] at hl2; exact hne (by simpa using hl2))
        · rw [hm2] at hk; cases hk
      · rw [hm1] at hj; cases hj
    · intro j b hb
      obtain ⟨i, hi⟩ := hback j b hb
      exact hr1.bound i b hi
    · intro j B b hB hro' hb
      rcases hget j B hB with ⟨i, A, hA, e, hl, hm⟩ | ⟨hm, _⟩
      · rw [hm] at hb; rw [hro e] at hro'
        exact hr1.size i A b hA hro' hb
      · rw [hm] at hb; cases hb
    · intro j B b hB hro' hb
      rcases hget j B hB with ⟨i, A, hA, e, hl, hm⟩ | ⟨hm, _⟩
      · rw [hm] at hb; rw [hro e] at hro'
        exact hr1.nofz i A b hA hro' hb
      · rw [hm] at hb; cases hb
  · intro μ h w hk1
    refine { hk1 with old := fun j B b hB hm hb => ?_ }
    rcases hget j B hB with ⟨i, A, hA, e, hl, hm1⟩ | ⟨hm1, _⟩
    · rw [hm1] at hm; rw [hro e]
      exact hk1.old i A b hA hm hb
    · rw [hm1] at hm; cases hm

theorem RunsM.ren {P : Program} {N : Nat} {c : Code} {mv : Nat} {T T1 live : Tm} {H H1 H' : Heap} {n n1 n' : Nat} {e : Ex} {σ : List (Nat × Nat)} (a : RunsM P N c mv T H n e T1 H1 n1) (hok : renOk σ mv n' = true) (hT : cvT σ T1 live) (hH : cvH σ mv (lk H1) H') :
    RunsM P N c mv T H n e live H' n' := by
  refine ⟨a.1, (renOk_spec hok).1, fun μ ac w hg hmv ht hr hd hf Q hQ => ?_⟩
  refine a.2.2 μ ac w hg hmv ht hr hd hf Q ?_
  intro μ1 a1 w1 hsame hf1 ht1 hr1 hd1 hk1
  obtain ⟨μ2, h1, h2, hren, hr2, hk2⟩ := cv_world hok hr1 hH
  refine hQ μ2 a1 w1 (fun i hi => by rw [h1 i hi, hsame i hi]) h2 ⟨ht1.1, fun t => ?_⟩ hr2 hd1 (hk2 _ _ _ hk1)
  rcases cvT_get hT t with ⟨v', h⟩ | h <;> rw [h]
  · exact tagTo_rel hren _ _ _ (ht1.2 t)
  · exact .junk _

/-- Other names ahead of a piece. -/
theorem RunsM.pre {P : Program} {N : Nat} {c : Code} {T T0 T1 : Tm} {H H0 H1 : Heap} {n n0 n1 : Nat} {e : Ex} {σ : List (Nat × Nat)} (hG : P.globals.size ≤ 1000) (a : RunsM P N c n T0 H0 n0 e T1 H1 n1) (hok : renOk σ n n0 = true) (hT : cvT σ T T0) (hH : cvH σ n (lk H) H0) :
    RunsM P N c n T H n e T1 H1 n1 := by
  refine ⟨Nat.le_refl _, a.2.1, fun μ ac w hg hmv ht hr hd hf Q hQ => ?_⟩
  obtain ⟨μ2, h1, h2, hren, hr2, hk2⟩ := cv_world hok hr hH
  refine a.2.2 μ2 ac w (hg.below hG hmv h1) hmv ⟨ht.1, fun t => ?_⟩ hr2 hd h2 Q ?_
  · rcases cvT_get hT t with ⟨v', h⟩ | h <;> rw [h]
    · exact tagTo_rel hren _ _ _ (ht.2 t)
    · exact .junk _
  · intro μ' a' w' hs hf' ht' hr' hd' hk'
    exact hQ μ' a' w' (fun i hi => by rw [hs i hi, h1 i hi]) hf' ht' hr' hd' ((hk2 _ _ _ (Keeps.refl _ _ _)).trans hk')

/-- A loop by its rounds, whose lists may move. -/
theorem block_loopM {P : Program} (hG : P.globals.size ≤ 1000) {N id n mv : Nat} {body : Code} {S R : Type} (rel : S → S ⊕ R → Prop) (T0 : S → Tm) (H0 : S → Heap) (ex : R → Ex) (T1 : R → Tm) (H1 : R → Heap) (hex : ∀ s r, rel s (.inr r) → ex r ≠ .normal)
    (hgo : ∀ s s', rel s (.inl s') → RunsM P N body mv (T0 s) (H0 s) n .normal (T0 s') (H0 s') n) (hout : ∀ s r, rel s (.inr r) → RunsM P N body mv (T0 s) (H0 s) n (ex r) (T1 r) (H1 r) n)
    (s : S) (r : R) (h : LoopR rel s r) : RunsM P N (.block id (.loop body)) mv (T0 s) (H0 s) n (outOf id (ex r)) (T1 r) (H1 r) n := by
  have key : ∃ k, LRunsM P N body mv k (T0 s) (H0 s) n (ex r) (T1 r) (H1 r) n := by
    induction h with
    | last h => exact ⟨1, LRunsM.last (hex _ _ h) (hout _ _ h) 0⟩
    | more h _ ih =>
      obtain ⟨k, hk⟩ := ih
      exact ⟨k + 1, LRunsM.more hG (hgo _ _ h) hk⟩
  obtain ⟨k, hk⟩ := key
  exact RunsM.block (id := id) hk.loop

/-- A contract whose new blocks have other names at the end. -/
theorem FnSpec.ren {P : Program} {g : FuncId} {n0 n' : Nat} {A : List Value} {H H1 H' : Heap} {v : Value} {σ : List (Nat × Nat)} (f : FnSpec P g n0 A H v H1) (v2 : Value) (hok : renOk σ n0 n' = true) (hv2 : tagTo σ v v2 = v2) (hH : cvH σ n0 (lk H1) H') : FnSpec P g n0 A H v2 H' := by
  refine ⟨f.enters, fun μ w rargs hg hn ha hr => (f.runs μ w rargs hg hn ha hr).mono ?_⟩
  rintro e w' ⟨μ1, rv, ⟨hle, hsm⟩, hrep, hv, he, hk⟩
  obtain ⟨μ2, h1, _, hren, hr2, hk2⟩ := cv_world hok hrep hH
  refine ⟨μ2, rv, ⟨⟨?_, ?_, (hk2 _ _ _ hk).kfz⟩, fun i hi => by rw [h1 i hi, hsm i hi]⟩, hr2, ?_, he, hk2 _ _ _ hk⟩
  · intro i b hi
    have hlt : i < n0 := by
      rcases Nat.lt_or_ge i n0 with h | h
      · exact h
      · rw [hn i h] at hi; cases hi
    rw [h1 i hlt]; exact hle i b hi
  · intro i b hi
    exact (hk2 _ _ _ hk).ksz b (hr.bound i b hi)
  · rw [← hv2]; exact tagTo_rel hren _ _ _ hv

/-- A contract for lists, where they are nil yet. -/
theorem FnSpec.pre {P : Program} {g : FuncId} {n0 n : Nat} {A A0 : List Value} {H H0 H1 : Heap} {v : Value} (f : FnSpec P g n0 A0 H0 v H1) (σ : List (Nat × Nat)) (hG : P.globals.size ≤ 1000) (hn0 : n ≤ n0) (hn : 1000 ≤ n) (hok : renOk σ n n0 = true) (hA : A0 = List.zipWith (tagTo σ) A A0) (hl : A.length = A0.length) (hH : cvH σ n (lk H) H0) : FnSpec P g n A H v H1 := by
  refine ⟨f.enters, fun μ w rargs hg hfr ha hr => ?_⟩
  obtain ⟨μ2, h1, h2, hren, hr2, hk2⟩ := cv_world hok hr hH
  have key : ∀ (A A0 rs : List Value), A.length = A0.length → VRels μ A rs → VRels μ2 (List.zipWith (tagTo σ) A A0) rs := by
    intro A
    induction A with
    | nil => intro A0 rs hl h; cases h; simpa using VRels.nil
    | cons x A ih =>
      intro A0 rs hl h
      cases A0 with
      | nil => simp at hl
      | cons y A0 =>
        cases h with
        | cons a b => exact .cons (tagTo_rel hren _ _ _ a) (ih A0 _ (by simpa using hl) b)
  refine (f.runs μ2 w rargs (fun i hi => by rw [h1 i (by omega)]; exact hg i hi) h2 (by rw [hA]; exact key A A0 rargs hl ha) hr2).mono ?_
  rintro e w' ⟨μ1, rv, ⟨hle, hsm⟩, hrep, hv, he, hk⟩
  have hkk := (hk2 _ _ _ (Keeps.refl μ (lk H) w)).trans hk
  refine ⟨μ1, rv, ⟨⟨?_, fun i b hi => hkk.ksz b (hr.bound i b hi), hkk.kfz⟩, fun i hi => by rw [hsm i (by omega), h1 i hi]⟩, hrep, hv, he, hkk⟩
  intro i b hi
  have hlt : i < n := by
    rcases Nat.lt_or_ge i n with h | h
    · exact h
    · rw [hfr i h] at hi; cases hi
  rw [hsm i (by omega), h1 i hlt]; exact hi

-- ---------------------------------------------------------------- the executor's check

/-- A round, by the executor's run of it, its lists under the names that they had. -/
def xrunM (P : Program) (N : Nat) (c : Code) (fuel mv : Nat) (T : Tm) (H : Heap) (n : Nat) (hs : List Hint) (σ : List (Nat × Nat)) (e : Ex) (live : Tm) (H' : Heap) (n' : Nat) : Prop :=
  match xcode P N fuel c { T, H, n, hs, ob := [] } with
  | some (e', s) => allP s.ob ∧ (e' = e ∧ (cvT σ s.T live ∧ (cvH σ mv (lk s.H) H' ∧ (renOk σ mv n' && Nat.ble mv n) = true)))
  | none => False

/-- A round that moves lists, out of the executor's run. -/
theorem runsM_of_x {P : Program} (hG : P.globals.size ≤ 1000) (hM : P.follows .mixedOrders = true) {N : Nat} {c : Code} (fuel mv : Nat) (hs : List Hint) (σ : List (Nat × Nat)) {T : Tm} {H : Heap} {n : Nat} {e : Ex} {live : Tm} {H' : Heap} {n' : Nat} {O : Prop} (o : O)
    (h : (O ∧ (e = e ∧ (tmT live ∧ (subT H' ∧ true = true)))) = xrunM P N c fuel mv T H n hs σ e live H' n') : RunsM P N c mv T H n e live H' n' := by
  have h2 : xrunM P N c fuel mv T H n hs σ e live H' n' := h ▸ ⟨o, rfl, tmT_all live, subT_all H', rfl⟩
  unfold xrunM at h2
  split at h2
  · rename_i e' s hx
    obtain ⟨ho, rfl, ht, hh, hf⟩ := h2
    simp only [Bool.and_eq_true] at hf
    exact (((xcode_ok hG hM fuel c _ s e' hx).2 (allP_spec ho)).1.toM (ble_tt hf.2)).ren hf.1 ht hh
  · exact h2.elim

/-- What a renaming ahead of a piece must be. -/
def preP (σ : List (Nat × Nat)) (mv n0 : Nat) (T : Tm) (H : Heap) (T0 : Tm) (H0 : Heap) : Prop := cvT σ T T0 ∧ (cvH σ mv (lk H) H0 ∧ (renOk σ mv n0 && Nat.ble 1000 mv) = true)

/-- A piece that moves lists, with other names ahead of it. -/
theorem runs_of_pre {P : Program} (hG : P.globals.size ≤ 1000) {N : Nat} {c : Code} {T0 T1 : Tm} {H0 H1 : Heap} {n n0 n1 : Nat} {e : Ex} (a : RunsM P N c n T0 H0 n0 e T1 H1 n1) (σ : List (Nat × Nat)) {T : Tm} {H : Heap}
    (h : (tmT T0 ∧ (subT H0 ∧ true = true)) = preP σ n n0 T H T0 H0) : Runs P N c T H n e T1 H1 n1 := by
  have h2 : preP σ n n0 T H T0 H0 := h ▸ ⟨tmT_all T0, subT_all H0, rfl⟩
  obtain ⟨hT, hH, hf⟩ := h2
  simp only [Bool.and_eq_true] at hf
  exact (a.pre hG hf.1 hT hH).toRuns (ble_tt hf.2)

end Go.Proofs.Ytgnhhnmpeklciaa.VX
