/-
  A call by its contract. No condition.
-/
import Derived.Test.YtgnhhnmpeklciaaVF
namespace Go.Proofs.Ytgnhhnmpeklciaa.VX
open Go
set_option linter.unusedSimpArgs false
set_option linter.unusedVariables false

/-- σ's new names stand in μ' for what the old ones stand for in μ. -/
structure Renames (σ : List (Nat × Nat)) (μ μ' : Mu) : Prop where
  nms : ∀ i j b, look σ i = some j → μ i = some b → μ' j = some b
  szs : ∀ i b, μ i = some b → μ'.sz b = μ.sz b
  fzs : ∀ b cs, μ.fz b = some cs → μ'.fz b = some cs
instance {σ : List (Nat × Nat)} {μ μ' : Mu} : CoeFun (Renames σ μ μ') (fun _ => ∀ i j b, look σ i = some j → μ i = some b → μ' j = some b) := ⟨Renames.nms⟩

theorem VRels.map {μ μ' : Mu} {f : Value → Value} (hf : ∀ x y, VRel μ x y → VRel μ' (f x) y) : ∀ {l m : List Value}, VRels μ l m → VRels μ' (l.map f) m
  | [], [], _ => .nil
  | x :: l, y :: m, h => by cases h with | cons a b => exact .cons (hf x y a) (VRels.map hf b)
  | [], _ :: _, h => nomatch h
  | _ :: _, [], h => nomatch h

theorem rn_rel {σ : List (Nat × Nat)} {μ μ' : Mu} (hσ : Renames σ μ μ') : ∀ (d : Nat) (v r : Value), VRel μ v r → VRel μ' (rn σ d v) r := by
  intro d
  induction d with
  | zero =>
    intro v r h
    cases h with
    | ptr e off => simp only [rn]; split <;> first | exact .junk _ | (rename_i j hj; exact .ptr (hσ _ _ _ hj e) _)
    | ptrS e s off => simp only [rn]; split <;> first | exact .junk _ | (rename_i j hj; exact .ptrS (hσ _ _ _ hj e) _ _)
    | slice e off l c c' hc hz => simp only [rn]; split <;> first | exact .junk _ | (rename_i j hj; exact .slice (hσ _ _ _ hj e) _ _ _ _ hc (hz.imp id fun k => by rw [hσ.szs _ _ e]; exact k))
    | sliceS e s off l c c' hc hz => simp only [rn]; split <;> first | exact .junk _ | (rename_i j hj; exact .sliceS (hσ _ _ _ hj e) _ _ _ _ _ hc (hz.imp id fun k => by rw [hσ.szs _ _ e]; exact k))
    | sliceE i s off c a c' hz => simp only [rn]; split <;> first | exact .junk _ | exact .sliceE _ _ _ _ _ _ hz
    | junk r => exact .junk _
    | und => exact .und
    | bool b => exact .bool b
    | int k n => exact .int k n
    | float k n => exact .float k n
    | string s => exact .string s
    | ptrNil => exact .ptrNil
    | sliceNil => exact .sliceNil
    | mapNil => exact .mapNil
    | nilFunc => exact .nilFunc
    | nilIface => exact .nilIface
    | func fn a b => exact .junk _
    | lst z l f hs hr k => exact .lst z l f hs hr fun e => (k e).fmono hσ.fzs
    | fptr l hs hf k => exact .fptr l hs (hσ.fzs _ _ hf) k
    | emp a c => exact .emp a c
    | iface t a => exact .junk _
    | agg a => exact .junk _
    | tup a => exact .junk _
  | succ d ih =>
    intro v r h
    cases h with
    | ptr e off => simp only [rn]; split <;> first | exact .junk _ | (rename_i j hj; exact .ptr (hσ _ _ _ hj e) _)
    | ptrS e s off => simp only [rn]; split <;> first | exact .junk _ | (rename_i j hj; exact .ptrS (hσ _ _ _ hj e) _ _)
    | slice e off l c c' hc hz => simp only [rn]; split <;> first | exact .junk _ | (rename_i j hj; exact .slice (hσ _ _ _ hj e) _ _ _ _ hc (hz.imp id fun k => by rw [hσ.szs _ _ e]; exact k))
    | sliceS e s off l c c' hc hz => simp only [rn]; split <;> first | exact .junk _ | (rename_i j hj; exact .sliceS (hσ _ _ _ hj e) _ _ _ _ _ hc (hz.imp id fun k => by rw [hσ.szs _ _ e]; exact k))
    | sliceE i s off c a c' hz => simp only [rn]; split <;> first | exact .junk _ | exact .sliceE _ _ _ _ _ _ hz
    | junk r => exact .junk _
    | und => exact .und
    | bool b => exact .bool b
    | int k n => exact .int k n
    | float k n => exact .float k n
    | string s => exact .string s
    | ptrNil => exact .ptrNil
    | sliceNil => exact .sliceNil
    | mapNil => exact .mapNil
    | nilFunc => exact .nilFunc
    | nilIface => exact .nilIface
    | func fn a b => exact .func fn (VRels.map ih a) (VRels.map ih b)
    | lst z l f hs hr k => exact .lst z l f hs hr fun e => (k e).fmono hσ.fzs
    | fptr l hs hf k => exact .fptr l hs (hσ.fzs _ _ hf) k
    | emp a c => exact .emp a c
    | iface t a => exact .iface t (ih _ _ a)
    | agg a => exact .agg (VRels.map ih a)
    | tup a => exact .tup (VRels.map ih a)

theorem rnS_size (σ : List (Nat × Nat)) (s : Seg) : (rnS σ s).size = s.size := by cases s <;> rfl

theorem rnB_size (σ : List (Nat × Nat)) (B : Blk) : (rnB σ B).size = B.size := by
  unfold rnB Blk.size
  simp only
  generalize B.segs = l
  induction l with
  | nil => rfl
  | cons s l ih => simp only [List.map_cons, segsSize, rnS_size, ih]

theorem rnS_get {σ : List (Nat × Nat)} {s : Seg} {o : Nat} {v : Value} (h : (rnS σ s).get? o = some v) : ∃ u, s.get? o = some u ∧ (v = rn σ 6 u ∨ (v = u ∧ scalar u = true)) := by
  cases s with
  | one x =>
    simp only [rnS, Seg.get?] at h ⊢
    cases e : Nat.beq o 0 <;> rw [e] at h <;> simp at h
    exact ⟨x, by simp, .inl h.symm⟩
  | ints k n a =>
    simp only [rnS, Seg.get?] at h ⊢
    cases e : Nat.blt o n <;> rw [e] at h <;> simp at h
    exact ⟨_, rfl, .inr ⟨h.symm, rfl⟩⟩
  | bools n a =>
    simp only [rnS, Seg.get?] at h ⊢
    cases e : Nat.blt o n <;> rw [e] at h <;> simp at h
    exact ⟨_, rfl, .inr ⟨h.symm, rfl⟩⟩
  | rows n sz g =>
    simp only [rnS, Seg.get?] at h ⊢
    cases e : Nat.blt o (n * sz) <;> rw [e] at h <;> simp at h
    obtain ⟨u, hu, hv⟩ := h
    exact ⟨u, by simpa using hu, .inl hv.symm⟩
  | gap n => simp [rnS, Seg.get?] at h

theorem rnB_get {σ : List (Nat × Nat)} {B : Blk} {o : Nat} {v : Value} (h : (rnB σ B).get? o = some v) : ∃ u, B.get? o = some u ∧ (v = rn σ 6 u ∨ (v = u ∧ scalar u = true)) := by
  unfold rnB Blk.get? at *
  simp only at h ⊢
  generalize B.segs = l at *
  induction l generalizing o with
  | nil => simp [segsGet?] at h
  | cons s l ih =>
    simp only [List.map_cons, segsGet?, rnS_size] at h ⊢
    cases e : Nat.blt o s.size <;> rw [e] at h
    · simpa using ih (by simpa using h)
    · simpa using rnS_get (by simpa using h)

theorem rnB_rel {σ : List (Nat × Nat)} {μ μ' : Mu} (hσ : Renames σ μ μ') {B : Blk} {o : Option Obj} (h : BlkRel μ B o) : BlkRel μ' (rnB σ B) o := by
  obtain ⟨cs, t, fr, e, h1, h2⟩ := h
  refine ⟨cs, t, fr, e, fun hro => ?_, fun off v hv => ?_⟩
  · obtain ⟨a, b, c⟩ := h1 hro
    exact ⟨a, b, by rw [rnB_size]; exact c⟩
  · obtain ⟨u, hu, hv'⟩ := rnB_get hv
    obtain ⟨r, hr, hrel⟩ := h2 off u hu
    refine ⟨r, hr, ?_⟩
    rcases hv' with rfl | ⟨rfl, hs⟩
    · exact rn_rel hσ 6 u r hrel
    · rw [VRel.eq_of_scalar hs hrel]; exact .of_scalar hs

-- ---------------------------------------------------------------- look

theorem look_mem {σ : List (Nat × Nat)} {i j : Nat} (h : look σ i = some j) : (i, j) ∈ σ := by
  induction σ with
  | nil => simp [look] at h
  | cons x r ih =>
    obtain ⟨a, b⟩ := x
    simp only [look] at h
    cases e : Nat.beq i a <;> rw [e] at h
    · simp at h; simp [ih h]
    · simp at h; subst h; rw [beq_tt e]; simp

theorem look_append (a b : List (Nat × Nat)) (i : Nat) : look (a ++ b) i = match look a i with | some j => some j | none => look b i := by
  induction a with
  | nil => rfl
  | cons x r ih =>
    obtain ⟨p, q⟩ := x
    simp only [List.cons_append, look]
    cases Nat.beq i p
    · simpa using ih
    · simp

theorem look_swap_mem {σ : List (Nat × Nat)} {i j : Nat} (h : look (swap σ) j = some i) : (i, j) ∈ σ := by
  have := look_mem h
  unfold swap at this
  simp at this
  obtain ⟨a, b, hm, rfl, rfl⟩ := this
  exact hm

structure SwapOk (σ : List (Nat × Nat)) (n0 : Nat) : Prop where
  back : ∀ i j, (i, j) ∈ σ → look (swap σ) j = some i
  forth : ∀ i j, (i, j) ∈ σ → look σ i = some j
  lt : ∀ i j, (i, j) ∈ σ → j < n0
  glob : ∀ i j, (i, j) ∈ σ → 1000 ≤ j ∨ i = j

theorem swapOk_spec {σ : List (Nat × Nat)} {n0 : Nat} (h : swapOk σ n0 = true) : SwapOk σ n0 := by
  unfold swapOk at h
  have key : ∀ i j, (i, j) ∈ σ → look (swap σ) j = some i ∧ look σ i = some j ∧ j < n0 ∧ (1000 ≤ j ∨ i = j) := by
    intro i j hm
    have := List.all_eq_true.1 h (i, j) hm
    simp only [Bool.and_eq_true, Bool.or_eq_true] at this
    obtain ⟨⟨⟨a, b⟩, c⟩, d⟩ := this
    refine ⟨?_, ?_, blt_tt c, d.imp ble_tt beq_tt⟩
    · cases e : look (swap σ) j with
      | none => simp [e] at a
      | some x => simp [e] at a; rw [a]
    · cases e : look σ i with
      | none => simp [e] at b
      | some x => simp [e] at b; rw [b]
  exact ⟨fun i j m => (key i j m).1, fun i j m => (key i j m).2.1, fun i j m => (key i j m).2.2.1, fun i j m => (key i j m).2.2.2⟩

theorem postHas_spec {post : Heap} {τ0 : List (Nat × Nat)} : ∀ {τ : List (Nat × Nat)}, postHas post τ0 τ = true → ∀ j i, (j, i) ∈ τ → (∃ B, lk post j = some B) ∧ look τ0 j = some i
  | [], _, j, i, h => by simp at h
  | (a, b) :: r, hp, j, i, h => by
    simp only [postHas, Bool.and_eq_true] at hp
    simp only [List.mem_cons, Prod.mk.injEq] at h
    rcases h with ⟨rfl, rfl⟩ | h
    · refine ⟨Option.isSome_iff_exists.1 hp.1.1, ?_⟩
      have h2 := hp.1.2
      revert h2
      cases look τ0 j with
      | none => simp
      | some k => intro h2; exact congrArg some (Nat.eq_of_beq_eq_true h2)
    · exact postHas_spec hp.2 j i h

structure NewOk (τ σ : List (Nat × Nat)) (n0 n : Nat) : Prop where
  lo : ∀ j i, (j, i) ∈ τ → n0 ≤ j
  fresh : ∀ j i, (j, i) ∈ τ → look σ i = none
  mem : ∀ j i, (j, i) ∈ τ → i ∈ τ.map (·.2)
  uniq : ∀ j j' i, (j, i) ∈ τ → (j', i) ∈ τ → j = j'
  ge : ∀ j i, (j, i) ∈ τ → n ≤ i
theorem newOk_spec : ∀ {τ σ : List (Nat × Nat)} {n0 n : Nat}, newOk τ σ n0 n = true → NewOk τ σ n0 n
  | [], σ, n0, n, _ => ⟨by simp, by simp, by simp, by simp, by simp⟩
  | (j, i) :: r, σ, n0, n, h => by
    simp only [newOk, Bool.and_eq_true] at h
    obtain ⟨⟨⟨a, b⟩, c⟩, d⟩ := h
    have hr := newOk_spec d
    have hi : i = n := beq_tt a
    refine ⟨?_, ?_, ?_, ?_, ?_⟩
    · intro j' i' hm
      simp only [List.mem_cons, Prod.mk.injEq] at hm
      rcases hm with ⟨rfl, rfl⟩ | hm
      · exact ble_tt b
      · exact hr.lo _ _ hm
    · intro j' i' hm
      simp only [List.mem_cons, Prod.mk.injEq] at hm
      rcases hm with ⟨rfl, rfl⟩ | hm
      · simpa using c
      · exact hr.fresh _ _ hm
    · intro j' i' hm
      simp only [List.map_cons, List.mem_cons]
      simp only [List.mem_cons, Prod.mk.injEq] at hm
      rcases hm with ⟨rfl, rfl⟩ | hm
      · exact .inl rfl
      · exact .inr (hr.mem _ _ hm)
    · intro j1 j2 i' h1 h2
      simp only [List.mem_cons, Prod.mk.injEq] at h1 h2
      rcases h1 with ⟨rfl, rfl⟩ | h1 <;> rcases h2 with ⟨rfl, e⟩ | h2
      · rfl
      · have := hr.ge _ _ h2; omega
      · have := hr.ge _ _ h1; omega
      · exact hr.uniq _ _ _ h1 h2
    · intro j' i' hm
      simp only [List.mem_cons, Prod.mk.injEq] at hm
      rcases hm with ⟨rfl, rfl⟩ | hm
      · omega
      · have := hr.ge _ _ hm; omega

-- ---------------------------------------------------------------- the blocks that are handed over

theorem subHeap_lk {H : HF} {σ0 : List (Nat × Nat)} : ∀ {σ : List (Nat × Nat)} {h0 : Heap}, subHeap H σ0 σ = some h0 → ∀ j B, lk h0 j = some B → ∃ i A, (i, j) ∈ σ ∧ H i = some A ∧ B = rnB σ0 A
  | [], h0, h, j, B, hl => by simp [subHeap] at h; subst h; simp [lk] at hl
  | (i, k) :: r, h0, h, j, B, hl => by
    simp only [subHeap] at h
    cases hA : H i with
    | none => simp [hA] at h
    | some A =>
      cases hr : subHeap H σ0 r with
      | none => simp [hA, hr] at h
      | some h1 =>
        simp [hA, hr] at h; subst h
        simp only [lk] at hl
        cases e : Nat.beq j k <;> rw [e] at hl
        · obtain ⟨i', A', hm, hA', hB⟩ := subHeap_lk hr j B (by simpa using hl)
          exact ⟨i', A', by simp [hm], hA', hB⟩
        · simp at hl
          exact ⟨i, A, by rw [beq_tt e]; simp, hA, hl.symm⟩

theorem subHeap_some {H : HF} {σ0 : List (Nat × Nat)} : ∀ {σ : List (Nat × Nat)} {h0 : Heap}, subHeap H σ0 σ = some h0 → ∀ i j, (i, j) ∈ σ → ∃ A, H i = some A
  | [], h0, h, i, j, hm => by simp at hm
  | (i', k) :: r, h0, h, i, j, hm => by
    simp only [subHeap] at h
    cases hA : H i' with
    | none => simp [hA] at h
    | some A =>
      cases hr : subHeap H σ0 r with
      | none => simp [hA, hr] at h
      | some h1 =>
        simp only [List.mem_cons, Prod.mk.injEq] at hm
        rcases hm with ⟨rfl, rfl⟩ | hm
        · exact ⟨A, hA⟩
        · exact subHeap_some hr i j hm

theorem subHeap_mem {H : HF} {σ0 : List (Nat × Nat)} : ∀ {σ : List (Nat × Nat)} {h0 : Heap}, subHeap H σ0 σ = some h0 → ∀ i j, (i, j) ∈ σ → ∃ A, H i = some A ∧ (j, rnB σ0 A) ∈ h0
  | [], h0, h, i, j, hm => by simp at hm
  | (i', k) :: r, h0, h, i, j, hm => by
    simp only [subHeap] at h
    cases hA : H i' with
    | none => simp [hA] at h
    | some A =>
      cases hr : subHeap H σ0 r with
      | none => simp [hA, hr] at h
      | some h1 =>
        simp [hA, hr] at h; subst h
        simp only [List.mem_cons, Prod.mk.injEq] at hm
        rcases hm with ⟨rfl, rfl⟩ | hm
        · exact ⟨A, hA, by simp⟩
        · obtain ⟨A', h1', h2⟩ := subHeap_mem hr i j hm
          exact ⟨A', h1', by simp [h2]⟩

theorem gone_spec {H : HF} {post : Heap} : ∀ {σ : List (Nat × Nat)} {h : HF} {i : Nat} {B : Blk}, app (goneEff H post σ) h i = some B → h i = some B ∧ ∀ j, (i, j) ∈ σ → lk post j = none → ∀ A, H i = some A → A.ro = true
  | [], h, i, B, he => ⟨he, fun j hm => by simp at hm⟩
  | (k, l) :: r, h, i, B, he => by
    simp only [goneEff] at he
    cases hc : (roB (H k) || (lk post l).isSome) <;> rw [hc] at he
    · simp only [cond_false, app] at he
      obtain ⟨h1, h2⟩ := gone_spec he
      have hik : i ≠ k := by rintro rfl; rw [upd1_del] at h1; cases h1
      rw [upd1_other hik] at h1
      refine ⟨h1, fun j hm hp A hA => ?_⟩
      simp only [List.mem_cons, Prod.mk.injEq] at hm
      rcases hm with ⟨e, _⟩ | hm
      · exact absurd e hik
      · exact h2 j hm hp A hA
    · simp only [cond_true] at he
      obtain ⟨h1, h2⟩ := gone_spec he
      refine ⟨h1, fun j hm hp A hA => ?_⟩
      simp only [List.mem_cons, Prod.mk.injEq] at hm
      rcases hm with ⟨rfl, rfl⟩ | hm
      · simp only [Bool.or_eq_true] at hc
        rcases hc with hc | hc
        · simpa [hA, roB] using hc
        · rw [hp] at hc; simp at hc
      · exact h2 j hm hp A hA

theorem app_append' (a b : List (Nat × Upd)) (h : HF) : app (a ++ b) h = app b (app a h) := app_append a b h

/-- What 'postEff' does to a heap. -/
theorem postEff_app {ρ : List (Nat × Nat)} (hinj : ∀ a b i, look ρ a = some i → look ρ b = some i → a = b) : ∀ {post : Heap} {e : List (Nat × Upd)} (_ : postEff ρ post = some e) (_ : nodupIds post = true) (h : HF) (i : Nat),
    (∀ j B, look ρ j = some i → lk post j = some B → app e h i = some (rnB ρ B)) ∧ ((∀ j, look ρ j = some i → lk post j = none) → app e h i = h i)
  | [], e, he, _, h, i => by
    simp [postEff] at he; subst he
    exact ⟨fun j B _ hl => by simp [lk] at hl, fun _ => rfl⟩
  | (k, C) :: r, e, he, hn, h, i => by
    simp only [postEff] at he
    cases hk : look ρ k with
    | none => simp [hk] at he
    | some k' =>
      cases hr : postEff ρ r with
      | none => simp [hk, hr] at he
      | some e' =>
        simp [hk, hr] at he; subst he
        simp only [nodupIds, Bool.and_eq_true] at hn
        have ih := postEff_app hinj hr hn.2 (upd1 h (k', .blk (rnB ρ C))) i
        have hkn : lk r k = none := by simpa using hn.1
        simp only [app]
        constructor
        · intro j B hj hl
          simp only [lk] at hl
          cases e : Nat.beq j k <;> rw [e] at hl
          · exact ih.1 j B hj (by simpa using hl)
          · simp at hl; subst hl
            have hjk := beq_tt e
            subst hjk
            rw [hk] at hj
            obtain rfl : k' = i := by simpa using hj
            rw [ih.2 (fun j' hj' => by rw [hinj j' j k' hj' hk]; exact hkn)]
            exact upd1_same _ _ _
        · intro hno
          have hki : k' ≠ i := by
            rintro rfl
            have := hno k hk
            simp [lk, beq_self] at this
          rw [ih.2 (fun j' hj' => by
            have := hno j' hj'
            simp only [lk] at this
            cases e : Nat.beq j' k <;> rw [e] at this
            · simpa using this
            · simp at this)]
          exact upd1_other (fun h => hki h.symm)

/-- A call that the executor takes. -/
theorem postEff_mem {ρ : List (Nat × Nat)} : ∀ {post : Heap} {e : List (Nat × Upd)}, postEff ρ post = some e → ∀ j B i, lk post j = some B → look ρ j = some i → ∃ x ∈ e, x.1 = i
  | [], e, _, j, B, i, h, _ => by simp [lk] at h
  | (k, C) :: r, e, hp, j, B, i, h, hl => by
    simp only [postEff] at hp
    cases h1 : look ρ k with
    | none => simp [h1] at hp
    | some i0 =>
      cases h2 : postEff ρ r with
      | none => simp [h1, h2] at hp
      | some e' =>
        simp only [h1, h2, Option.some.injEq] at hp
        subst hp
        simp only [lk] at h
        cases hb : Nat.beq j k <;> rw [hb] at h
        · obtain ⟨x, hx, hxi⟩ := postEff_mem h2 j B i (by simpa using h) hl
          exact ⟨x, List.mem_cons_of_mem _ hx, hxi⟩
        · rw [← beq_tt hb, hl] at h1
          obtain rfl : i = i0 := by simpa using h1
          exact ⟨_, List.mem_cons_self, rfl⟩

theorem renBack_new {σ τ : List (Nat × Nat)} {n0 n : Nat} {post : Heap} (hσ : SwapOk σ n0) (hτ : NewOk τ σ n0 n) (c4 : postHas post τ τ = true) {j i : Nat} (hm : (j, i) ∈ τ) : look (renBack σ τ) j = some i := by
  obtain ⟨_, hlj⟩ := postHas_spec c4 j i hm
  unfold renBack
  rw [look_append]
  cases e3 : look (swap σ) j with
  | some i' =>
    have h1 := hσ.lt i' j (look_swap_mem e3)
    have h2 := hτ.lo j i hm
    omega
  | none => exact hlj

/-- A new name's block is laid by the call. -/
theorem xcall_neweff {P : Program} {H : HF} {n : Nat} {g : FuncId} {args : List Value} {hs : List Hint} {out : Out} (hx : xcall P H n g args hs = some out) (i : Nat) (hi : i ∈ out.new) : ∃ x ∈ out.eff, x.1 = i := by
  unfold xcall at hx
  split at hx
  case h_2 => simp at hx
  case h_1 σ τ n0 v post hs' =>
  cases hsub : subHeap H σ σ with
  | none => simp [hsub] at hx
  | some h0 =>
  simp only [hsub] at hx
  cases hpe : postEff (renBack σ τ) post with
  | none => simp [hpe] at hx
  | some e =>
  simp only [hpe] at hx
  cases hc : (swapOk σ n0 && newOk τ σ n0 n && (nodupIds post && postHas post τ τ) && Nat.ble 1000 n0) <;> rw [hc] at hx
  · simp at hx
  simp only [cond_true, Option.some.injEq] at hx
  subst hx
  simp only [Bool.and_eq_true] at hc
  obtain ⟨⟨⟨c1, c2⟩, c3, c4⟩, c5⟩ := hc
  simp only [List.mem_map] at hi
  obtain ⟨⟨j, i'⟩, hm, rfl⟩ := hi
  obtain ⟨⟨C, hC⟩, _⟩ := postHas_spec c4 j i' hm
  obtain ⟨x, hx, hxi⟩ := postEff_mem hpe j C i' hC (renBack_new (swapOk_spec c1) (newOk_spec c2) c4 hm)
  exact ⟨x, List.mem_append_right _ hx, hxi⟩

theorem xcall_ok {P : Program} {o : Oper} {ρ : Operand → Value} {H h : HF} {n : Nat} {g : FuncId} {args : List Value} {hs : List Hint} {out : Out} (hG : P.globals.size ≤ 1000) (hx : xcall P H n g args hs = some out) (hob : ∀ q ∈ out.ob, q)
    (hrd : ∀ i ∈ out.rd, h i = H i)
    (hrun : ∀ (μ : Mu) (a : Act) (w : World), (∀ x ∈ o.op.operands, VRel μ (ρ x) (a.eval x)) → ∃ rargs, VRels μ args rargs ∧ (execOp a.eval o).run P w = (callFunc g ⟨rargs⟩).run P w) : OpSpec P o ρ h out := by
  unfold xcall at hx
  split at hx
  case h_2 => simp at hx
  case h_1 σ τ n0 v post hs' =>
  cases hsub : subHeap H σ σ with
  | none => simp [hsub] at hx
  | some h0 =>
  simp only [hsub] at hx
  cases hpe : postEff (renBack σ τ) post with
  | none => simp [hpe] at hx
  | some e =>
  simp only [hpe] at hx
  cases hc : (swapOk σ n0 && newOk τ σ n0 n && (nodupIds post && postHas post τ τ) && Nat.ble 1000 n0) <;> rw [hc] at hx
  · simp at hx
  simp only [cond_true, Option.some.injEq] at hx
  subst hx
  simp only [Bool.and_eq_true] at hc
  obtain ⟨⟨⟨c1, c2⟩, c3, c4⟩, c5⟩ := hc
  have hσ := swapOk_spec c1
  have hτ := newOk_spec c2
  have hspec : FnSpec P g n0 (args.map (rn σ 6)) h0 v post := hob _ (by simp)
  intro μ a w hg hxs hr hn K Q hk
  simp only at hk hn
  obtain ⟨rargs, hargs, hex⟩ := hrun μ a w hxs
  -- the callee's own names
  let μ0 : Mu := ⟨fun j => match look (swap σ) j with
    | some i => μ i
    | none => if j < P.globals.size then some j else none, μ.sz, μ.fz⟩
  have hn0 : 1000 ≤ n0 := ble_tt c5
  have μ0_of : ∀ i j, (i, j) ∈ σ → μ0 j = μ i := fun i j hm => by simp only [μ0, hσ.back i j hm]
  have hren : Renames σ μ μ0 := ⟨fun i j b hl hb => by rw [μ0_of i j (look_mem hl)]; exact hb, fun _ _ _ => rfl, fun _ _ h => h⟩
  have hgl : Gl P μ0 := by
    intro k hk'
    simp only [μ0]
    split
    · rename_i i hi
      have hm := look_swap_mem hi
      rcases hσ.glob i k hm with hle | rfl
      · omega
      · exact hg i hk'
    · simp [hk']
  have hfresh : ∀ j, n0 ≤ j → μ0 j = none := by
    intro j hj
    simp only [μ0]
    split
    · rename_i i hi
      have := hσ.lt i j (look_swap_mem hi)
      omega
    · rw [if_neg (by omega)]
  have hHh : ∀ i j, (i, j) ∈ σ → h i = H i := fun i j hm => hrd i (by simp; exact ⟨j, hm⟩)
  have hrep0 : Rep μ0 (lk h0) w := by
    refine ⟨?_, ?_, ?_, ?_, hr.frz, ?_⟩
    · intro j B hB hne
      obtain ⟨i, A, hm, hA, rfl⟩ := subHeap_lk hsub j B hB
      rw [← hHh i j hm] at hA
      obtain ⟨b, hb, hrel⟩ := hr.blk i A hA (by rw [rnB_size, μ0_of i j hm] at hne; exact hne)
      exact ⟨b, by rw [μ0_of i j hm]; exact hb, rnB_rel hren hrel⟩
    · intro j k A B b hA hB hj hk' hne
      obtain ⟨i, A', hm, hA', rfl⟩ := subHeap_lk hsub j A hA
      obtain ⟨i', B', hm', hB', rfl⟩ := subHeap_lk hsub k B hB
      rw [← hHh i j hm] at hA'
      rw [← hHh i' k hm'] at hB'
      rw [μ0_of i j hm] at hj
      rw [μ0_of i' k hm'] at hk'
      have hii : i ≠ i' := by
        rintro rfl
        have h1 := hσ.forth i j hm
        have h2 := hσ.forth i k hm'
        rw [h1] at h2
        exact hne (by simpa using h2)
      exact hr.apart i i' A' B' b hA' hB' hj hk' hii
    · intro j b hj
      simp only [μ0] at hj
      split at hj
      · exact hr.bound _ _ hj
      · split at hj
        · rename_i hlt
          obtain rfl : j = b := by simpa using hj
          exact hr.bound _ _ (hg j hlt)
        · cases hj
    · intro j B b hB hro hj
      obtain ⟨i, A, hm, hA, rfl⟩ := subHeap_lk hsub j B hB
      rw [← hHh i j hm] at hA
      rw [μ0_of i j hm] at hj
      exact hr.size i A b hA hro hj
    · intro j B b hB hro hj
      obtain ⟨i, A, hm, hA, rfl⟩ := subHeap_lk hsub j B hB
      rw [← hHh i j hm] at hA
      rw [μ0_of i j hm] at hj
      exact hr.nofz i A b hA hro hj
  have hargs0 : VRels μ0 (args.map (rn σ 6)) rargs := VRels.map (fun x y hxy => rn_rel hren 6 x y hxy) hargs
  have hcalls := hspec.runs μ0 w rargs hgl hfresh hargs0 hrep0
  refine wp_of_enter (w' := w) (by rw [hex]; exact hspec.enters _ w) (hcalls.mono ?_)
  rintro en w' ⟨μ1, rv, ⟨hle, hsame1⟩, hrep1, hv, rfl, hkeep⟩
  refine ⟨rv, rfl, ?_⟩
  -- the caller's names behind the call
  let τ' := swap τ
  let μ' : Mu := ⟨fun i => match look τ' i with
    | some j => μ1 j
    | none => μ i, μ1.sz, μ1.fz⟩
  have hτ' : ∀ i j, look τ' i = some j → (j, i) ∈ τ := fun i j hl => look_swap_mem hl
  have hμle : μ.le μ' := by
    refine ⟨?_, fun i b hb => hkeep.ksz b (hr.bound i b hb), hkeep.kfz⟩
    intro i b hb
    simp only [μ']
    split
    · rename_i j hj
      have := hn i (hτ.mem _ _ (hτ' i j hj))
      rw [this] at hb; cases hb
    · exact hb
  have hμother : ∀ i, i ∉ τ.map (·.2) → μ' i = μ i := by
    intro i hi
    simp only [μ']
    split
    · rename_i j hj
      exact absurd (hτ.mem _ _ (hτ' i j hj)) hi
    · rfl
  -- the new names of the callee's names
  have hρ_cases : ∀ j i, look (renBack σ τ) j = some i → ((i, j) ∈ σ ∧ look τ' i = none) ∨ ((j, i) ∈ τ ∧ look τ' i = some j ∧ look (swap σ) j = none) := by
    intro j i hl
    unfold renBack at hl
    rw [look_append] at hl
    cases e : look (swap σ) j with
    | some i' =>
      simp only [e, Option.some.injEq] at hl
      subst hl
      have hm := look_swap_mem e
      refine .inl ⟨hm, ?_⟩
      cases e2 : look τ' i' with
      | none => rfl
      | some j' =>
        have := hτ.fresh _ _ (hτ' i' j' e2)
        rw [hσ.forth i' j hm] at this
        cases this
    | none =>
      simp only [e] at hl
      have hm := look_mem hl
      refine .inr ⟨hm, ?_, rfl⟩
      have hex2 : ∃ j', look τ' i = some j' := by
        have hmem : (i, j) ∈ τ' := by
          show (i, j) ∈ swap τ
          unfold swap; simp; exact ⟨_, _, hm, rfl, rfl⟩
        clear_value τ'
        clear hτ' hμle hμother hl e
        induction τ' with
        | nil => simp at hmem
        | cons x r ih =>
          obtain ⟨p, q⟩ := x
          simp only [look]
          cases e : Nat.beq i p
          · simp only [List.mem_cons, Prod.mk.injEq] at hmem
            rcases hmem with ⟨rfl, _⟩ | hmem
            · exact absurd rfl (beq_ff e)
            · simpa using ih hmem
          · simp
      obtain ⟨j', hj'⟩ := hex2
      rw [hj', hτ.uniq _ _ _ (hτ' i j' hj') hm]
  have hρeq : ∀ j i, look (renBack σ τ) j = some i → μ' i = μ1 j := by
    intro j i hl
    rcases hρ_cases j i hl with ⟨hm, hnone⟩ | ⟨hm, hsome, _⟩
    · simp only [μ', hnone]
      rw [hsame1 j (hσ.lt i j hm), μ0_of i j hm]
    · simp only [μ', hsome]
  have hρμ : Renames (renBack σ τ) μ1 μ' := ⟨fun j i b hl hb => by rw [hρeq j i hl]; exact hb, fun _ _ _ => rfl, fun _ _ h => h⟩
  have hinj : ∀ x y i, look (renBack σ τ) x = some i → look (renBack σ τ) y = some i → x = y := by
    intro x y i hx hy
    rcases hρ_cases x i hx with ⟨hm, hnone⟩ | ⟨hm, hsome, _⟩ <;> rcases hρ_cases y i hy with ⟨hm', hnone'⟩ | ⟨hm', hsome', _⟩
    · have h1 := hσ.forth i x hm
      have h2 := hσ.forth i y hm'
      rw [h1] at h2; simpa using h2
    · rw [hnone] at hsome'; cases hsome'
    · rw [hsome] at hnone'; cases hnone'
    · rw [hsome] at hsome'; simpa using hsome'
  simp only [app_append] at hk
  let hg' := app (goneEff H post σ) h
  have hgone : ∀ i B, hg' i = some B → h i = some B ∧ ∀ j, (i, j) ∈ σ → lk post j = none → ∀ A, H i = some A → A.ro = true := fun i B hB => gone_spec hB
  have happ := fun i => postEff_app hinj hpe c3 hg' i
  -- what an entry of the heap behind the call is
  have entry : ∀ i B, app e hg' i = some B → (∃ j C, look (renBack σ τ) j = some i ∧ lk post j = some C ∧ B = rnB (renBack σ τ) C) ∨
      (hg' i = some B ∧ ∀ j, look (renBack σ τ) j = some i → lk post j = none) := by
    intro i B hB
    by_cases hex3 : ∃ j C, look (renBack σ τ) j = some i ∧ lk post j = some C
    · obtain ⟨j, C, hj, hC⟩ := hex3
      have := (happ i).1 j C hj hC
      rw [this] at hB
      exact .inl ⟨j, C, hj, hC, by simpa using hB.symm⟩
    · have hno : ∀ j, look (renBack σ τ) j = some i → lk post j = none := by
        intro j hj
        cases hl : lk post j with
        | none => rfl
        | some C => exact absurd ⟨j, C, hj, hl⟩ hex3
      rw [(happ i).2 hno] at hB
      exact .inr ⟨hB, hno⟩
  -- a block of the caller's that isn't written by the callee
  have untouched : ∀ i B b, hg' i = some B → μ i = some b → (∀ j, look (renBack σ τ) j = some i → lk post j = none) → ¬ Own μ0 (lk h0) b := by
    rintro i B b hB0 hb hno ⟨j, A, hA, hAro, hj⟩
    obtain ⟨hB, hgo⟩ := hgone i B hB0
    obtain ⟨i', A', hm, hA', rfl⟩ := subHeap_lk hsub j A hA
    rw [← hHh i' j hm] at hA'
    rw [μ0_of i' j hm] at hj
    by_cases hii : i = i'
    · subst hii
      have hback : look (renBack σ τ) j = some i := by
        unfold renBack; rw [look_append, hσ.back i j hm]
      have hnp := hno j hback
      have hro : A'.ro = true := hgo j hm hnp A' (by rw [← hHh i j hm]; exact hA')
      have hro' : (rnB σ A').ro = A'.ro := rfl
      rw [hro', hro] at hAro; cases hAro
    · have := (hr.apart i i' B A' b hB hA' hb hj hii).2
      have hro' : (rnB σ A').ro = A'.ro := rfl
      rw [hro', this] at hAro
      cases hAro
  have τnone : ∀ i, (∀ j, look (renBack σ τ) j = some i → lk post j = none) → look τ' i = none := by
    intro i hno
    cases e2 : look τ' i with
    | none => rfl
    | some j =>
      have hm := hτ' i j e2
      obtain ⟨⟨C, hC⟩, _⟩ := postHas_spec c4 j i hm
      rw [hno j (renBack_new hσ hτ c4 hm)] at hC; cases hC
  have oldback : ∀ i B b, app e hg' i = some B → μ' i = some b → b < w.heap.size → ∃ i0 B0, h i0 = some B0 ∧ μ i0 = some b ∧ (B.ro = false → B0.ro = false) := by
    intro i B b hB hb hlt
    rcases entry i B hB with ⟨j, C, hj, hC, rfl⟩ | ⟨hB', hno⟩
    · have hjb : μ1 j = some b := by rw [← hρeq j i hj]; exact hb
      obtain ⟨j0, A0, hA0, hm0, hr0⟩ := hkeep.old j C b hC hjb hlt
      obtain ⟨i', A', hm, hA', rfl⟩ := subHeap_lk hsub j0 A0 hA0
      rw [← hHh i' j0 hm] at hA'
      rw [μ0_of i' j0 hm] at hm0
      exact ⟨i', A', hA', hm0, hr0⟩
    · have : μ' i = μ i := by simp only [μ', τnone i hno]
      rw [this] at hb
      exact ⟨i, B, (hgone i B hB').1, hb, id⟩
  -- one name of the callee's and one of the caller's own for one block: nobody writes it
  have mixed : ∀ k B b j C, hg' k = some B → μ k = some b → (∀ j, look (renBack σ τ) j = some k → lk post j = none) → lk post j = some C → μ1 j = some b → C.ro = true ∧ B.ro = true := by
    intro k B b j C hB0 hb hno hC hjb
    obtain ⟨hB, hgo⟩ := hgone k B hB0
    have hlt := hr.bound k b hb
    obtain ⟨j0, A0, hA0, hm0, hr0⟩ := hkeep.old j C b hC hjb hlt
    obtain ⟨i', A', hm, hA', rfl⟩ := subHeap_lk hsub j0 A0 hA0
    rw [← hHh i' j0 hm] at hA'
    rw [μ0_of i' j0 hm] at hm0
    have hroA : (rnB σ A').ro = A'.ro := rfl
    rw [hroA] at hr0
    have hA'ro : A'.ro = true → C.ro = true := by
      intro ha
      cases hc : C.ro with
      | true => rfl
      | false => rw [hr0 hc] at ha; cases ha
    by_cases hki : k = i'
    · subst hki
      rw [hB] at hA'
      obtain rfl : B = A' := by simpa using hA'
      have hback : look (renBack σ τ) j0 = some k := by
        unfold renBack; rw [look_append, hσ.back k j0 hm]
      have hnp := hno j0 hback
      have hro : B.ro = true := hgo j0 hm hnp B (by rw [← hHh k j0 hm]; exact hB)
      exact ⟨hA'ro hro, hro⟩
    · have := hr.apart k i' B A' b hB hA' hb hm0 hki
      exact ⟨hA'ro this.2, this.1⟩
  have hrepF : Rep μ' (app e hg') w' := by
    refine ⟨?_, ?_, ?_, ?_, hrep1.frz, ?_⟩
    · intro i B hB hne
      rcases entry i B hB with ⟨j, C, hj, hC, rfl⟩ | ⟨hB', hno⟩
      · obtain ⟨b, hb, hrel⟩ := hrep1.blk j C hC (by rw [rnB_size, hρeq j i hj] at hne; exact hne)
        exact ⟨b, hρμ j i b hj hb, rnB_rel hρμ hrel⟩
      · have e1 : μ' i = μ i := by simp only [μ', τnone i hno]
        obtain ⟨b, hb, hrel⟩ := hr.blk i B (hgone i B hB').1 (by rw [e1] at hne; exact hne)
        refine ⟨b, by rw [e1]; exact hb, ?_⟩
        rw [hkeep.same b (hr.bound i b hb) (untouched i B b hB' hb hno)]
        exact hrel.mono hμle
    · intro i k A B b hA hB hi hk' hne
      rcases entry i A hA with ⟨j, C, hj, hC, rfl⟩ | ⟨hA', hno⟩ <;> rcases entry k B hB with ⟨j', C', hj', hC', rfl⟩ | ⟨hB', hno'⟩
      · rw [hρeq j i hj] at hi; rw [hρeq j' k hj'] at hk'
        have hjj : j ≠ j' := by
          rintro rfl
          rw [hj] at hj'
          exact hne (by simpa using hj')
        exact hrep1.apart j j' C C' b hC hC' hi hk' hjj
      · rw [hρeq j i hj] at hi
        have e2 : μ' k = μ k := by simp only [μ', τnone k hno']
        rw [e2] at hk'
        exact mixed k B b j C hB' hk' hno' hC hi
      · rw [hρeq j' k hj'] at hk'
        have e2 : μ' i = μ i := by simp only [μ', τnone i hno]
        rw [e2] at hi
        exact (mixed i A b j' C' hA' hi hno hC' hk').symm
      · have e1 : μ' i = μ i := by simp only [μ', τnone i hno]
        have e2 : μ' k = μ k := by simp only [μ', τnone k hno']
        rw [e1] at hi; rw [e2] at hk'
        exact hr.apart i k A B b (hgone i A hA').1 (hgone k B hB').1 hi hk' hne
    · intro i b hi
      simp only [μ'] at hi
      split at hi
      · exact hrep1.bound _ _ hi
      · exact Nat.lt_of_lt_of_le (hr.bound _ _ hi) hkeep.size
    · intro i B b hB hro hi
      rcases entry i B hB with ⟨j, C, hj, hC, rfl⟩ | ⟨hB', hno⟩
      · rw [hρeq j i hj] at hi
        exact hrep1.size j C b hC hro hi
      · have e1 : μ' i = μ i := by simp only [μ', τnone i hno]
        rw [e1] at hi
        have hlt := hr.bound i b hi
        obtain ⟨cs, t, fr, he, hs⟩ := hr.size i B b (hgone i B hB').1 hro hi
        exact ⟨cs, t, fr, by rw [hkeep.same b hlt (untouched i B b hB' hi hno)]; exact he, hs.trans (hkeep.ksz b hlt).symm⟩
    · intro i B b hB hro hi
      rcases entry i B hB with ⟨j, C, hj, hC, rfl⟩ | ⟨hB', hno⟩
      · rw [hρeq j i hj] at hi
        exact hrep1.nofz j C b hC hro hi
      · have e1 : μ' i = μ i := by simp only [μ', τnone i hno]
        rw [e1] at hi
        have hlt := hr.bound i b hi
        cases hf : μ1.fz b with
        | none => rfl
        | some cs =>
          rcases hkeep.nfz b cs hf with h1 | h1 | h1
          · have h2 := hr.nofz i B b (hgone i B hB').1 hro hi
            have h1' : μ.fz b = some cs := h1
            rw [h2] at h1'; cases h1'
          · exact (untouched i B b hB' hi hno h1).elim
          · omega
  refine hk μ' w' rv hμle hμother hrepF (rn_rel hρμ 6 v rv hv) ⟨hkeep.os, hkeep.tape, hkeep.output, hkeep.size, ?_, ?_, hkeep.ksz, hkeep.kfz, ?_⟩
  · intro b hb hno
    refine hkeep.same b hb ?_
    rintro ⟨j, A, hA, hAro, hj⟩
    obtain ⟨i, A', hm, hA', rfl⟩ := subHeap_lk hsub j A hA
    rw [← hHh i j hm] at hA'
    rw [μ0_of i j hm] at hj
    exact hno ⟨i, A', hA', hAro, hj⟩
  · intro i B b hB hi hb
    exact oldback i B b hB hi hb
  · intro b cs hf
    rcases hkeep.nfz b cs hf with h1 | ⟨j, A, hA, hAro, hj⟩ | h1
    · exact .inl h1
    · obtain ⟨i, A', hm, hA', rfl⟩ := subHeap_lk hsub j A hA
      rw [← hHh i j hm] at hA'
      rw [μ0_of i j hm] at hj
      exact .inr (.inl ⟨i, A', hA', hAro, hj⟩)
    · exact .inr (.inr h1)

-- ---------------------------------------------------------------- lending

theorem roH_some {l : List Nat} {h : HF} {i : Nat} {B : Blk} (e : roH l h i = some B) : ∃ B0, h i = some B0 ∧ ((memN i l = false ∧ B = B0) ∨ (memN i l = true ∧ B = B0.lend)) := by
  unfold roH at e
  cases hm : memN i l <;> rw [hm] at e
  · exact ⟨B, e, .inl ⟨rfl, rfl⟩⟩
  · cases hh : h i with
    | none => simp [hh] at e
    | some B0 => simp [hh] at e; exact ⟨B0, rfl, .inr ⟨rfl, e.symm⟩⟩

theorem app_lend {l : List Nat} : ∀ {eff : List (Nat × Upd)}, lendOk l eff = true → ∀ {h h' : HF}, (∀ i, memN i l = false → h i = h' i) →
    (∀ i, memN i l = false → app eff h i = app eff h' i) ∧ (∀ i, memN i l = true → app eff h i = h i) ∧ (∀ i B, app eff h i = some B → h i = some B ∨ B.ro = false)
  | [], _, h, h', he => ⟨he, fun _ _ => rfl, fun _ _ e => .inl e⟩
  | (k, u) :: r, hl, h, h', he => by
    simp only [lendOk, Bool.and_eq_true, Bool.not_eq_true'] at hl
    obtain ⟨⟨hk, hu⟩, hr⟩ := hl
    have hstep : ∀ i, memN i l = false → upd1 h (k, u) i = upd1 h' (k, u) i := by
      intro i hi
      by_cases hik : i = k
      · subst hik
        cases u with
        | blk B => rw [upd1_same, upd1_same]
        | del => rw [upd1_del, upd1_del]
        | cell o v => simp at hu
      · rw [upd1_other hik, upd1_other hik]; exact he i hi
    obtain ⟨a, b, c⟩ := app_lend hr hstep
    refine ⟨a, fun i hi => ?_, fun i B hB => ?_⟩
    · have hik : i ≠ k := by rintro rfl; rw [hk] at hi; cases hi
      simp only [app]
      rw [b i hi, upd1_other hik]
    · simp only [app] at hB
      rcases c i B hB with h1 | h1
      · by_cases hik : i = k
        · subst hik
          cases u with
          | blk B' => rw [upd1_same] at h1; obtain rfl : B' = B := by simpa using h1
                      exact .inr (by simpa using hu)
          | del => rw [upd1_del] at h1; cases h1
          | cell o v => simp at hu
        · rw [upd1_other hik] at h1; exact .inl h1
      · exact .inr h1

theorem app_lend_own {l : List Nat} : ∀ {eff : List (Nat × Upd)}, lendOk l eff = true → ∀ {h : HF} {i : Nat}, (∀ C, h i = some C → C.ro = false) → ∀ B, app eff h i = some B → B.ro = false
  | [], _, h, i, hp, B, e => hp B e
  | (k, u) :: r, hl, h, i, hp, B, e => by
    simp only [lendOk, Bool.and_eq_true, Bool.not_eq_true'] at hl
    obtain ⟨⟨hk, hu⟩, hr⟩ := hl
    refine app_lend_own hr (h := upd1 h (k, u)) (fun C hC => ?_) B e
    by_cases hik : i = k
    · subst hik
      cases u with
      | blk B' => rw [upd1_same] at hC; obtain rfl : B' = C := by simpa using hC
                  simpa using hu
      | del => rw [upd1_del] at hC; cases hC
      | cell o v => simp at hu
    · rw [upd1_other hik] at hC; exact hp C hC

theorem app_lend_new {l : List Nat} : ∀ {eff : List (Nat × Upd)}, lendOk l eff = true → ∀ {h : HF} {i : Nat}, (∃ x ∈ eff, x.1 = i) → ∀ B, app eff h i = some B → B.ro = false
  | [], _, h, i, ⟨x, hx, _⟩, B, e => by simp at hx
  | (k, u) :: r, hl, h, i, ⟨x, hx, hxi⟩, B, e => by
    have hl0 := hl
    simp only [lendOk, Bool.and_eq_true, Bool.not_eq_true'] at hl
    obtain ⟨⟨hk, hu⟩, hr⟩ := hl
    simp only [List.mem_cons] at hx
    rcases hx with rfl | hx
    · simp only at hxi
      subst hxi
      refine app_lend_own hr (h := upd1 h (k, u)) (fun C hC => ?_) B e
      cases u with
      | blk B' => rw [upd1_same] at hC; obtain rfl : B' = C := by simpa using hC
                  simpa using hu
      | del => rw [upd1_del] at hC; cases hC
      | cell o v => simp at hu
    · exact app_lend_new hr (h := upd1 h (k, u)) ⟨x, hx, hxi⟩ B e

theorem Rep.lend {μ : Mu} {h : HF} {w : World} (r : Rep μ h w) (l : List Nat) : Rep μ (roH l h) w := by
  refine ⟨?_, ?_, r.bound, ?_, r.frz, ?_⟩
  · intro i B e hne
    obtain ⟨B0, h0, hc⟩ := roH_some e
    obtain ⟨b, hb, cs, t, fr, ho, h1, h2⟩ := r.blk i B0 h0 (by
      rcases hc with ⟨_, rfl⟩ | ⟨_, rfl⟩
      · exact hne
      · exact hne)
    rcases hc with ⟨_, rfl⟩ | ⟨_, rfl⟩
    · exact ⟨b, hb, cs, t, fr, ho, h1, h2⟩
    · exact ⟨b, hb, cs, t, fr, ho, (by intro hro; cases hro), h2⟩
  · intro i j A B b eA eB hi hj hij
    obtain ⟨A0, hA, cA⟩ := roH_some eA
    obtain ⟨B0, hB, cB⟩ := roH_some eB
    have := r.apart i j A0 B0 b hA hB hi hj hij
    constructor
    · rcases cA with ⟨_, rfl⟩ | ⟨_, rfl⟩
      · exact this.1
      · rfl
    · rcases cB with ⟨_, rfl⟩ | ⟨_, rfl⟩
      · exact this.2
      · rfl
  · intro i B b e hro hb
    obtain ⟨B0, h0, hc⟩ := roH_some e
    rcases hc with ⟨_, rfl⟩ | ⟨_, rfl⟩
    · exact r.size i _ b h0 hro hb
    · cases hro
  · intro i B b e hro hb
    obtain ⟨B0, h0, hc⟩ := roH_some e
    rcases hc with ⟨_, rfl⟩ | ⟨_, rfl⟩
    · exact r.nofz i _ b h0 hro hb
    · cases hro

theorem Own.lend {μ : Mu} {h : HF} {l : List Nat} {b : Nat} (o : Own μ (roH l h) b) : Own μ h b := by
  obtain ⟨i, B, e, hro, hb⟩ := o
  obtain ⟨B0, h0, hc⟩ := roH_some e
  rcases hc with ⟨_, rfl⟩ | ⟨_, rfl⟩
  · exact ⟨i, _, h0, hro, hb⟩
  · cases hro

/-- A call to which blocks are lent. -/
theorem xcallA_ok {P : Program} {o : Oper} {ρ : Operand → Value} {H h : HF} {n : Nat} {g : FuncId} {args : List Value} {hs : List Hint} {out : Out} (hG : P.globals.size ≤ 1000) (hx : xcallA P H n g args hs = some out) (hob : ∀ q ∈ out.ob, q)
    (hrd : ∀ i ∈ out.rd, h i = H i)
    (hrun : ∀ (μ : Mu) (a : Act) (w : World), (∀ x ∈ o.op.operands, VRel μ (ρ x) (a.eval x)) → ∃ rargs, VRels μ args rargs ∧ (execOp a.eval o).run P w = (callFunc g ⟨rargs⟩).run P w) : OpSpec P o ρ h out := by
  unfold xcallA at hx
  split at hx
  case h_3 => exact xcall_ok hG hx hob hrd hrun
  case h_2 v hs' =>
    simp only [Option.some.injEq] at hx; subst hx
    have he : ExtSpec P g args v := hob _ (by simp)
    refine OpSpec.silent (ob := [ExtSpec P g args v]) fun μ a w hg hxs => ?_
    obtain ⟨rargs, hr, hr2⟩ := hrun μ a w hxs
    have e := VRels.eq_of_solids he.1 hr
    subst e
    exact ⟨v, by rw [hr2, he.2.2 w], .of_solid he.2.1⟩
  case h_1 σ l τ n0 v post hs' =>
  split at hx
  case h_2 => simp at hx
  case h_1 out' hx' =>
  cases hc : lendOk l out'.eff <;> rw [hc] at hx
  · simp at hx
  simp only [cond_true, Option.some.injEq] at hx
  subst hx
  have base := xcall_ok (h := roH l h) hG hx' hob (fun i hi => by unfold roH; rw [hrd i hi]) hrun
  intro μ a w hg hxs hr hn K Q hk
  refine base μ a w hg hxs (hr.lend l) hn K Q ?_
  intro μ' w' rv hle hot hrep hv hkeep
  have hagree : ∀ i, memN i l = false → roH l h i = h i := fun i hi => by unfold roH; rw [hi]; rfl
  obtain ⟨e1, e2, e3⟩ := app_lend hc hagree
  have e2h := (app_lend hc (h := h) (h' := h) fun _ _ => rfl).2.1
  have e3h := (app_lend hc (h := h) (h' := h) fun _ _ => rfl).2.2
  -- a lent name is no new one
  have lnew : ∀ i, memN i l = true → μ' i = μ i := by
    intro i hi
    refine hot i fun hmem => ?_
    have key : ∀ {eff : List (Nat × Upd)}, lendOk l eff = true → ∀ x ∈ eff, memN x.1 l = false := by
      intro eff
      induction eff with
      | nil => intro _ x hx; simp at hx
      | cons y r ih =>
        obtain ⟨k, u⟩ := y
        intro hl x hx
        simp only [lendOk, Bool.and_eq_true, Bool.not_eq_true'] at hl
        simp only [List.mem_cons] at hx
        rcases hx with rfl | hx
        · exact hl.1.1
        · exact ih hl.2 x hx
    obtain ⟨x, hx, hxi⟩ := xcall_neweff hx' i hmem
    have := key hc x hx
    rw [hxi, hi] at this; cases this
  -- an entry that is not lent stands in both heaps
  have up : ∀ i B, memN i l = false → app out'.eff h i = some B → app out'.eff (roH l h) i = some B := fun i B hi e => by rw [e1 i hi]; exact e
  -- what is lent and isn't 'ro' otherwise: its block of the world is nobody's else
  have lone : ∀ i B b, memN i l = true → h i = some B → B.ro = false → μ i = some b → ¬ Own μ (roH l h) b := by
    rintro i B b hi hB hro hb ⟨j, C, hC, hCro, hj⟩
    obtain ⟨C0, hC0, hcc⟩ := roH_some hC
    rcases hcc with ⟨hjl, rfl⟩ | ⟨_, rfl⟩
    · by_cases hij : i = j
      · subst hij; rw [hi] at hjl; cases hjl
      · have := (hr.apart i j B _ b hB hC0 hb hj hij).1
        rw [hro] at this; cases this
    · cases hCro
  have same : ∀ i B b, memN i l = true → h i = some B → B.ro = false → μ i = some b → w'.heap[b]? = w.heap[b]? := fun i B b hi hB hro hb => hkeep.same b (hr.bound i b hb) (lone i B b hi hB hro hb)
  have oldH : ∀ i B b, app out'.eff h i = some B → μ' i = some b → b < w.heap.size → ∃ i0 B0, h i0 = some B0 ∧ μ i0 = some b ∧ (B.ro = false → B0.ro = false) := by
    intro i B b hB hb hlt
    cases hi : memN i l with
    | true =>
      rw [e2h i hi] at hB
      exact ⟨i, B, hB, by rw [← lnew i hi]; exact hb, id⟩
    | false =>
      obtain ⟨i0, B0, h0, m0, r0⟩ := hkeep.old i B b (up i B hi hB) hb hlt
      obtain ⟨C0, hC0, hcc⟩ := roH_some h0
      refine ⟨i0, C0, hC0, m0, fun hro => ?_⟩
      rcases hcc with ⟨_, rfl⟩ | ⟨_, rfl⟩
      · exact r0 hro
      · have := r0 hro; cases this
  -- a name of the end and a lent one for one block
  have mix : ∀ i k A B b, memN i l = true → memN k l = false → h i = some A → A.ro = false → app out'.eff h k = some B → μ i = some b → μ' k = some b → False := by
    intro i k A B b hi hk' hA hro hB hb hkb
    have hik : i ≠ k := by rintro rfl; rw [hi] at hk'; cases hk'
    have hcase : (h k = some B ∧ μ' k = μ k) ∨ B.ro = false := by
      by_cases hkn : k ∈ out'.new
      · exact .inr (app_lend_new hc (xcall_neweff hx' k hkn) B hB)
      · rcases e3h k B hB with h1 | h1
        · exact .inl ⟨h1, hot k hkn⟩
        · exact .inr h1
    rcases hcase with ⟨h1, hk2⟩ | h1
    · rw [hkb] at hk2
      have := (hr.apart i k A B b hA h1 hb hk2.symm hik).1
      rw [hro] at this; cases this
    · obtain ⟨i0, B0, h0, m0, r0⟩ := hkeep.old k B b (up k B hk' hB) hkb (hr.bound i b hb)
      exact lone i A b hi hA hro hb ⟨i0, B0, h0, r0 h1, m0⟩
  have lentName : ∀ i B b, memN i l = true → h i = some B → μ' i = some b → μ i = some b := by
    intro i B b hi hB hb
    rw [← lnew i hi]; exact hb
  have lrd : ∀ i B, memN i l = true → h i = some B → roH l h i = some B.lend := fun i B hi hB => by unfold roH; rw [hi, hB]; rfl
  refine hk μ' w' rv hle hot ?_ hv ?_
  · refine ⟨?_, ?_, hrep.bound, ?_, hrep.frz, ?_⟩
    · intro i B hB hne
      cases hi : memN i l with
      | false => exact hrep.blk i B (up i B hi hB) hne
      | true =>
        rw [e2h i hi] at hB
        obtain ⟨b, hb, hrel⟩ := hr.blk i B hB (by rw [lnew i hi] at hne; exact hne)
        refine ⟨b, hle i b hb, ?_⟩
        cases hro : B.ro with
        | false => rw [same i B b hi hB hro hb]; exact hrel.mono hle
        | true =>
          obtain ⟨b', hb', cs, t, fr, ho, _, h2⟩ := hrep.blk i B.lend (by rw [e2 i hi]; exact lrd i B hi hB) (.inr (by rw [hle i b hb]; exact fun h => nomatch h))
          rw [hle i b hb] at hb'
          obtain rfl : b = b' := by simpa using hb'
          exact ⟨cs, t, fr, ho, (by intro h; rw [hro] at h; cases h), h2⟩
    · intro i k A B b hA hB hib hkb hne
      cases hi : memN i l with
      | false =>
        cases hk' : memN k l with
        | false => exact hrep.apart i k A B b (up i A hi hA) (up k B hk' hB) hib hkb hne
        | true =>
          have hB' := hB
          rw [e2h k hk'] at hB'
          have hb := lentName k B b hk' hB' hkb
          cases hro : B.ro with
          | false => exact (mix k i B A b hk' hi hB' hro hA hb hib).elim
          | true =>
            have := hrep.apart i k A B.lend b (up i A hi hA) (by rw [e2 k hk']; exact lrd k B hk' hB') hib hkb hne
            exact ⟨this.1, rfl⟩
      | true =>
        have hA' := hA
        rw [e2h i hi] at hA'
        have hb := lentName i A b hi hA' hib
        cases hk' : memN k l with
        | false =>
          cases hro : A.ro with
          | false => exact (mix i k A B b hi hk' hA' hro hB hb hkb).elim
          | true =>
            have := hrep.apart i k A.lend B b (by rw [e2 i hi]; exact lrd i A hi hA') (up k B hk' hB) hib hkb hne
            exact ⟨rfl, this.2⟩
        | true =>
          have hB' := hB
          rw [e2h k hk'] at hB'
          exact hr.apart i k A B b hA' hB' hb (lentName k B b hk' hB' hkb) hne
    · intro i B b hB hro hib
      cases hi : memN i l with
      | false => exact hrep.size i B b (up i B hi hB) hro hib
      | true =>
        rw [e2h i hi] at hB
        have hb := lentName i B b hi hB hib
        obtain ⟨cs, t, fr, ho, hs⟩ := hr.size i B b hB hro hb
        exact ⟨cs, t, fr, by rw [same i B b hi hB hro hb]; exact ho, by rw [hs, hle.szs i b hb]⟩
    · intro i B b hB hro hib
      cases hi : memN i l with
      | false => exact hrep.nofz i B b (up i B hi hB) hro hib
      | true =>
        rw [e2h i hi] at hB
        have hb := lentName i B b hi hB hib
        cases hf : μ'.fz b with
        | none => rfl
        | some cs =>
          rcases hkeep.nfz b cs hf with h1 | h1 | h1
          · rw [hr.nofz i B b hB hro hb] at h1; cases h1
          · exact absurd h1 (lone i B b hi hB hro hb)
          · exact absurd (hr.bound i b hb) (by omega)
  · exact ⟨hkeep.os, hkeep.tape, hkeep.output, hkeep.size, fun b hb ho => hkeep.same b hb fun o => ho o.lend, oldH, hkeep.ksz, hkeep.kfz,
      fun b cs h => (hkeep.nfz b cs h).imp id (Or.imp Own.lend id)⟩

end Go.Proofs.Ytgnhhnmpeklciaa.VX
