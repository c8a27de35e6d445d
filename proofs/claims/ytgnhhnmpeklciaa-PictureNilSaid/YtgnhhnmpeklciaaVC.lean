/-
  How heaps and worlds turn together: one cell written, a block laid, a block turned. No condition.
-/
import Derived.Test.YtgnhhnmpeklciaaVB
import Derived.WalkKit
namespace Go.Proofs.Ytgnhhnmpeklciaa.VX
open Go
set_option linter.unusedSimpArgs false
set_option linter.unusedVariables false

theorem hAllocOld (w : World) (o : Obj) (k : Nat) (h : k < w.heap.size) : (w.alloc o).heap[k]? = w.heap[k]? := by
  simp only [World.alloc, Array.getElem?_push]
  rw [if_neg (by omega)]

theorem beq_tt {a b : Nat} (h : Nat.beq a b = true) : a = b := Nat.eq_of_beq_eq_true h
theorem beq_ff {a b : Nat} (h : Nat.beq a b = false) : a ≠ b := Nat.ne_of_beq_eq_false h
theorem beq_self (a : Nat) : Nat.beq a a = true := Nat.beq_refl a
theorem beq_ne {a b : Nat} (h : a ≠ b) : Nat.beq a b = false := by
  cases e : Nat.beq a b with
  | false => rfl
  | true => exact absurd (beq_tt e) h
theorem blt_tt {a b : Nat} (h : Nat.blt a b = true) : a < b := Nat.le_of_ble_eq_true h
theorem blt_ff {a b : Nat} (h : Nat.blt a b = false) : b ≤ a := by
  rcases Nat.lt_or_ge a b with k | k
  · have : Nat.blt a b = true := Nat.ble_eq_true_of_le k
    rw [h] at this; cases this
  · exact k
theorem ble_tt {a b : Nat} (h : Nat.ble a b = true) : a ≤ b := Nat.le_of_ble_eq_true h

-- ---------------------------------------------------------------- the cells of a block

theorem Seg.set_size (s : Seg) (o : Nat) (v : Value) : (s.set o v).size = s.size := by
  cases s with
  | one x => simp only [Seg.set]; cases Nat.beq o 0 <;> rfl
  | ints k n a =>
    cases v with
    | int k' x => simp only [Seg.set]; cases k == k' <;> rfl
    | _ => rfl
  | bools n a => cases v <;> rfl
  | rows n sz g => rfl
  | gap n => rfl

theorem Seg.get_lt {s : Seg} {o : Nat} {v : Value} (h : s.get? o = some v) : o < s.size := by
  cases s with
  | one x => simp only [Seg.get?] at h; cases e : Nat.beq o 0 <;> rw [e] at h <;> simp at h; rw [beq_tt e]; simp [Seg.size]
  | ints k n a => simp only [Seg.get?] at h; cases e : Nat.blt o n <;> rw [e] at h <;> simp at h; exact blt_tt e
  | bools n a => simp only [Seg.get?] at h; cases e : Nat.blt o n <;> rw [e] at h <;> simp at h; exact blt_tt e
  | rows n sz g => simp only [Seg.get?] at h; cases e : Nat.blt o (n * sz) <;> rw [e] at h <;> simp at h; exact blt_tt e
  | gap n => simp [Seg.get?] at h

theorem Seg.get_set {s : Seg} {o o' : Nat} {v u : Value} (ho : o < s.size) (h : (s.set o v).get? o' = some u) : (o' = o ∧ u = v) ∨ (o' ≠ o ∧ s.get? o' = some u) := by
  cases s with
  | one x =>
    have h0 : o = 0 := by simpa [Seg.size] using ho
    subst h0
    simp only [Seg.set, beq_self, cond_true, Seg.get?] at h
    cases e : Nat.beq o' 0 <;> rw [e] at h <;> simp at h
    exact .inl ⟨beq_tt e, h.symm⟩
  | ints k n a =>
    cases v with
    | int k' x =>
      simp only [Seg.set] at h
      cases ek : k == k' <;> rw [ek] at h
      · simp [Seg.get?] at h
      · simp only [cond_true, Seg.get?, upd] at h
        cases e : Nat.blt o' n <;> rw [e] at h <;> simp at h
        cases e2 : Nat.beq o' o <;> rw [e2] at h <;> simp at h
        · exact .inr ⟨beq_ff e2, by simp [Seg.get?, e, h]⟩
        · have : k = k' := by simpa using ek
          subst this
          exact .inl ⟨beq_tt e2, h.symm⟩
    | _ => simp [Seg.set, Seg.get?] at h
  | bools n a =>
    cases v with
    | bool x =>
      simp only [Seg.set, Seg.get?, upd] at h
      cases e : Nat.blt o' n <;> rw [e] at h <;> simp at h
      cases e2 : Nat.beq o' o <;> rw [e2] at h <;> simp at h
      · exact .inr ⟨beq_ff e2, by simp [Seg.get?, e, h]⟩
      · exact .inl ⟨beq_tt e2, by rw [← h]⟩
    | _ => simp [Seg.set, Seg.get?] at h
  | rows n sz g => simp [Seg.set, Seg.get?] at h
  | gap n => simp [Seg.set, Seg.get?] at h

theorem segsSet_size : ∀ (l : List Seg) (o : Nat) (v : Value), segsSize (segsSet l o v) = segsSize l
  | [], _, _ => rfl
  | s :: r, o, v => by
    simp only [segsSet]
    cases Nat.blt o s.size
    · simp [segsSize, segsSet_size r]
    · simp [segsSize, Seg.set_size]

theorem segsGet_lt : ∀ {l : List Seg} {o : Nat} {v : Value}, segsGet? l o = some v → o < segsSize l
  | [], o, v, h => by simp [segsGet?] at h
  | s :: r, o, v, h => by
    simp only [segsGet?] at h
    cases e : Nat.blt o s.size <;> rw [e] at h
    · have := segsGet_lt (l := r) (by simpa using h)
      have := blt_ff e
      simp [segsSize]; omega
    · have := blt_tt e
      simp [segsSize]; omega

theorem segsGet_set : ∀ {l : List Seg} {o o' : Nat} {v u : Value}, o < segsSize l → segsGet? (segsSet l o v) o' = some u →
    (o' = o ∧ u = v) ∨ (o' ≠ o ∧ segsGet? l o' = some u)
  | [], o, o', v, u, ho, h => by simp [segsSize] at ho
  | s :: r, o, o', v, u, ho, h => by
    simp only [segsSet] at h
    cases e : Nat.blt o s.size <;> rw [e] at h
    · have ho' := blt_ff e
      simp only [cond_false, segsGet?] at h ⊢
      cases e2 : Nat.blt o' s.size <;> rw [e2] at h
      · have h2 := blt_ff e2
        simp only [cond_false] at h ⊢
        rcases segsGet_set (l := r) (by simp [segsSize] at ho; omega) h with ⟨a, b⟩ | ⟨a, b⟩
        · exact .inl ⟨by omega, b⟩
        · exact .inr ⟨by omega, b⟩
      · have h2 := blt_tt e2
        exact .inr ⟨by omega, by simpa using h⟩
    · have ho' := blt_tt e
      simp only [cond_true, segsGet?, Seg.set_size] at h ⊢
      cases e2 : Nat.blt o' s.size <;> rw [e2] at h
      · have h2 := blt_ff e2
        exact .inr ⟨by omega, by simpa using h⟩
      · rcases Seg.get_set ho' (by simpa using h) with ⟨a, b⟩ | ⟨a, b⟩
        · exact .inl ⟨a, b⟩
        · exact .inr ⟨a, by simpa using b⟩

theorem Blk.set_size (B : Blk) (o : Nat) (v : Value) : (B.set o v).size = B.size := segsSet_size _ _ _

-- ---------------------------------------------------------------- heaps

theorem upd1_same (h : HF) (i : Nat) (B : Blk) : upd1 h (i, .blk B) i = some B := by simp [upd1, beq_self]
theorem upd1_other {h : HF} {x : Nat × Upd} {j : Nat} (hj : j ≠ x.1) : upd1 h x j = h j := by simp [upd1, beq_ne hj]
theorem upd1_del (h : HF) (i : Nat) : upd1 h (i, .del) i = none := by simp [upd1, beq_self]
theorem upd1_cell (h : HF) (i o : Nat) (v : Value) : upd1 h (i, .cell o v) i = (h i).map fun B => B.set o v := by simp [upd1, beq_self]

theorem lk_hput : ∀ (H : Heap) (i : Nat) (B : Blk), lk (hput H i B) = upd1 (lk H) (i, .blk B)
  | [], i, B => by
    funext j
    simp only [hput, lk, upd1]
  | (k, C) :: r, i, B => by
    funext j
    simp only [hput]
    cases e : Nat.beq i k
    · simp only [cond_false, lk]
      rw [congrFun (lk_hput r i B) j]
      simp only [upd1, lk]
      cases e2 : Nat.beq j k
      · simp
      · have : j ≠ i := by rw [beq_tt e2]; exact fun h => beq_ff e h.symm
        simp [beq_ne this]
    · have hk := beq_tt e
      subst hk
      simp only [cond_true, lk, upd1]
      cases e2 : Nat.beq j i
      · simp
      · simp

theorem lk_hcell : ∀ (H : Heap) (i o : Nat) (v : Value), lk (hcell H i o v) = upd1 (lk H) (i, .cell o v)
  | [], i, o, v => by
    funext j
    simp only [hcell, lk, upd1]
    cases Nat.beq j i <;> rfl
  | (k, C) :: r, i, o, v => by
    funext j
    simp only [hcell]
    cases e : Nat.beq i k
    · simp only [cond_false, lk]
      rw [congrFun (lk_hcell r i o v) j]
      simp only [upd1, lk]
      cases e2 : Nat.beq j k
      · simp
      · have : j ≠ i := by rw [beq_tt e2]; exact fun h => beq_ff e h.symm
        simp [beq_ne this]
    · have hk := beq_tt e
      subst hk
      simp only [cond_true, lk, upd1]
      cases e2 : Nat.beq j i
      · simp
      · simp

theorem lk_hdel : ∀ (H : Heap) (i : Nat), lk (hdel H i) = upd1 (lk H) (i, .del)
  | [], i => by
    funext j
    simp only [hdel, lk, upd1]
    cases Nat.beq j i <;> rfl
  | (k, C) :: r, i => by
    funext j
    simp only [hdel]
    cases e : Nat.beq i k
    · simp only [cond_false, lk]
      rw [congrFun (lk_hdel r i) j]
      simp only [upd1, lk]
      cases e2 : Nat.beq j k
      · simp
      · have : j ≠ i := by rw [beq_tt e2]; exact fun h => beq_ff e h.symm
        simp [beq_ne this]
    · have hk := beq_tt e
      subst hk
      simp only [cond_true, lk, upd1]
      rw [congrFun (lk_hdel r i) j]
      simp only [upd1]
      cases e2 : Nat.beq j i
      · simp
      · simp

theorem lk_happ : ∀ (l : List (Nat × Upd)) (H : Heap), lk (happ l H) = app l (lk H)
  | [], H => rfl
  | (i, .blk B) :: r, H => by simp only [happ, app]; rw [lk_happ r, lk_hput]
  | (i, .cell o v) :: r, H => by simp only [happ, app]; rw [lk_happ r, lk_hcell]
  | (i, .del) :: r, H => by simp only [happ, app]; rw [lk_happ r, lk_hdel]

theorem app_append : ∀ (a b : List (Nat × Upd)) (h : HF), app (a ++ b) h = app b (app a h)
  | [], b, h => rfl
  | x :: a, b, h => by simp only [List.cons_append, app]; exact app_append a b _

theorem lk_mem {H : Heap} {i : Nat} {B : Blk} (h : lk H i = some B) : ∃ x ∈ H, x.1 = i := by
  induction H with
  | nil => simp [lk] at h
  | cons x r ih =>
    obtain ⟨j, C⟩ := x
    simp only [lk] at h
    cases e : Nat.beq i j <;> rw [e] at h
    · obtain ⟨y, hy, hi⟩ := ih (by simpa using h)
      exact ⟨y, by simp [hy], hi⟩
    · exact ⟨(j, C), by simp, (beq_tt e).symm⟩

-- ---------------------------------------------------------------- one cell is written

theorem Rep.cell {μ : Mu} {h : HF} {w : World} (r : Rep μ h w) {i b o : Nat} {B : Blk} {v u : Value} (hi : h i = some B) (hro : B.ro = false) (hb : μ i = some b) (ho : o < B.size) (hv : VRel μ v u) :
    Rep μ (upd1 h (i, .cell o v)) (w.setCell ⟨b, o, none⟩ u) ∧ Keeps μ h w μ (upd1 h (i, .cell o v)) (w.setCell ⟨b, o, none⟩ u) := by
  obtain ⟨b', hb', cs, t, fr, e, hrw, hcs⟩ := r.blk i B hi (.inr (by rw [hb]; exact fun h => nomatch h))
  rw [hb] at hb'
  obtain rfl : b = b' := by simpa using hb'
  obtain ⟨rfl, rfl, hsz⟩ := hrw hro
  have hother : ∀ k, k ≠ b → (w.setCell ⟨b, o, none⟩ u).heap[k]? = w.heap[k]? := fun k hk => heap_setCell_other w ⟨b, o, none⟩ k u hk
  have hself : (w.setCell ⟨b, o, none⟩ u).heap[b]? = some (.cells (cs.setIfInBounds o u) B.ty (0, 0)) := by
    have := heap_setCell_same w b o cs B.ty u e
    simpa using this
  constructor
  · refine ⟨?_, ?_, ?_, ?_, ?_, ?_⟩
    · intro j C hj hne
      by_cases hji : j = i
      · subst hji
        rw [upd1_cell, hi] at hj
        obtain rfl : B.set o v = C := by simpa using hj
        refine ⟨b, hb, _, _, _, hself, fun _ => ⟨rfl, rfl, by simpa [Blk.set_size] using hsz⟩, ?_⟩
        intro off x hx
        rcases segsGet_set (l := B.segs) ho hx with ⟨rfl, rfl⟩ | ⟨hne, hx⟩
        · exact ⟨u, by simp [Array.getElem?_setIfInBounds, show off < cs.size by omega], hv⟩
        · obtain ⟨y, hy, hxy⟩ := hcs off x hx
          exact ⟨y, by rw [Array.getElem?_setIfInBounds_ne (fun h => hne h.symm)]; exact hy, hxy⟩
      · rw [upd1_other hji] at hj
        obtain ⟨c, hc, hrel⟩ := r.blk j C hj hne
        refine ⟨c, hc, ?_⟩
        have hcb : c ≠ b := by
          rintro rfl
          have := (r.apart j i C B c hj hi hc hb hji).2
          rw [hro] at this; cases this
        rw [hother c hcb]
        exact hrel
    · have key : ∀ {k C}, upd1 h (i, .cell o v) k = some C → ∃ C', h k = some C' ∧ C'.ro = C.ro := by
        intro k C hk
        by_cases hki : k = i
        · subst hki
          rw [upd1_cell, hi] at hk
          obtain rfl : B.set o v = C := by simpa using hk
          exact ⟨B, hi, rfl⟩
        · rw [upd1_other hki] at hk
          exact ⟨C, hk, rfl⟩
      intro j k A C c hj hk hjc hkc hne
      obtain ⟨A', hA, ea⟩ := key hj
      obtain ⟨C', hC, ec⟩ := key hk
      have := r.apart j k A' C' c hA hC hjc hkc hne
      exact ⟨by rw [← ea]; exact this.1, by rw [← ec]; exact this.2⟩
    · intro j c hj
      simpa using r.bound j c hj
    · intro j C c hj hCro hjc
      obtain ⟨C', hC, eC⟩ : ∃ C', h j = some C' ∧ C'.ro = C.ro := by
        by_cases hji : j = i
        · subst hji
          rw [upd1_cell, hi] at hj
          obtain rfl : B.set o v = C := by simpa using hj
          exact ⟨B, hi, rfl⟩
        · rw [upd1_other hji] at hj
          exact ⟨C, hj, rfl⟩
      obtain ⟨cs', t', fr', e', hs'⟩ := r.size j C' c hC (by rw [eC]; exact hCro) hjc
      by_cases hcb : c = b
      · subst hcb
        rw [e] at e'
        cases e'
        exact ⟨_, _, _, hself, by simpa using hs'⟩
      · exact ⟨cs', t', fr', by rw [hother c hcb]; exact e', hs'⟩
    · intro c cs' hf
      have hcb : c ≠ b := by
        rintro rfl
        rw [r.nofz i B c hi hro hb] at hf
        cases hf
      rw [hother c hcb]
      exact r.frz c cs' hf
    · intro j C c hj hCro hjc
      by_cases hji : j = i
      · subst hji
        exact r.nofz j B c hi hro hjc
      · rw [upd1_other hji] at hj
        exact r.nofz j C c hj hCro hjc
  · refine ⟨rfl, rfl, rfl, by simp, ?_, ?_, fun _ _ => rfl, fun _ _ h => h, fun _ _ h => .inl h⟩
    · intro k hk hno
      exact hother k fun hkb => hno ⟨i, B, hi, hro, by rw [hkb]; exact hb⟩
    · intro j C k hj hjk hk
      by_cases hji : j = i
      · subst hji
        exact ⟨j, B, hi, hjk, fun _ => hro⟩
      · rw [upd1_other hji] at hj
        exact ⟨j, C, hj, hjk, id⟩

/-- A new block. -/
theorem Rep.new {μ : Mu} {h : HF} {w : World} (r : Rep μ h w) {i : Nat} {B : Blk} {cs : Array Value} {t : TypeId} (hi : μ i = none)
    (hrel : ∀ μ' : Mu, μ.le μ' → BlkRel μ' B (some (.cells cs t (0, 0)))) :
    let μ' : Mu := ⟨fun j => if j = i then some w.heap.size else μ j, fun b => if b = w.heap.size then cs.size else μ.sz b, μ.fz⟩
    μ.le μ' ∧ Rep μ' (upd1 h (i, .blk B)) (w.alloc (.cells cs t)) ∧ Keeps μ h w μ' (upd1 h (i, .blk B)) (w.alloc (.cells cs t)) := by
  intro μ'
  have hle : μ.le μ' := by
    refine ⟨?_, ?_, fun _ _ h => h⟩
    · intro j b hj
      have : j ≠ i := by rintro rfl; rw [hi] at hj; cases hj
      simp [μ', this, hj]
    · intro j b hj
      have : b ≠ w.heap.size := by have := r.bound j b hj; omega
      simp [μ', this]
  have hnofz : μ.fz w.heap.size = none := by
    cases e : μ.fz w.heap.size with
    | none => rfl
    | some cs' =>
      obtain ⟨t', fr', e'⟩ := r.frz _ _ e
      have := (Array.getElem?_eq_some_iff.1 e').1
      omega
  have hself : μ' i = some w.heap.size := by simp [μ']
  have hoth : ∀ j, j ≠ i → μ' j = μ j := fun j hj => by simp [μ', hj]
  refine ⟨hle, ⟨?_, ?_, ?_, ?_, ?_, ?_⟩, ⟨rfl, rfl, rfl, by simp, ?_, ?_, ?_, fun _ _ h => h, fun _ _ h => .inl h⟩⟩
  · intro j C hj hne
    by_cases hji : j = i
    · subst hji
      rw [upd1_same] at hj
      obtain rfl : B = C := by simpa using hj
      exact ⟨_, hself, by rw [heap_alloc_new]; exact hrel μ' hle⟩
    · rw [upd1_other hji] at hj
      obtain ⟨c, hc, hb⟩ := r.blk j C hj (by rw [hoth j hji] at hne; exact hne)
      exact ⟨c, by rw [hoth j hji]; exact hc, by rw [hAllocOld _ _ _ (r.bound j c hc)]; exact hb.mono hle⟩
  · intro j k A C c hj hk hjc hkc hne
    by_cases hji : j = i
    · subst hji
      rw [hself] at hjc
      obtain rfl : w.heap.size = c := by simpa using hjc
      have hk' : k ≠ j := fun h => hne h.symm
      rw [hoth k hk'] at hkc
      have := r.bound k _ hkc
      omega
    · by_cases hki : k = i
      · subst hki
        rw [hself] at hkc
        obtain rfl : w.heap.size = c := by simpa using hkc
        rw [hoth j hji] at hjc
        have := r.bound j _ hjc
        omega
      · rw [upd1_other hji] at hj
        rw [upd1_other hki] at hk
        rw [hoth j hji] at hjc
        rw [hoth k hki] at hkc
        exact r.apart j k A C c hj hk hjc hkc hne
  · intro j c hj
    by_cases hji : j = i
    · subst hji
      rw [hself] at hj
      obtain rfl : w.heap.size = c := by simpa using hj
      simp
    · rw [hoth j hji] at hj
      have := r.bound j c hj
      simp; omega
  · intro j C c hj hCro hjc
    by_cases hji : j = i
    · subst hji
      rw [hself] at hjc
      obtain rfl : w.heap.size = c := by simpa using hjc
      exact ⟨cs, t, (0, 0), by rw [heap_alloc_new], by simp [μ']⟩
    · rw [upd1_other hji] at hj
      rw [hoth j hji] at hjc
      have hlt := r.bound j c hjc
      obtain ⟨cs', t', fr', e', hs'⟩ := r.size j C c hj hCro hjc
      exact ⟨cs', t', fr', by rw [hAllocOld _ _ _ hlt]; exact e', by simp only [μ', if_neg (show ¬ c = w.heap.size by omega)]; exact hs'⟩
  · intro c cs' hf
    obtain ⟨t', fr', e'⟩ := r.frz c cs' hf
    exact ⟨t', fr', by rw [hAllocOld _ _ _ (Array.getElem?_eq_some_iff.1 e').1]; exact e'⟩
  · intro j C c hj hCro hjc
    by_cases hji : j = i
    · subst hji
      rw [hself] at hjc
      obtain rfl : w.heap.size = c := by simpa using hjc
      exact hnofz
    · rw [upd1_other hji] at hj
      rw [hoth j hji] at hjc
      exact r.nofz j C c hj hCro hjc
  · intro k hk _
    exact hAllocOld _ _ _ hk
  · intro j C k hj hjk hk
    by_cases hji : j = i
    · subst hji
      rw [hself] at hjk
      have : w.heap.size = k := by simpa using hjk
      omega
    · rw [upd1_other hji] at hj
      rw [hoth j hji] at hjk
      exact ⟨j, C, hj, hjk, id⟩
  · intro k hk
    simp only [μ', if_neg (show ¬ k = w.heap.size by omega)]

/-- A block is let go. -/
theorem Rep.del {μ : Mu} {h : HF} {w : World} (r : Rep μ h w) (i : Nat) : Rep μ (upd1 h (i, .del)) w ∧ Keeps μ h w μ (upd1 h (i, .del)) w := by
  have hs : ∀ j B, upd1 h (i, .del) j = some B → h j = some B := by
    intro j B hj
    by_cases hji : j = i
    · subst hji; rw [upd1_del] at hj; cases hj
    · rwa [upd1_other hji] at hj
  exact ⟨r.sub hs, (Keeps.refl μ h w).sub hs⟩

/-- A block's name is given up for another one: the same block of the world, of which more is told. -/
theorem Rep.more {μ : Mu} {h : HF} {w : World} (r : Rep μ h w) {i j b : Nat} {A B : Blk} (hi : h i = some A) (hro : A.ro = false) (hb : μ i = some b) (hj : μ j = none) (hrel : ∀ μ' : Mu, μ.le μ' → BlkRel μ' B w.heap[b]?) (hB : B.ro = false) :
    let μ' : Mu := ⟨fun k => if k = j then some b else μ k, μ.sz, μ.fz⟩
    μ.le μ' ∧ Rep μ' (upd1 (upd1 h (i, .del)) (j, .blk B)) w ∧ Keeps μ h w μ' (upd1 (upd1 h (i, .del)) (j, .blk B)) w := by
  intro μ'
  have hij : j ≠ i := by rintro rfl; rw [hb] at hj; cases hj
  have hle : μ.le μ' := by
    refine ⟨?_, fun _ _ _ => rfl, fun _ _ h => h⟩
    intro k c hk
    have : k ≠ j := by rintro rfl; rw [hj] at hk; cases hk
    simp [μ', this, hk]
  have hself : μ' j = some b := by simp [μ']
  have hoth : ∀ k, k ≠ j → μ' k = μ k := fun k hk => by simp [μ', hk]
  have hcase : ∀ {k C}, upd1 (upd1 h (i, .del)) (j, .blk B) k = some C → (k = j ∧ C = B) ∨ (k ≠ j ∧ k ≠ i ∧ h k = some C) := by
    intro k C hk
    by_cases hkj : k = j
    · subst hkj; rw [upd1_same] at hk; exact .inl ⟨rfl, by simpa using hk.symm⟩
    · rw [upd1_other hkj] at hk
      by_cases hki : k = i
      · subst hki; rw [upd1_del] at hk; cases hk
      · rw [upd1_other hki] at hk; exact .inr ⟨hkj, hki, hk⟩
  -- nobody else stands for b
  have hno : ∀ {k C}, k ≠ i → h k = some C → μ k = some b → False := by
    intro k C hki hk hkb
    have := (r.apart k i C A b hk hi hkb hb hki).2
    rw [hro] at this; cases this
  refine ⟨hle, ⟨?_, ?_, ?_, ?_, ?_, ?_⟩, ⟨rfl, rfl, rfl, Nat.le_refl _, fun _ _ _ => rfl, ?_, fun _ _ => rfl, fun _ _ h => h, fun _ _ h => .inl h⟩⟩
  · intro k C hk hne
    rcases hcase hk with ⟨rfl, rfl⟩ | ⟨hkj, hki, hk⟩
    · exact ⟨b, hself, hrel μ' hle⟩
    · obtain ⟨c, hc, hr⟩ := r.blk k C hk (by rw [hoth k hkj] at hne; exact hne)
      exact ⟨c, by rw [hoth k hkj]; exact hc, hr.mono hle⟩
  · intro k l C D c hk0 hl0 hkc hlc hne
    rcases hcase hk0 with ⟨e1, e2⟩ | ⟨hkj, hki, hk⟩ <;> rcases hcase hl0 with ⟨e3, e4⟩ | ⟨hlj, hli, hl⟩
    · exact absurd (e1.trans e3.symm) hne
    · rw [e1, hself] at hkc
      obtain rfl : b = c := by simpa using hkc
      rw [hoth l hlj] at hlc
      exact (hno hli hl hlc).elim
    · rw [e3, hself] at hlc
      obtain rfl : b = c := by simpa using hlc
      rw [hoth k hkj] at hkc
      exact (hno hki hk hkc).elim
    · rw [hoth k hkj] at hkc
      rw [hoth l hlj] at hlc
      exact r.apart k l C D c hk hl hkc hlc hne
  · intro k c hk
    by_cases hkj : k = j
    · subst hkj
      rw [hself] at hk
      obtain rfl : b = c := by simpa using hk
      exact r.bound i b hb
    · rw [hoth k hkj] at hk
      exact r.bound k c hk
  · intro k C c hk hCro hkc
    rcases hcase hk with ⟨rfl, rfl⟩ | ⟨hkj, hki, hk⟩
    · rw [hself] at hkc
      obtain rfl : b = c := by simpa using hkc
      exact r.size i A b hi hro hb
    · rw [hoth k hkj] at hkc
      exact r.size k C c hk hCro hkc
  · exact r.frz
  · intro k C c hk hCro hkc
    rcases hcase hk with ⟨rfl, rfl⟩ | ⟨hkj, hki, hk⟩
    · rw [hself] at hkc
      obtain rfl : b = c := by simpa using hkc
      exact r.nofz i A b hi hro hb
    · rw [hoth k hkj] at hkc
      exact r.nofz k C c hk hCro hkc
  · intro k C c hk hkc hc
    rcases hcase hk with ⟨rfl, rfl⟩ | ⟨hkj, hki, hk⟩
    · rw [hself] at hkc
      obtain rfl : b = c := by simpa using hkc
      exact ⟨i, A, hi, hb, fun _ => hro⟩
    · rw [hoth k hkj] at hkc
      exact ⟨k, C, hk, hkc, id⟩

/-- Cells laid one behind the other. -/
def World.putCells (w : World) (b : Nat) : Nat → List Value → World
  | _, [] => w
  | o, v :: r => World.putCells (w.setCell ⟨b, o, none⟩ v) b (o + 1) r

theorem upd1_cell_some {h : HF} {i o : Nat} {v : Value} {B : Blk} (hi : h i = some B) : upd1 h (i, .cell o v) i = some (B.set o v) := by rw [upd1_cell, hi]; rfl

theorem Rep.cells {μ : Mu} : ∀ {vs us : List Value} {h : HF} {w : World} (_ : Rep μ h w) {i b o : Nat} {B : Blk} (_ : h i = some B) (_ : B.ro = false) (_ : μ i = some b) (_ : o + vs.length ≤ B.size) (_ : VRels μ vs us),
    Rep μ (app (cellsEff i o vs) h) (World.putCells w b o us) ∧ Keeps μ h w μ (app (cellsEff i o vs) h) (World.putCells w b o us)
  | [], [], h, w, r, i, b, o, B, hi, hro, hb, ho, _ => ⟨r, Keeps.refl _ _ _⟩
  | [], _ :: _, h, w, r, i, b, o, B, hi, hro, hb, ho, hh => nomatch hh
  | _ :: _, [], h, w, r, i, b, o, B, hi, hro, hb, ho, hh => nomatch hh
  | v :: vs, u :: us, h, w, r, i, b, o, B, hi, hro, hb, ho, hh => by
    have ⟨hv, hvs⟩ : VRel μ v u ∧ VRels μ vs us := by cases hh with | cons a b => exact ⟨a, b⟩
    simp only [List.length_cons] at ho
    obtain ⟨r1, k1⟩ := r.cell hi hro hb (o := o) (by omega) hv
    obtain ⟨r2, k2⟩ := Rep.cells r1 (i := i) (b := b) (o := o + 1) (B := B.set o v) (upd1_cell_some hi) hro hb (by rw [Blk.set_size]; omega) hvs
    exact ⟨r2, k1.trans k2⟩

end Go.Proofs.Ytgnhhnmpeklciaa.VX
