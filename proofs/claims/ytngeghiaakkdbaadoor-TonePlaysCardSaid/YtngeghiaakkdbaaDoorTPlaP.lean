/-
  Layer 11: the plain law of plays. Written by gen_plap.py. No condition.
-/
import Derived.Test.YtngeghiaakkdbaaDoorTV
namespace Go.Proofs.YtngeghiaakkdbaaDoor
open Go VX IntWalk
set_option maxRecDepth 100000
set_option linter.unusedSimpArgs false
set_option linter.unusedVariables false


theorem plays_loop {rel : Int × Bool × Tone × RTone → (Int × Bool × Tone × RTone) ⊕ ((Int × Bool × Tone × RTone) ⊕ Bool) → Prop} (N : Nat)
    (step : ∀ (i : Int) (t : Tone), 0 ≤ i → i < N → i < 40 → Inv t → ∃ t', Inv t' ∧ rel (i, false, t, emb t) (.inl (i + 1, false, t', emb t')))
    (far : ∀ (i : Int) (t : Tone), 0 ≤ i → i < N → 40 ≤ i → rel (i, false, t, emb t) (.inr (.inl (i, false, t, emb t))))
    (out : ∀ (i : Int) (t : Tone), ¬ i < N → rel (i, false, t, emb t) (.inr (.inl (i, false, t, emb t)))) :
    ∀ (n : Nat) (i : Int) (t : Tone), 0 ≤ i → i + n = 40 → Inv t → ∃ r, LoopR rel (i, false, t, emb t) (.inl r)
  | n, i, t, i0, hn, h => by
    by_cases hN : i < N
    · cases n with
      | zero => exact ⟨_, .last (far i t i0 hN (by omega))⟩
      | succ n =>
        obtain ⟨t', h', hr⟩ := step i t i0 hN (by omega) h
        obtain ⟨r, L⟩ := plays_loop N step far out n (i + 1) t' (by omega) (by omega) h'
        exact ⟨r, .more hr L⟩
    · exact ⟨_, .last (out i t hN)⟩

theorem plays0 (kind : Int) (N d : Nat) (acts : Nat → Act) (wa : ∀ j, Act.ok (acts j)) : ∃ r, LoopR (lawPlays0_L1n kind N d acts) (0, false, tNew_0, emb tNew_0) (.inl r) := by
  refine plays_loop N (fun i t i0 i1 i2 h => ?_) (fun i t i0 i1 i2 => .p1 (by simpa using i1) i0 (by simpa using i2)) (fun i t i1 => .p4 (by simpa using i1)) 40 0 _ (by decide) (by decide) new_0.2
  have hi := doT_inv h (wa (Int.toNat i))
  have hst : ({ ((doF t (emb t) (acts (Int.toNat i))).2) with Reg := (upd (upd (upd (upd (emb t).Reg 0 ((((doF t (emb t) (acts (Int.toNat i))).2).Reg) 0)) 1 ((((doF t (emb t) (acts (Int.toNat i))).2).Reg) 1)) 2 ((((doF t (emb t) (acts (Int.toNat i))).2).Reg) 2)) 3 ((((doF t (emb t) (acts (Int.toNat i))).2).Reg) 3)) } : RTone) = emb (doT t (acts (Int.toNat i))) := by
    show ({ emb (doT t (acts (Int.toNat i))) with Reg := (upd (upd (upd (upd (emb t).Reg 0 ((emb (doT t (acts (Int.toNat i)))).Reg 0)) 1 ((emb (doT t (acts (Int.toNat i)))).Reg 1)) 2 ((emb (doT t (acts (Int.toNat i)))).Reg 2)) 3 ((emb (doT t (acts (Int.toNat i)))).Reg 3)) } : RTone) = _
    rw [store_emb]
  have := lawPlays0_L1n.p3 (kind := kind) (N_acts := N) (d_acts := d) (acts := acts) (xd := (i, false, t, emb t)) (by simpa using i1) i0 (by simpa using i2) h rfl hi.ok (by rw [hst]; exact emb_good hi) (by rw [hst, show (doF t (emb t) (acts (Int.toNat i))).1 = doT t (acts (Int.toNat i)) from rfl, like_true hi]; rfl)
  rw [hst, i64_in (i + 1) (by omega)] at this
  exact ⟨_, hi, this⟩

theorem plays1 (kind : Int) (N d : Nat) (acts : Nat → Act) (wa : ∀ j, Act.ok (acts j)) : ∃ r, LoopR (lawPlays1_L1n kind N d acts) (0, false, tNew_1, emb tNew_1) (.inl r) := by
  refine plays_loop N (fun i t i0 i1 i2 h => ?_) (fun i t i0 i1 i2 => .p1 (by simpa using i1) i0 (by simpa using i2)) (fun i t i1 => .p4 (by simpa using i1)) 40 0 _ (by decide) (by decide) new_1.2
  have hi := doT_inv h (wa (Int.toNat i))
  have hst : ({ ((doF t (emb t) (acts (Int.toNat i))).2) with Reg := (upd (upd (upd (upd (emb t).Reg 0 ((((doF t (emb t) (acts (Int.toNat i))).2).Reg) 0)) 1 ((((doF t (emb t) (acts (Int.toNat i))).2).Reg) 1)) 2 ((((doF t (emb t) (acts (Int.toNat i))).2).Reg) 2)) 3 ((((doF t (emb t) (acts (Int.toNat i))).2).Reg) 3)) } : RTone) = emb (doT t (acts (Int.toNat i))) := by
    show ({ emb (doT t (acts (Int.toNat i))) with Reg := (upd (upd (upd (upd (emb t).Reg 0 ((emb (doT t (acts (Int.toNat i)))).Reg 0)) 1 ((emb (doT t (acts (Int.toNat i)))).Reg 1)) 2 ((emb (doT t (acts (Int.toNat i)))).Reg 2)) 3 ((emb (doT t (acts (Int.toNat i)))).Reg 3)) } : RTone) = _
    rw [store_emb]
  have := lawPlays1_L1n.p3 (kind := kind) (N_acts := N) (d_acts := d) (acts := acts) (xd := (i, false, t, emb t)) (by simpa using i1) i0 (by simpa using i2) h rfl hi.ok (by rw [hst]; exact emb_good hi) (by rw [hst, show (doF t (emb t) (acts (Int.toNat i))).1 = doT t (acts (Int.toNat i)) from rfl, like_true hi]; rfl)
  rw [hst, i64_in (i + 1) (by omega)] at this
  exact ⟨_, hi, this⟩

theorem plays2 (kind : Int) (N d : Nat) (acts : Nat → Act) (wa : ∀ j, Act.ok (acts j)) : ∃ r, LoopR (lawPlays2_L1n kind N d acts) (0, false, tNew_2, emb tNew_2) (.inl r) := by
  refine plays_loop N (fun i t i0 i1 i2 h => ?_) (fun i t i0 i1 i2 => .p1 (by simpa using i1) i0 (by simpa using i2)) (fun i t i1 => .p4 (by simpa using i1)) 40 0 _ (by decide) (by decide) new_2.2
  have hi := doT_inv h (wa (Int.toNat i))
  have hst : ({ ((doF t (emb t) (acts (Int.toNat i))).2) with Reg := (upd (upd (upd (upd (emb t).Reg 0 ((((doF t (emb t) (acts (Int.toNat i))).2).Reg) 0)) 1 ((((doF t (emb t) (acts (Int.toNat i))).2).Reg) 1)) 2 ((((doF t (emb t) (acts (Int.toNat i))).2).Reg) 2)) 3 ((((doF t (emb t) (acts (Int.toNat i))).2).Reg) 3)) } : RTone) = emb (doT t (acts (Int.toNat i))) := by
    show ({ emb (doT t (acts (Int.toNat i))) with Reg := (upd (upd (upd (upd (emb t).Reg 0 ((emb (doT t (acts (Int.toNat i)))).Reg 0)) 1 ((emb (doT t (acts (Int.toNat i)))).Reg 1)) 2 ((emb (doT t (acts (Int.toNat i)))).Reg 2)) 3 ((emb (doT t (acts (Int.toNat i)))).Reg 3)) } : RTone) = _
    rw [store_emb]
  have := lawPlays2_L1n.p3 (kind := kind) (N_acts := N) (d_acts := d) (acts := acts) (xd := (i, false, t, emb t)) (by simpa using i1) i0 (by simpa using i2) h rfl hi.ok (by rw [hst]; exact emb_good hi) (by rw [hst, show (doF t (emb t) (acts (Int.toNat i))).1 = doT t (acts (Int.toNat i)) from rfl, like_true hi]; rfl)
  rw [hst, i64_in (i + 1) (by omega)] at this
  exact ⟨_, hi, this⟩

theorem plays3 (kind : Int) (N d : Nat) (acts : Nat → Act) (wa : ∀ j, Act.ok (acts j)) : ∃ r, LoopR (lawPlays3_L1n kind N d acts) (0, false, tNew_3, emb tNew_3) (.inl r) := by
  refine plays_loop N (fun i t i0 i1 i2 h => ?_) (fun i t i0 i1 i2 => .p1 (by simpa using i1) i0 (by simpa using i2)) (fun i t i1 => .p4 (by simpa using i1)) 40 0 _ (by decide) (by decide) new_3.2
  have hi := doT_inv h (wa (Int.toNat i))
  have hst : ({ ((doF t (emb t) (acts (Int.toNat i))).2) with Reg := (upd (upd (upd (upd (emb t).Reg 0 ((((doF t (emb t) (acts (Int.toNat i))).2).Reg) 0)) 1 ((((doF t (emb t) (acts (Int.toNat i))).2).Reg) 1)) 2 ((((doF t (emb t) (acts (Int.toNat i))).2).Reg) 2)) 3 ((((doF t (emb t) (acts (Int.toNat i))).2).Reg) 3)) } : RTone) = emb (doT t (acts (Int.toNat i))) := by
    show ({ emb (doT t (acts (Int.toNat i))) with Reg := (upd (upd (upd (upd (emb t).Reg 0 ((emb (doT t (acts (Int.toNat i)))).Reg 0)) 1 ((emb (doT t (acts (Int.toNat i)))).Reg 1)) 2 ((emb (doT t (acts (Int.toNat i)))).Reg 2)) 3 ((emb (doT t (acts (Int.toNat i)))).Reg 3)) } : RTone) = _
    rw [store_emb]
  have := lawPlays3_L1n.p3 (kind := kind) (N_acts := N) (d_acts := d) (acts := acts) (xd := (i, false, t, emb t)) (by simpa using i1) i0 (by simpa using i2) h rfl hi.ok (by rw [hst]; exact emb_good hi) (by rw [hst, show (doF t (emb t) (acts (Int.toNat i))).1 = doT t (acts (Int.toNat i)) from rfl, like_true hi]; rfl)
  rw [hst, i64_in (i + 1) (by omega)] at this
  exact ⟨_, hi, this⟩

theorem plays_true (kind : Int) (N d : Nat) (acts : Nat → Act) (hk : rng 256 kind) (wa : ∀ j, Act.ok (acts j)) :
    FnSpec Tryd.prog 8 1001 [.int .u8 kind, .slice (some ⟨1000, 0, (some d)⟩) N 0] [(0, ⟨[.ints .u16 16 noisesT], 60, true⟩), (1, ⟨[.ints .u8 4 dutiesT], 39, true⟩), (2, ⟨[.ints .u8 32 lengthsT], 64, true⟩), (1000, ⟨[.gap d, .rows N 4 (fun i => Act.cells (acts i))], 51, true⟩)] (.bool true) [] := by
  obtain ⟨k0, k1⟩ := hk
  have aw := awake_t
  have ek : Int.tmod kind 4 = kind % 4 := Int.tmod_eq_emod_of_nonneg k0
  obtain h | h | h | h : Int.tmod kind 4 = 0 ∨ Int.tmod kind 4 = 1 ∨ Int.tmod kind 4 = 2 ∨ Int.tmod kind 4 = 3 := by rw [ek]; omega
  · obtain ⟨r, L⟩ := plays0 kind N d acts wa
    refine lawPlays0_p1 kind N d acts wa h aw r ?_
    rw [new_0.1, fresh_emb]
    exact L
  · obtain ⟨r, L⟩ := plays1 kind N d acts wa
    refine lawPlays1_p1 kind N d acts wa h aw r ?_
    rw [new_1.1, fresh_emb]
    exact L
  · obtain ⟨r, L⟩ := plays2 kind N d acts wa
    refine lawPlays2_p1 kind N d acts wa h aw r ?_
    rw [new_2.1, fresh_emb]
    exact L
  · obtain ⟨r, L⟩ := plays3 kind N d acts wa
    refine lawPlays3_p1 kind N d acts wa h aw r ?_
    rw [new_3.1, fresh_emb]
    exact L

end Go.Proofs.YtngeghiaakkdbaaDoor
