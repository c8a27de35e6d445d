/-
  Layer 11: the plain law of waves. Written by gen_plap.py. No condition.
-/
import Derived.Test.YtngeghiaakkdbaaDoorTW
namespace Go.Proofs.YtngeghiaakkdbaaDoor
open Go VX IntWalk
set_option maxRecDepth 100000
set_option linter.unusedSimpArgs false
set_option linter.unusedVariables false


theorem puts_loop {rel : Int × Tone × RTone → (Int × Tone × RTone) ⊕ (Int × Tone × RTone) → Prop}
    (step : ∀ (i : Int) (t : Tone), 0 ≤ i → i < 4 → Inv t → ∃ t', Inv t' ∧ rel (i, t, emb t) (.inl (i + 1, t', emb t')))
    (out : ∀ (t : Tone), rel (4, t, emb t) (.inr (4, t, emb t))) :
    ∀ (n : Nat) (i : Int) (t : Tone), 0 ≤ i → i + n = 4 → Inv t → ∃ t', Inv t' ∧ LoopR rel (i, t, emb t) (4, t', emb t')
  | 0, i, t, i0, hn, h => by
    have : i = 4 := by simpa using hn
    subst this
    exact ⟨t, h, .last (out t)⟩
  | n + 1, i, t, i0, hn, h => by
    obtain ⟨t', h', hr⟩ := step i t i0 (by omega) h
    obtain ⟨t2, h2, L⟩ := puts_loop step out n (i + 1) t' (by omega) (by omega) h'
    exact ⟨t2, h2, .more hr L⟩

theorem waves_loop {rel : Int × Bool × Tone × RTone → (Int × Bool × Tone × RTone) ⊕ ((Int × Bool × Tone × RTone) ⊕ Bool) → Prop}
    (step : ∀ (i : Int) (t : Tone), 0 ≤ i → i < 2000 → Inv t → rel (i, false, t, emb t) (.inl (i + 1, false, tClock t, emb (tClock t))))
    (out : ∀ (t : Tone), rel (2000, false, t, emb t) (.inr (.inl (2000, false, t, emb t)))) :
    ∀ (n : Nat) (i : Int) (t : Tone), 0 ≤ i → i + n = 2000 → Inv t → ∃ r, LoopR rel (i, false, t, emb t) (.inl r)
  | 0, i, t, i0, hn, h => by
    have : i = 2000 := by simpa using hn
    subst this
    exact ⟨_, .last (out t)⟩
  | n + 1, i, t, i0, hn, h => by
    obtain ⟨r, L⟩ := waves_loop step out n (i + 1) (tClock t) (by omega) (by omega) (inv_clock h)
    exact ⟨r, .more (step i t i0 (by omega) h) L⟩

theorem quarters_inv : ∀ (k : Nat) {t : Tone}, Inv t → Inv (iterS tQuarter k t) := fun k t h => iterS_inv (p := Inv) (fun s hs => inv_quarter hs) k t h

theorem waves0 (kind : Int) (regs : Nat → Int) (n : Int) (hr : ∀ j, j < 4 → rng 256 (regs j)) (hn : rng 256 n) (hk : Int.tmod kind 4 = 0) :
    FnSpec Tryd.prog 7 1000 [.int .u8 kind, .agg ⟨[.int .u8 (regs 0), .int .u8 (regs 1), .int .u8 (regs 2), .int .u8 (regs 3)]⟩, .int .u8 n] [(0, ⟨[.ints .u16 16 noisesT], 60, true⟩), (1, ⟨[.ints .u8 4 dutiesT], 39, true⟩), (2, ⟨[.ints .u8 32 lengthsT], 64, true⟩)] (.bool true) [] := by
  have i0 := inv_enable new_0.2 true
  obtain ⟨t1, i1, L1⟩ := puts_loop (rel := lawWaves0_L1n kind regs n) (fun i t h0 h1 hi => by
      have hb : rng 256 (List.getD ([((fun j => List.getD [(regs 0), (regs 1), (regs 2), (regs 3)] j 0) 0), ((fun j => List.getD [(regs 0), (regs 1), (regs 2), (regs 3)] j 0) 1), ((fun j => List.getD [(regs 0), (regs 1), (regs 2), (regs 3)] j 0) 2), ((fun j => List.getD [(regs 0), (regs 1), (regs 2), (regs 3)] j 0) 3)] : List Int) (Int.toNat i) 0) := rng_list (n := 256) (by decide) [regs 0, regs 1, regs 2, regs 3] ⟨hr 0 (by decide), hr 1 (by decide), hr 2 (by decide), hr 3 (by decide), trivial⟩ (Int.toNat i)
      have P := lawWaves0_L1n.p1 (kind := kind) (regs := regs) (n := n) (xd := (i, t, emb t)) (by simpa using h1) h0 hi.ok hb ⟨h0, by show i < 256; omega⟩
      revert hb P
      simp only
      generalize (List.getD ([((fun j => List.getD [(regs 0), (regs 1), (regs 2), (regs 3)] j 0) 0), ((fun j => List.getD [(regs 0), (regs 1), (regs 2), (regs 3)] j 0) 1), ((fun j => List.getD [(regs 0), (regs 1), (regs 2), (regs 3)] j 0) 2), ((fun j => List.getD [(regs 0), (regs 1), (regs 2), (regs 3)] j 0) 3)] : List Int) (Int.toNat i) 0) = b
      intro hb P
      have hb' : 0 ≤ b ∧ b < 256 := hb
      have w1 : IntKind.i64.wrap b = b := i64_in _ (by omega)
      have w2 : IntKind.u8.wrap i = i := u8_in _ (by omega)
      rw [w1, w2, emb_put hi i b ⟨h0, by omega⟩ hb', store_emb, i64_in (i + 1) (by omega)] at P
      exact ⟨_, inv_put hi i b ⟨h0, by omega⟩ hb', P hb' (emb_good hi)⟩)
    (fun t => .p2 (show decide ((4 : Int) < 4) = false by decide)) 4 0 (tEnable tNew_0 true) (by decide) (by decide) i0
  obtain ⟨n0, n1⟩ := hn
  have en : IntKind.u8.wrap (1 + (Int.tmod n 8)) = 1 + n % 8 := by rw [Int.tmod_eq_emod_of_nonneg n0, u8_in _ (by omega)]
  have hN : 1 + n % 8 = (((1 + n % 8).toNat : Nat) : Int) := by omega
  have L2 := iter_seq (f := lawWaves0_L2n kind regs n (4, t1, emb t1)) (fun k => (((k : Nat) : Int), iterS tQuarter k t1, emb (iterS tQuarter k t1))) (1 + n % 8).toNat (1 + n % 8, iterS tQuarter (1 + n % 8).toNat t1, emb (iterS tQuarter (1 + n % 8).toNat t1))
    (fun k hk => by
      unfold lawWaves0_L2n
      rw [if_pos (by rw [en]; simp; omega)]
      have hik := quarters_inv k i1
      simp only
      rw [emb_quarter hik, store_emb, u8_in _ (by omega), iterS_succ]
      have e2 : ((k : Int) + 1) = ((k + 1 : Nat) : Int) := by omega
      rw [e2])
    (by
      unfold lawWaves0_L2n
      rw [if_neg (by rw [en]; simp; omega), ← hN])
  have i2 := quarters_inv (1 + n % 8).toNat i1
  obtain ⟨r3, L3⟩ := waves_loop (rel := lawWaves0_L3n kind regs n (4, t1, emb t1) (1 + n % 8, iterS tQuarter (1 + n % 8).toNat t1, emb (iterS tQuarter (1 + n % 8).toNat t1))) (fun i t h0 h1 hi => by
      have hc := inv_clock hi
      have hst : ({ (rClock (emb t)) with Reg := (upd (upd (upd (upd (emb t).Reg 0 (((rClock (emb t)).Reg) 0)) 1 (((rClock (emb t)).Reg) 1)) 2 (((rClock (emb t)).Reg) 2)) 3 (((rClock (emb t)).Reg) 3)) } : RTone) = emb (tClock t) := by
        rw [emb_clock hi, store_emb]
      have P := lawWaves0_L3n.p2 (kind := kind) (regs := regs) (n := n) (r1 := (4, t1, emb t1)) (r2 := (1 + n % 8, iterS tQuarter (1 + n % 8).toNat t1, emb (iterS tQuarter (1 + n % 8).toNat t1))) (xd := (i, false, t, emb t)) (by simpa using h1) hi.ok (by rw [hst]; exact emb_good hc) (by rw [hst, like_true hc]; rfl)
      rw [hst, i64_in (i + 1) (by omega)] at P
      exact P)
    (fun t => .p3 (show decide ((2000 : Int) < 2000) = false by decide)) 2000 0 _ (by decide) (by decide) i2
  refine lawWaves0_p1 kind regs n hk awake_t (4, t1, emb t1) ?_ _ (1 + n % 8, iterS tQuarter (1 + n % 8).toNat t1, emb (iterS tQuarter (1 + n % 8).toNat t1)) L2 r3 L3
  rw [new_0.1]
  have e1 : ({ emb tNew_0 with Reg := (upd (upd (upd (upd (fun _ => 0) 0 ((emb tNew_0).Reg 0)) 1 ((emb tNew_0).Reg 1)) 2 ((emb tNew_0).Reg 2)) 3 ((emb tNew_0).Reg 3)) } : RTone) = emb tNew_0 := rfl
  rw [e1, emb_enable, fresh_emb, store_emb]
  exact L1

theorem waves1 (kind : Int) (regs : Nat → Int) (n : Int) (hr : ∀ j, j < 4 → rng 256 (regs j)) (hn : rng 256 n) (hk : Int.tmod kind 4 = 1) :
    FnSpec Tryd.prog 7 1000 [.int .u8 kind, .agg ⟨[.int .u8 (regs 0), .int .u8 (regs 1), .int .u8 (regs 2), .int .u8 (regs 3)]⟩, .int .u8 n] [(0, ⟨[.ints .u16 16 noisesT], 60, true⟩), (1, ⟨[.ints .u8 4 dutiesT], 39, true⟩), (2, ⟨[.ints .u8 32 lengthsT], 64, true⟩)] (.bool true) [] := by
  have i0 := inv_enable new_1.2 true
  obtain ⟨t1, i1, L1⟩ := puts_loop (rel := lawWaves1_L1n kind regs n) (fun i t h0 h1 hi => by
      have hb : rng 256 (List.getD ([((fun j => List.getD [(regs 0), (regs 1), (regs 2), (regs 3)] j 0) 0), ((fun j => List.getD [(regs 0), (regs 1), (regs 2), (regs 3)] j 0) 1), ((fun j => List.getD [(regs 0), (regs 1), (regs 2), (regs 3)] j 0) 2), ((fun j => List.getD [(regs 0), (regs 1), (regs 2), (regs 3)] j 0) 3)] : List Int) (Int.toNat i) 0) := rng_list (n := 256) (by decide) [regs 0, regs 1, regs 2, regs 3] ⟨hr 0 (by decide), hr 1 (by decide), hr 2 (by decide), hr 3 (by decide), trivial⟩ (Int.toNat i)
      have P := lawWaves1_L1n.p1 (kind := kind) (regs := regs) (n := n) (xd := (i, t, emb t)) (by simpa using h1) h0 hi.ok hb ⟨h0, by show i < 256; omega⟩
      revert hb P
      simp only
      generalize (List.getD ([((fun j => List.getD [(regs 0), (regs 1), (regs 2), (regs 3)] j 0) 0), ((fun j => List.getD [(regs 0), (regs 1), (regs 2), (regs 3)] j 0) 1), ((fun j => List.getD [(regs 0), (regs 1), (regs 2), (regs 3)] j 0) 2), ((fun j => List.getD [(regs 0), (regs 1), (regs 2), (regs 3)] j 0) 3)] : List Int) (Int.toNat i) 0) = b
      intro hb P
      have hb' : 0 ≤ b ∧ b < 256 := hb
      have w1 : IntKind.i64.wrap b = b := i64_in _ (by omega)
      have w2 : IntKind.u8.wrap i = i := u8_in _ (by omega)
      rw [w1, w2, emb_put hi i b ⟨h0, by omega⟩ hb', store_emb, i64_in (i + 1) (by omega)] at P
      exact ⟨_, inv_put hi i b ⟨h0, by omega⟩ hb', P hb' (emb_good hi)⟩)
    (fun t => .p2 (show decide ((4 : Int) < 4) = false by decide)) 4 0 (tEnable tNew_1 true) (by decide) (by decide) i0
  obtain ⟨n0, n1⟩ := hn
  have en : IntKind.u8.wrap (1 + (Int.tmod n 8)) = 1 + n % 8 := by rw [Int.tmod_eq_emod_of_nonneg n0, u8_in _ (by omega)]
  have hN : 1 + n % 8 = (((1 + n % 8).toNat : Nat) : Int) := by omega
  have L2 := iter_seq (f := lawWaves1_L2n kind regs n (4, t1, emb t1)) (fun k => (((k : Nat) : Int), iterS tQuarter k t1, emb (iterS tQuarter k t1))) (1 + n % 8).toNat (1 + n % 8, iterS tQuarter (1 + n % 8).toNat t1, emb (iterS tQuarter (1 + n % 8).toNat t1))
    (fun k hk => by
      unfold lawWaves1_L2n
      rw [if_pos (by rw [en]; simp; omega)]
      have hik := quarters_inv k i1
      simp only
      rw [emb_quarter hik, store_emb, u8_in _ (by omega), iterS_succ]
      have e2 : ((k : Int) + 1) = ((k + 1 : Nat) : Int) := by omega
      rw [e2])
    (by
      unfold lawWaves1_L2n
      rw [if_neg (by rw [en]; simp; omega), ← hN])
  have i2 := quarters_inv (1 + n % 8).toNat i1
  obtain ⟨r3, L3⟩ := waves_loop (rel := lawWaves1_L3n kind regs n (4, t1, emb t1) (1 + n % 8, iterS tQuarter (1 + n % 8).toNat t1, emb (iterS tQuarter (1 + n % 8).toNat t1))) (fun i t h0 h1 hi => by
      have hc := inv_clock hi
      have hst : ({ (rClock (emb t)) with Reg := (upd (upd (upd (upd (emb t).Reg 0 (((rClock (emb t)).Reg) 0)) 1 (((rClock (emb t)).Reg) 1)) 2 (((rClock (emb t)).Reg) 2)) 3 (((rClock (emb t)).Reg) 3)) } : RTone) = emb (tClock t) := by
        rw [emb_clock hi, store_emb]
      have P := lawWaves1_L3n.p2 (kind := kind) (regs := regs) (n := n) (r1 := (4, t1, emb t1)) (r2 := (1 + n % 8, iterS tQuarter (1 + n % 8).toNat t1, emb (iterS tQuarter (1 + n % 8).toNat t1))) (xd := (i, false, t, emb t)) (by simpa using h1) hi.ok (by rw [hst]; exact emb_good hc) (by rw [hst, like_true hc]; rfl)
      rw [hst, i64_in (i + 1) (by omega)] at P
      exact P)
    (fun t => .p3 (show decide ((2000 : Int) < 2000) = false by decide)) 2000 0 _ (by decide) (by decide) i2
  refine lawWaves1_p1 kind regs n hk awake_t (4, t1, emb t1) ?_ _ (1 + n % 8, iterS tQuarter (1 + n % 8).toNat t1, emb (iterS tQuarter (1 + n % 8).toNat t1)) L2 r3 L3
  rw [new_1.1]
  have e1 : ({ emb tNew_1 with Reg := (upd (upd (upd (upd (fun _ => 0) 0 ((emb tNew_1).Reg 0)) 1 ((emb tNew_1).Reg 1)) 2 ((emb tNew_1).Reg 2)) 3 ((emb tNew_1).Reg 3)) } : RTone) = emb tNew_1 := rfl
  rw [e1, emb_enable, fresh_emb, store_emb]
  exact L1

theorem waves2 (kind : Int) (regs : Nat → Int) (n : Int) (hr : ∀ j, j < 4 → rng 256 (regs j)) (hn : rng 256 n) (hk : Int.tmod kind 4 = 2) :
    FnSpec Tryd.prog 7 1000 [.int .u8 kind, .agg ⟨[.int .u8 (regs 0), .int .u8 (regs 1), .int .u8 (regs 2), .int .u8 (regs 3)]⟩, .int .u8 n] [(0, ⟨[.ints .u16 16 noisesT], 60, true⟩), (1, ⟨[.ints .u8 4 dutiesT], 39, true⟩), (2, ⟨[.ints .u8 32 lengthsT], 64, true⟩)] (.bool true) [] := by
  have i0 := inv_enable new_2.2 true
  obtain ⟨t1, i1, L1⟩ := puts_loop (rel := lawWaves2_L1n kind regs n) (fun i t h0 h1 hi => by
      have hb : rng 256 (List.getD ([((fun j => List.getD [(regs 0), (regs 1), (regs 2), (regs 3)] j 0) 0), ((fun j => List.getD [(regs 0), (regs 1), (regs 2), (regs 3)] j 0) 1), ((fun j => List.getD [(regs 0), (regs 1), (regs 2), (regs 3)] j 0) 2), ((fun j => List.getD [(regs 0), (regs 1), (regs 2), (regs 3)] j 0) 3)] : List Int) (Int.toNat i) 0) := rng_list (n := 256) (by decide) [regs 0, regs 1, regs 2, regs 3] ⟨hr 0 (by decide), hr 1 (by decide), hr 2 (by decide), hr 3 (by decide), trivial⟩ (Int.toNat i)
      have P := lawWaves2_L1n.p1 (kind := kind) (regs := regs) (n := n) (xd := (i, t, emb t)) (by simpa using h1) h0 hi.ok hb ⟨h0, by show i < 256; omega⟩
      revert hb P
      simp only
      generalize (List.getD ([((fun j => List.getD [(regs 0), (regs 1), (regs 2), (regs 3)] j 0) 0), ((fun j => List.getD [(regs 0), (regs 1), (regs 2), (regs 3)] j 0) 1), ((fun j => List.getD [(regs 0), (regs 1), (regs 2), (regs 3)] j 0) 2), ((fun j => List.getD [(regs 0), (regs 1), (regs 2), (regs 3)] j 0) 3)] : List Int) (Int.toNat i) 0) = b
      intro hb P
      have hb' : 0 ≤ b ∧ b < 256 := hb
      have w1 : IntKind.i64.wrap b = b := i64_in _ (by omega)
      have w2 : IntKind.u8.wrap i = i := u8_in _ (by omega)
      rw [w1, w2, emb_put hi i b ⟨h0, by omega⟩ hb', store_emb, i64_in (i + 1) (by omega)] at P
      exact ⟨_, inv_put hi i b ⟨h0, by omega⟩ hb', P hb' (emb_good hi)⟩)
    (fun t => .p2 (show decide ((4 : Int) < 4) = false by decide)) 4 0 (tEnable tNew_2 true) (by decide) (by decide) i0
  obtain ⟨n0, n1⟩ := hn
  have en : IntKind.u8.wrap (1 + (Int.tmod n 8)) = 1 + n % 8 := by rw [Int.tmod_eq_emod_of_nonneg n0, u8_in _ (by omega)]
  have hN : 1 + n % 8 = (((1 + n % 8).toNat : Nat) : Int) := by omega
  have L2 := iter_seq (f := lawWaves2_L2n kind regs n (4, t1, emb t1)) (fun k => (((k : Nat) : Int), iterS tQuarter k t1, emb (iterS tQuarter k t1))) (1 + n % 8).toNat (1 + n % 8, iterS tQuarter (1 + n % 8).toNat t1, emb (iterS tQuarter (1 + n % 8).toNat t1))
    (fun k hk => by
      unfold lawWaves2_L2n
      rw [if_pos (by rw [en]; simp; omega)]
      have hik := quarters_inv k i1
      simp only
      rw [emb_quarter hik, store_emb, u8_in _ (by omega), iterS_succ]
      have e2 : ((k : Int) + 1) = ((k + 1 : Nat) : Int) := by omega
      rw [e2])
    (by
      unfold lawWaves2_L2n
      rw [if_neg (by rw [en]; simp; omega), ← hN])
  have i2 := quarters_inv (1 + n % 8).toNat i1
  obtain ⟨r3, L3⟩ := waves_loop (rel := lawWaves2_L3n kind regs n (4, t1, emb t1) (1 + n % 8, iterS tQuarter (1 + n % 8).toNat t1, emb (iterS tQuarter (1 + n % 8).toNat t1))) (fun i t h0 h1 hi => by
      have hc := inv_clock hi
      have hst : ({ (rClock (emb t)) with Reg := (upd (upd (upd (upd (emb t).Reg 0 (((rClock (emb t)).Reg) 0)) 1 (((rClock (emb t)).Reg) 1)) 2 (((rClock (emb t)).Reg) 2)) 3 (((rClock (emb t)).Reg) 3)) } : RTone) = emb (tClock t) := by
        rw [emb_clock hi, store_emb]
      have P := lawWaves2_L3n.p2 (kind := kind) (regs := regs) (n := n) (r1 := (4, t1, emb t1)) (r2 := (1 + n % 8, iterS tQuarter (1 + n % 8).toNat t1, emb (iterS tQuarter (1 + n % 8).toNat t1))) (xd := (i, false, t, emb t)) (by simpa using h1) hi.ok (by rw [hst]; exact emb_good hc) (by rw [hst, like_true hc]; rfl)
      rw [hst, i64_in (i + 1) (by omega)] at P
      exact P)
    (fun t => .p3 (show decide ((2000 : Int) < 2000) = false by decide)) 2000 0 _ (by decide) (by decide) i2
  refine lawWaves2_p1 kind regs n hk awake_t (4, t1, emb t1) ?_ _ (1 + n % 8, iterS tQuarter (1 + n % 8).toNat t1, emb (iterS tQuarter (1 + n % 8).toNat t1)) L2 r3 L3
  rw [new_2.1]
  have e1 : ({ emb tNew_2 with Reg := (upd (upd (upd (upd (fun _ => 0) 0 ((emb tNew_2).Reg 0)) 1 ((emb tNew_2).Reg 1)) 2 ((emb tNew_2).Reg 2)) 3 ((emb tNew_2).Reg 3)) } : RTone) = emb tNew_2 := rfl
  rw [e1, emb_enable, fresh_emb, store_emb]
  exact L1

theorem waves3 (kind : Int) (regs : Nat → Int) (n : Int) (hr : ∀ j, j < 4 → rng 256 (regs j)) (hn : rng 256 n) (hk : Int.tmod kind 4 = 3) :
    FnSpec Tryd.prog 7 1000 [.int .u8 kind, .agg ⟨[.int .u8 (regs 0), .int .u8 (regs 1), .int .u8 (regs 2), .int .u8 (regs 3)]⟩, .int .u8 n] [(0, ⟨[.ints .u16 16 noisesT], 60, true⟩), (1, ⟨[.ints .u8 4 dutiesT], 39, true⟩), (2, ⟨[.ints .u8 32 lengthsT], 64, true⟩)] (.bool true) [] := by
  have i0 := inv_enable new_3.2 true
  obtain ⟨t1, i1, L1⟩ := puts_loop (rel := lawWaves3_L1n kind regs n) (fun i t h0 h1 hi => by
      have hb : rng 256 (List.getD ([((fun j => List.getD [(regs 0), (regs 1), (regs 2), (regs 3)] j 0) 0), ((fun j => List.getD [(regs 0), (regs 1), (regs 2), (regs 3)] j 0) 1), ((fun j => List.getD [(regs 0), (regs 1), (regs 2), (regs 3)] j 0) 2), ((fun j => List.getD [(regs 0), (regs 1), (regs 2), (regs 3)] j 0) 3)] : List Int) (Int.toNat i) 0) := rng_list (n := 256) (by decide) [regs 0, regs 1, regs 2, regs 3] ⟨hr 0 (by decide), hr 1 (by decide), hr 2 (by decide), hr 3 (by decide), trivial⟩ (Int.toNat i)
      have P := lawWaves3_L1n.p1 (kind := kind) (regs := regs) (n := n) (xd := (i, t, emb t)) (by simpa using h1) h0 hi.ok hb ⟨h0, by show i < 256; omega⟩
      revert hb P
      simp only
      generalize (List.getD ([((fun j => List.getD [(regs 0), (regs 1), (regs 2), (regs 3)] j 0) 0), ((fun j => List.getD [(regs 0), (regs 1), (regs 2), (regs 3)] j 0) 1), ((fun j => List.getD [(regs 0), (regs 1), (regs 2), (regs 3)] j 0) 2), ((fun j => List.getD [(regs 0), (regs 1), (regs 2), (regs 3)] j 0) 3)] : List Int) (Int.toNat i) 0) = b
      intro hb P
      have hb' : 0 ≤ b ∧ b < 256 := hb
      have w1 : IntKind.i64.wrap b = b := i64_in _ (by omega)
      have w2 : IntKind.u8.wrap i = i := u8_in _ (by omega)
      rw [w1, w2, emb_put hi i b ⟨h0, by omega⟩ hb', store_emb, i64_in (i + 1) (by omega)] at P
      exact ⟨_, inv_put hi i b ⟨h0, by omega⟩ hb', P hb' (emb_good hi)⟩)
    (fun t => .p2 (show decide ((4 : Int) < 4) = false by decide)) 4 0 (tEnable tNew_3 true) (by decide) (by decide) i0
  obtain ⟨n0, n1⟩ := hn
  have en : IntKind.u8.wrap (1 + (Int.tmod n 8)) = 1 + n % 8 := by rw [Int.tmod_eq_emod_of_nonneg n0, u8_in _ (by omega)]
  have hN : 1 + n % 8 = (((1 + n % 8).toNat : Nat) : Int) := by omega
  have L2 := iter_seq (f := lawWaves3_L2n kind regs n (4, t1, emb t1)) (fun k => (((k : Nat) : Int), iterS tQuarter k t1, emb (iterS tQuarter k t1))) (1 + n % 8).toNat (1 + n % 8, iterS tQuarter (1 + n % 8).toNat t1, emb (iterS tQuarter (1 + n % 8).toNat t1))
    (fun k hk => by
      unfold lawWaves3_L2n
      rw [if_pos (by rw [en]; simp; omega)]
      have hik := quarters_inv k i1
      simp only
      rw [emb_quarter hik, store_emb, u8_in _ (by omega), iterS_succ]
      have e2 : ((k : Int) + 1) = ((k + 1 : Nat) : Int) := by omega
      rw [e2])
    (by
      unfold lawWaves3_L2n
      rw [if_neg (by rw [en]; simp; omega), ← hN])
  have i2 := quarters_inv (1 + n % 8).toNat i1
  obtain ⟨r3, L3⟩ := waves_loop (rel := lawWaves3_L3n kind regs n (4, t1, emb t1) (1 + n % 8, iterS tQuarter (1 + n % 8).toNat t1, emb (iterS tQuarter (1 + n % 8).toNat t1))) (fun i t h0 h1 hi => by
      have hc := inv_clock hi
      have hst : ({ (rClock (emb t)) with Reg := (upd (upd (upd (upd (emb t).Reg 0 (((rClock (emb t)).Reg) 0)) 1 (((rClock (emb t)).Reg) 1)) 2 (((rClock (emb t)).Reg) 2)) 3 (((rClock (emb t)).Reg) 3)) } : RTone) = emb (tClock t) := by
        rw [emb_clock hi, store_emb]
      have P := lawWaves3_L3n.p2 (kind := kind) (regs := regs) (n := n) (r1 := (4, t1, emb t1)) (r2 := (1 + n % 8, iterS tQuarter (1 + n % 8).toNat t1, emb (iterS tQuarter (1 + n % 8).toNat t1))) (xd := (i, false, t, emb t)) (by simpa using h1) hi.ok (by rw [hst]; exact emb_good hc) (by rw [hst, like_true hc]; rfl)
      rw [hst, i64_in (i + 1) (by omega)] at P
      exact P)
    (fun t => .p3 (show decide ((2000 : Int) < 2000) = false by decide)) 2000 0 _ (by decide) (by decide) i2
  refine lawWaves3_p1 kind regs n hk awake_t (4, t1, emb t1) ?_ _ (1 + n % 8, iterS tQuarter (1 + n % 8).toNat t1, emb (iterS tQuarter (1 + n % 8).toNat t1)) L2 r3 L3
  rw [new_3.1]
  have e1 : ({ emb tNew_3 with Reg := (upd (upd (upd (upd (fun _ => 0) 0 ((emb tNew_3).Reg 0)) 1 ((emb tNew_3).Reg 1)) 2 ((emb tNew_3).Reg 2)) 3 ((emb tNew_3).Reg 3)) } : RTone) = emb tNew_3 := rfl
  rw [e1, emb_enable, fresh_emb, store_emb]
  exact L1

theorem waves_true (kind : Int) (regs : Nat → Int) (n : Int) (hk : rng 256 kind) (hr : ∀ j, j < 4 → rng 256 (regs j)) (hn : rng 256 n) :
    FnSpec Tryd.prog 7 1000 [.int .u8 kind, .agg ⟨[.int .u8 (regs 0), .int .u8 (regs 1), .int .u8 (regs 2), .int .u8 (regs 3)]⟩, .int .u8 n] [(0, ⟨[.ints .u16 16 noisesT], 60, true⟩), (1, ⟨[.ints .u8 4 dutiesT], 39, true⟩), (2, ⟨[.ints .u8 32 lengthsT], 64, true⟩)] (.bool true) [] := by
  obtain ⟨k0, k1⟩ := hk
  have ek : Int.tmod kind 4 = kind % 4 := Int.tmod_eq_emod_of_nonneg k0
  obtain h | h | h | h : Int.tmod kind 4 = 0 ∨ Int.tmod kind 4 = 1 ∨ Int.tmod kind 4 = 2 ∨ Int.tmod kind 4 = 3 := by rw [ek]; omega
  · exact waves0 kind regs n hr hn h
  · exact waves1 kind regs n hr hn h
  · exact waves2 kind regs n hr hn h
  · exact waves3 kind regs n hr hn h

end Go.Proofs.YtngeghiaakkdbaaDoor
