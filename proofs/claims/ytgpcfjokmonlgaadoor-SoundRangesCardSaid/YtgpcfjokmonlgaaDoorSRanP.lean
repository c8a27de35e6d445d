/-
  Layer 12: the plain law of ranges. No condition.
-/
import Derived.Test.YtgpcfjokmonlgaaDoorST
import Derived.Test.YtgpcfjokmonlgaaDoorSRan
namespace Go.Proofs.YtgpcfjokmonlgaaDoor
open Go VX IntWalk
set_option maxRecDepth 100000
set_option linter.unusedSimpArgs false
set_option linter.unusedVariables false

theorem out_bounds {s : Snd} (h : SInv RInv s) : (decide ((sOut s : Int) < 0)) = false ∧ (decide ((sOut s : Int) > 85280)) = false := by
  have e := sout_eq h
  have h0 := out_le h.t0
  have h1 := out_le h.t1
  have h2 := out_le h.t2
  have h3 := out_le h.t3
  have hl := h.m.level
  have hl2 := h.m.ok.level
  unfold rng at hl2
  rw [e]
  constructor <;> simp <;> omega

theorem clks {rel : Int × Snd → (Int × Snd) ⊕ (Int × Snd) → Prop} (N : Int) (h0 : 0 ≤ N) (hN : N < 65536)
    (f : ∀ i s, decide ((i : Int) < N) = true → Man s → rel (i, s) (.inl (IntKind.u16.wrap (i + 1), sClock s))) (o : ∀ s, decide ((N : Int) < N) = false → rel (N, s) (.inr (N, s)))
    {p : Int → Tone → Prop} (cl : ClC p) {s : Snd} (h : SInv p s) : ∃ r, LoopR rel (0, s) (N, r) ∧ SInv p r := by
  refine ⟨iterS sClock N.toNat s, ?_, iterS_inv (p := SInv p) (fun s hs => (sinv_clock cl hs).2) _ _ h⟩
  exact loop_for (rel := rel) sClock N (fun _ s => SInv p s) (fun i s _ _ hs => (sinv_clock cl hs).2) (fun s => (N, s)) (fun i s i0 iN hs => by
    have := f i s (by simpa using iN) hs.c.1
    rw [u16_in _ (by omega)] at this
    exact this) (fun s _ => o s (by simp)) N.toNat 0 s (by omega) (by omega) h

theorem ran_step (N d : Nat) (acts : Nat → Act) (wa : ∀ j, Act.ok (acts j)) (i : Int) (s : Snd) (i0 : 0 ≤ i) (iN : i < N) (i30 : i < 30) (h : SInv RInv s) :
    ∃ s', SInv RInv s' ∧ lawRan_L1n N d acts (i, false, s) (.inl (i + 1, false, s')) := by
  have w := wa i.toNat
  have hN := w.N
  unfold rng at hN
  have c1 : (decide ((i : Int) < ((N : Nat) : Int))) = true := by simpa using iN
  have c2 : (decide ((i : Int) ≥ 30)) = false := by simp; omega
  have ei : IntKind.i64.wrap (i + 1) = i + 1 := i64_in _ (by omega)
  have em : Int.tmod (acts i.toNat).N 500 = (acts i.toNat).N % 500 := Int.tmod_eq_emod_of_nonneg hN.1
  rcases bt (((Int.tmod ((acts (Int.toNat i)).Do) 8) : Int) == 4) with c4 | c4
  · obtain ⟨r, L, hr⟩ := clks (rel := lawRan_L2nyny N d acts (i, false, s)) (Int.tmod (acts i.toNat).N 500) (by omega) (by omega) (fun i s h1 h2 => .p1 h1 h2) (fun s h => .p2 h) rinv_cl.toClC h
    refine ⟨r, hr, ?_⟩
    have := lawRan_L1n.p4 (N_acts := N) (d_acts := d) (acts := acts) (xd := (i, false, s)) c1 i0 c2 c4 _ L (hr.ok rinv_cl.toClC) (out_bounds hr).1 (out_bounds hr).2
    rw [ei] at this; exact this
  rcases bt (((Int.tmod ((acts (Int.toNat i)).Do) 8) : Int) == 5) with c5 | c5
  · obtain ⟨r, L, hr⟩ := clks (rel := lawRan_L2nynny N d acts (i, false, s)) (Int.tmod (acts i.toNat).N 500) (by omega) (by omega) (fun i s h1 h2 => .p1 h1 h2) (fun s h => .p2 h) rinv_cl.toClC h
    refine ⟨r, hr, ?_⟩
    have := lawRan_L1n.p7 (N_acts := N) (d_acts := d) (acts := acts) (xd := (i, false, s)) c1 i0 c2 c4 c5 _ L (hr.ok rinv_cl.toClC) (out_bounds hr).1 (out_bounds hr).2
    rw [ei] at this; exact this
  rcases bt (((Int.tmod ((acts (Int.toNat i)).Do) 8) : Int) == 7) with c7 | c7
  · have hr := sinv_give h w.B
    refine ⟨_, hr, ?_⟩
    have := lawRan_L1n.p10 (N_acts := N) (d_acts := d) (acts := acts) (xd := (i, false, s)) c1 i0 c2 c4 c5 c7 (h.ok rinv_cl.toClC) (out_bounds hr).1 (out_bounds hr).2
    rw [ei] at this; exact this
  · have hr := sinv_put rinv_cl h (IntKind.u16.wrap (16384 + (Int.tmod ((acts (Int.toNat i)).At) 24))) w.B
    refine ⟨_, hr, ?_⟩
    have := lawRan_L1n.p13 (N_acts := N) (d_acts := d) (acts := acts) (xd := (i, false, s)) c1 i0 c2 c4 c5 c7 (h.ok rinv_cl.toClC) (out_bounds hr).1 (out_bounds hr).2
    rw [ei] at this; exact this

theorem ran_loop (N d : Nat) (acts : Nat → Act) (wa : ∀ j, Act.ok (acts j)) : ∀ (n : Nat) (i : Int) (s : Snd), 0 ≤ i → i + n = 30 → SInv RInv s → ∃ r, LoopR (lawRan_L1n N d acts) (i, false, s) (.inl r)
  | n, i, s, i0, hn, h => by
    by_cases hN : i < N
    · cases n with
      | zero => exact ⟨_, .last (.p1 (by simpa using hN) i0 (by simp; omega))⟩
      | succ n =>
        obtain ⟨s', h', hr⟩ := ran_step N d acts wa i s i0 hN (by omega) h
        obtain ⟨r, L⟩ := ran_loop N d acts wa n (i + 1) s' (by omega) (by omega) h'
        exact ⟨r, .more hr L⟩
    · exact ⟨_, .last (.p14 (by simpa using hN))⟩

theorem ran_true (N d : Nat) (acts : Nat → Act) (wa : ∀ j, Act.ok (acts j)) : FnSpec Tryd.prog 5 1001 [.slice (some ⟨1000, 0, (some d)⟩) N 0] [tb0, tb1, tb2, tb3, tb4, (1000, ⟨[.gap d, .rows N 4 (fun i => Act.cells (acts i))], 34, true⟩)] (.bool true) [] := by
  obtain ⟨r, L⟩ := ran_loop N d acts wa 30 0 sNew (by decide) (by decide) new_rinv
  exact lawRan_p1 N d acts wa awake_t r L

end Go.Proofs.YtgpcfjokmonlgaaDoor
