/-
  A core on its way to the next beginning, whatever its lines. No condition.
-/
import Derived.Test.YtmnhmplcpijanaaGreatCY
namespace Go.Proofs.YtmnhmplcpijanaaGreat
open Go VX
set_option linter.unusedVariables false
set_option linter.unusedSimpArgs false
set_option maxRecDepth 100000

/-- A core that has m cycles to go; then it has these registers, and the memory is this. -/
structure Going (P : List Int) (q : Regs) (L' : List RAcc) (xs : List Acc) (w n : Bool) (x : Regs) (c : Core) (L : List RAcc) : Prop where
  ne : c.l ≠ []
  hw : c.waits = w
  hn : c.line = n
  was : c.was = x
  run : ∃ (fuel : Nat) (d : Core), runP P (unroll fuel c) L = (d, L', xs) ∧ Fin false d q

theorem unroll_ne {P : List Int} {e d : Core} {L L' : List RAcc} {xs : List Acc} {k : Nat} (he : e.l ≠ []) (h : runP P (unroll k e) L = (d, L', xs)) (hd : d.l = []) : xs ≠ [] := by
  cases k with
  | zero =>
    have : e = d := congrArg (·.1) h
    exact absurd (this ▸ hd) he
  | succ k =>
    cases hc : e.l with
    | nil => exact absurd hc he
    | cons p r =>
      have : runP P (unroll (k + 1) e) L = ((runP P (unroll k (doF p.2 { e with l := r } (byteOf P L (wantF p.1 e)))) (memOf L (wantF p.1 e))).1, (runP P (unroll k (doF p.2 { e with l := r } (byteOf P L (wantF p.1 e)))) (memOf L (wantF p.1 e))).2.1,
          wantF p.1 e :: (runP P (unroll k (doF p.2 { e with l := r } (byteOf P L (wantF p.1 e)))) (memOf L (wantF p.1 e))).2.2) := by simp only [unroll, hc, runP]
      rw [this] at h
      have h3 : _ :: _ = xs := congrArg (·.2.2) h
      rw [← h3]; exact fun h => nomatch h

/-- A cycle of such a core. -/
theorem Going.step {P : List Int} {q : Regs} {L' : List RAcc} {xs : List Acc} {w n : Bool} {x : Regs} {c : Core} {L : List RAcc} (h : Going P q L' xs w n x c L) (irq nmi : Bool) :
    ∃ (c1 : Core) (L1 : List RAcc) (a : Acc) (ys : List Acc), cycleF c P L irq nmi = (c1, L1, a) ∧ xs = a :: ys ∧
      ((ys = [] ∧ L1 = L' ∧ ∃ d : Core, Fin false d q ∧ c1 = fin (d.io (w || (nmi && !n)) nmi false x) irq) ∨ (ys ≠ [] ∧ c1.fresh = false ∧ Going P q L' ys (w || (nmi && !n)) nmi x c1 L1)) := by
  obtain ⟨hl, hw, hn, hx, fuel, d, hr, hF⟩ := h
  subst hw hn hx
  cases hc : c.l with
  | nil => exact absurd hc hl
  | cons p r =>
    have hcy := cycle_eq c P L irq nmi hc
    cases fuel with
    | zero =>
      have : c = d := congrArg (·.1) hr
      exact absurd (this ▸ hF.1) hl
    | succ k =>
      have hrun : runP P (unroll (k + 1) c) L = ((runP P (unroll k (doF p.2 { c with l := r } (byteOf P L (wantF p.1 c)))) (memOf L (wantF p.1 c))).1, (runP P (unroll k (doF p.2 { c with l := r } (byteOf P L (wantF p.1 c)))) (memOf L (wantF p.1 c))).2.1,
          wantF p.1 c :: (runP P (unroll k (doF p.2 { c with l := r } (byteOf P L (wantF p.1 c)))) (memOf L (wantF p.1 c))).2.2) := by
        simp only [unroll, hc, runP]
      rw [hrun] at hr
      generalize hd : doF p.2 { c with l := r } (byteOf P L (wantF p.1 c)) = e at hcy hr
      have h1 : (runP P (unroll k e) (memOf L (wantF p.1 c))).1 = d := congrArg (·.1) hr
      have h2 : (runP P (unroll k e) (memOf L (wantF p.1 c))).2.1 = L' := congrArg (·.2.1) hr
      have h3 : wantF p.1 c :: (runP P (unroll k e) (memOf L (wantF p.1 c))).2.2 = xs := congrArg (·.2.2) hr
      refine ⟨_, _, _, _, hcy, h3.symm, ?_⟩
      by_cases he : e.l = []
      · have hq : runP P (unroll k e) (memOf L (wantF p.1 c)) = (e, memOf L (wantF p.1 c), []) := by rw [u_nil he]; rfl
        rw [hq] at h1 h2 ⊢
        have h1 : e = d := h1
        subst h1
        exact .inl ⟨rfl, h2, e, hF, rfl⟩
      · refine .inr ⟨unroll_ne he (show runP P (unroll k e) (memOf L (wantF p.1 c)) = (d, L', _) from by rw [← h1, ← h2]) hF.1, ?_, ?_⟩
        · rw [fin_cons (c := e.io _ nmi false c.was) he]; rfl
        · rw [fin_cons (c := e.io _ nmi false c.was) he]
          refine ⟨he, rfl, rfl, rfl, k, d.io (c.waits || (nmi && !c.line)) nmi false c.was, ?_, ⟨hF.1, hF.2.1, hF.2.2⟩⟩
          rw [unroll_io, h1, h2.symm]

/-- The beginning of an instruction. -/
theorem going_fetch {c : Core} {q : Regs} (hl : c.l = [(38, 39)]) (hr : c.r = q) (hj : c.jam = false) (hv : Inv c) (P : List Int) (L : List RAcc) (hop : (codeF (codeAt P L q)).Op ≠ 69) :
    Going P (runP P (iprog q) L).1 (runP P (iprog q) L).2.1 (runP P (iprog q) L).2.2 c.waits c.line c.was c L := by
  subst hr
  have hr : Fin false (runP P (unroll 10 c) L).1 (runP P (iprog c.r) L).1 ∧ (runP P (unroll 10 c) L).2 = (runP P (iprog c.r) L).2 := by
    rw [u_cons hl]
    have hrel := fetch_rel { c with l := [] } ⟨hv.ok.r, hv.ok.was, hv.ok.c, hv.ok.at_, hv.ok.near, hv.ok.vector, hv.ok.low, hv.ok.m⟩ (codeAt P L c.r) (rng_byteOf _ _ _) hop
    obtain ⟨⟨q1, q2, q3⟩, q4⟩ := hrel.run P (memOf L (rd c.r.PC))
    refine ⟨⟨q1, q2, q3.trans hj⟩, ?_⟩
    show (_, _) = (_, _)
    exact congrArg (fun q : List RAcc × List Acc => (q.1, rd c.r.PC :: q.2)) q4
  exact ⟨by rw [hl]; exact fun h => (nomatch h), rfl, rfl, rfl, 10, _, by rw [← hr.2], hr.1⟩

/-- The beginning of an interrupt. -/
theorem going_int {c : Core} {q : Regs} {v : Int} (hl : c.l = [(38, 43), (38, 43), (77, 45), (78, 45), (79, 45), (46, 47), (46, 48)]) (hr : c.r = q) (hj : c.jam = false) (hv : c.vector = v) (hv2 : rng 65535 v) (hi : Inv c) (P : List Int) (L : List RAcc) :
    Going P (runP P (intP v q) L).1 (runP P (intP v q) L).2.1 (runP P (intP v q) L).2.2 c.waits c.line c.was c L := by
  subst hr
  obtain ⟨h1, h2⟩ := (rel_int hl hv hv2 hi.ok.r.U.S hi.ok.r.PC 0).run P L
  rw [hj] at h1
  exact ⟨by rw [hl]; exact fun h => (nomatch h), rfl, rfl, rfl, 8, _, by rw [← h2], h1⟩

/-- What follows, at the end. -/
theorem fin_next {d : Core} {q : Regs} {w n irq : Bool} {x : Regs} (hF : Fin false d q) :
    (w = true ∧ fin (d.io w n false x) irq = c_interrupt (d.io false n false x) 65530) ∨
    (w = false ∧ irq = true ∧ bAnd .u8 q.U.P 4 = 0 ∧ fin (d.io w n false x) irq = c_interrupt (d.io false n false x) 65534) ∨
    (w = false ∧ ¬ (irq = true ∧ bAnd .u8 q.U.P 4 = 0) ∧ fin (d.io w n false x) irq = c_begin (d.io false n false x) [(38, 39)]) := by
  obtain ⟨h1, h2, h3⟩ := hF
  have e0 : ¬ (d.io w n false x).l ≠ [] := fun h => h h1
  unfold fin
  rw [if_neg e0]
  cases w with
  | true => rw [if_pos (show (d.io true n false x).waits = true from rfl)]; exact .inl ⟨rfl, rfl⟩
  | false =>
    rw [if_neg (show ¬ (d.io false n false x).waits = true from fun h => nomatch h)]
    have e2 : (d.io false n false x).r.U.P = q.U.P := by show d.r.U.P = _; rw [h2]
    rw [e2]
    by_cases h : irq = true ∧ bAnd .u8 q.U.P 4 = 0
    · rw [if_pos h]; exact .inr (.inl ⟨rfl, h.1, h.2, rfl⟩)
    · rw [if_neg h]; exact .inr (.inr ⟨rfl, h, rfl⟩)
end Go.Proofs.YtmnhmplcpijanaaGreat
