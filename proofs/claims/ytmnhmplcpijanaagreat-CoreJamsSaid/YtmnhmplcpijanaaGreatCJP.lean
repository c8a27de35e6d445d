/-
  CoreJams: what the Go function computes is true. No condition but that a slice's length is an int.
-/
import Derived.Test.YtmnhmplcpijanaaGreatCK
import Derived.Test.YtmnhmplcpijanaaGreatCNP
namespace Go.Proofs.YtmnhmplcpijanaaGreat
open Go VX
set_option linter.unusedVariables false
set_option maxRecDepth 100000

/-- It is frozen. -/
structure JamSt (r : Regs) (c : Core) : Prop where
  l : c.l = [(128, 129)]
  jam : c.jam = true
  fresh : c.fresh = false
  was : c.was = (coreFrom r).was
  ok : Core.ok c

theorem JamSt.inv {r : Regs} {c : Core} (h : JamSt r c) : Inv c := ⟨h.ok, by rw [h.l]; exact (fun h => nomatch h), by rw [h.l]; exact lok_of rfl⟩
theorem doF_129 (c : Core) (b : Int) : doF 129 c b = { c with l := [(128, 129)] } := by kernel_rfl

theorem jam_start {r : Regs} (w : Regs.ok r) : JamSt r (clockF (coreFrom r) 2 false false) :=
  ⟨by kernel_rfl, by kernel_rfl, by kernel_rfl, by kernel_rfl, (inv_clock (inv_from w) (by decide : rng 256 2) false false).ok⟩

theorem jam_clock {r : Regs} {c : Core} (h : JamSt r c) {b : Int} (w : rng 256 b) (irq nmi : Bool) : JamSt r (clockF c b irq nmi) := by
  have e : clockF c b irq nmi = { take1 c nmi with l := [(128, 129)] } := by
    unfold clockF
    rw [h.l, show hdD [(128, 129)] = 129 from rfl, doF_129]
    unfold fin
    rw [if_pos (fun h => nomatch h)]
  have hok := (inv_clock h.inv w irq nmi).ok
  rw [e] at hok ⊢
  exact ⟨rfl, h.jam, rfl, h.was, hok⟩

theorem jam_wants {r : Regs} {c : Core} (h : JamSt r c) : c_Wants c = ⟨65535, false, 0⟩ := by
  unfold c_Wants
  rw [h.l]
  kernel_rfl

theorem jam_loop {r0 : Regs} {N d : Nat} {lines : Nat → Int} {to : Int} {s1 : Core} (hN : (N : Int) ≤ 9223372036854775807) (wl : ∀ j, rng 256 (lines j)) :
    ∀ (k : Nat) (i : Int) (x : Bool) (c : Core), 0 ≤ i → i + (k : Int) = N → JamSt r0 c → ∃ r1, LoopR (lawJams_L1n r0 N d lines to s1) (i, x, c) (.inl r1) ∧ JamSt r0 r1.2.2 := by
  intro k
  induction k with
  | zero =>
    intro i x c h0 hi hj
    exact ⟨_, .last (.p6 (by simp; omega)), hj⟩
  | succ k ih =>
    intro i x c h0 hi hj
    have hw : IntKind.i64.wrap (i + 1) = i + 1 := by rw [IntKind.wrap_i64]; omega
    have hlt : (decide (i < ((N : Nat) : Int))) = true := by simp; omega
    cases h60 : decide (i < 60) with
    | true =>
      have st := lawJams_L1n.p4 (r := r0) (N_lines := N) (d_lines := d) (lines := lines) (to := to) (s1c := s1) (xd := (i, x, c)) hlt h0 h60 (by simp [c_Jammed, hj.jam]) (by simp [c_Ready, hj.fresh]) hj.inv.ne hj.inv.hw (by simp only [jam_wants hj]; rfl) hj.inv _ rfl
      simp only [hw] at st
      obtain ⟨r1, h1, h2⟩ := ih (i + 1) x _ (by omega) (by omega) (jam_clock hj (wl _) _ _)
      exact ⟨r1, .more st h1, h2⟩
    | false =>
      have st := lawJams_L1n.p5 (r := r0) (N_lines := N) (d_lines := d) (lines := lines) (to := to) (s1c := s1) (xd := (i, x, c)) hlt h0 h60
      simp only [hw] at st
      obtain ⟨r1, h1, h2⟩ := ih (i + 1) x c (by omega) (by omega) hj
      exact ⟨r1, .more st h1, h2⟩
end Go.Proofs.YtmnhmplcpijanaaGreat
