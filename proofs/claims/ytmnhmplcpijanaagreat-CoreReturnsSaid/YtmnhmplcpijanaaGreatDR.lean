/-
  CoreReturns: an interrupt whose program is RTI alone leaves all registers as they were. No condition.
-/
import Derived.Test.YtmnhmplcpijanaaGreatDQ
import Derived.Test.YtmnhmplcpijanaaGreatDO
namespace Go.Proofs.YtmnhmplcpijanaaGreat
open Go VX
set_option linter.unusedVariables false
set_option linter.unusedSimpArgs false
set_option linter.unusedSectionVars false
set_option maxRecDepth 100000

def maskB (P : Nat) : Bool := (bAnd .u8 (uFlag ⟨0, 0, 0, 0, (P : Int)⟩ 4 true).P 4 != 0) && (right (right (P : Int)) == right (P : Int) && (bAnd .u8 (right (P : Int)) 4 == bAnd .u8 (P : Int) 4 && rFlags (IntKind.i64.wrap (right (P : Int))) == rFlags (IntKind.i64.wrap (P : Int))))
theorem mask_all : allN maskB 8 0 = true := by kernel_rfl
theorem mask_of {P : Int} (w : rng 256 P) : bAnd .u8 (uFlag ⟨0, 0, 0, 0, P⟩ 4 true).P 4 ≠ 0 ∧ right (right P) = right P ∧ bAnd .u8 (right P) 4 = bAnd .u8 P 4 ∧ rFlags (IntKind.i64.wrap (right P)) = rFlags (IntKind.i64.wrap P) := by
  have h := allN_int mask_all P w.1 (by have := w.2; simpa using this)
  unfold maskB at h
  rw [Int.toNat_of_nonneg w.1] at h
  simpa only [Bool.and_eq_true, bne_iff_ne, beq_iff_eq] using h

/-- The state that the numbers tell. -/
def Sim (u : Un) (b : Int) (s : ASt) (c : Core) (L : List RAcc) : Prop :=
  Inv c ∧ c.fresh = aFresh s ∧ s.k < 100 ∧ s.m ≤ full s.ph ∧ s.ph ≤ 2 ∧ ∃ (L' : List RAcc) (xs : List Acc), RMem L' ∧ xs.length = s.m ∧
    ((s.ph = 0 ∧ Going [234] (rQ u b (s.k + 1)) L' xs s.w s.n (rQ u b s.k) c L) ∨
     (s.ph = 1 ∧ Stk u (b + (s.k : Int)) L' ∧ Going [234] (rH u) L' xs s.w s.n (rQ u b s.k) c L) ∨
     (s.ph = 2 ∧ Going [234] (rQ u b s.k) L' xs s.w s.n (rH u) c L))

section
variable {u : Un} {b : Int} {masked : Bool} (wu : Un.ok u) (hr : right u.P = u.P) (h1 : 16384 ≤ b) (h2 : b ≤ 32764) (hm : bAnd .u8 u.P 4 = 0 ↔ masked = false)
include wu hr h1 h2
theorem sim_fetch {c : Core} {k : Nat} {L : List RAcc} {n : Bool} {bd : Bool} (hl : c.l = [(38, 39)]) (hq : c.r = rQ u b k) (hj : c.jam = false) (hv : Inv c) (hM : RMem L) (hk : k < 100) (hw : c.waits = false) (hn : c.line = n) (hx : c.was = rQ u b k) (hf : c.fresh = true) :
    Sim u b ⟨0, 2, k, false, n, bd⟩ c L := by
  have G := going_fetch hl hq hj hv [234] L (by rw [nop_code hM h1 h2 (by omega), show (codeF 234).Op = 0 from by kernel_rfl]; decide)
  rw [run_nop hM h1 h2 (by omega), hw, hn, hx] at G
  exact ⟨hv, hf, hk, Nat.le_refl _, (show (0 : Nat) ≤ 2 by decide), L, _, hM, rfl, .inl ⟨rfl, G⟩⟩
theorem sim_int {c : Core} {k : Nat} {L : List RAcc} {n : Bool} {bd : Bool} {v : Int} (hvv : v = 65530 ∨ v = 65534) (hl : c.l = [(38, 43), (38, 43), (77, 45), (78, 45), (79, 45), (46, 47), (46, 48)]) (hvec : c.vector = v) (hq : c.r = rQ u b k) (hj : c.jam = false) (hv : Inv c) (hM : RMem L) (hk : k < 100) (hw : c.waits = false) (hn : c.line = n) (hx : c.was = rQ u b k) (hf : c.fresh = true) :
    Sim u b ⟨1, 7, k, false, n, bd⟩ c L := by
  have G := going_int hl hq hj hvec (by rcases hvv with rfl | rfl <;> decide) hv [234] L
  rw [run_int hM wu h1 h2 (by omega) hvv, hw, hn, hx] at G
  exact ⟨hv, hf, hk, Nat.le_refl _, (show (1 : Nat) ≤ 2 by decide), _, _, hM.push wu _, rfl, .inr (.inl ⟨rfl, stk_push wu _, G⟩)⟩
include hm
theorem sim_next {d : Core} {k : Nat} {L : List RAcc} {w n irq : Bool} {x : Regs} (hF : Fin false d (rQ u b k)) (hM : RMem L) (hv : Inv (fin (d.io w n false x) irq)) (hk : k < 100) : Sim u b (aNext masked k w irq n) (fin (d.io w n false x) irq) L := by
  rcases fin_next (w := w) (n := n) (irq := irq) (x := x) hF with ⟨rfl, e⟩ | ⟨rfl, rfl, hz, e⟩ | ⟨rfl, hn, e⟩
  · rw [e] at hv ⊢
    exact sim_int wu hr h1 h2 (.inl rfl) rfl rfl hF.2.1 hF.2.2 hv hM hk rfl rfl hF.2.1 rfl
  · rw [e] at hv ⊢
    have hmf := hm.1 hz
    subst hmf
    exact sim_int wu hr h1 h2 (.inr rfl) rfl rfl hF.2.1 hF.2.2 hv hM hk rfl rfl hF.2.1 rfl
  · rw [e] at hv ⊢
    have h0 : (irq && !masked) = false := by
      cases irq with
      | false => rfl
      | true =>
        cases hq : masked with
        | true => rfl
        | false => exact absurd ⟨rfl, hm.2 hq⟩ hn
    unfold aNext
    rw [h0]
    exact sim_fetch wu hr h1 h2 rfl hF.2.1 hF.2.2 hv hM hk rfl rfl hF.2.1 rfl
omit hm
theorem sim_enter {d : Core} {k : Nat} {L : List RAcc} {n irq : Bool} {x : Regs} {bd : Bool} (hF : Fin false d (rH u)) (hM : RMem L) (hS : Stk u (b + (k : Int)) L) (hv : Inv (fin (d.io false n false x) irq)) (hk : k < 100) : Sim u b ⟨2, 6, k, false, n, bd⟩ (fin (d.io false n false x) irq) L := by
  rcases fin_next (w := false) (n := n) (irq := irq) (x := x) hF with ⟨h, e⟩ | ⟨_, _, hz, e⟩ | ⟨_, hn, e⟩
  · exact nomatch h
  · have hp := (flag_P { u with S := dn (dn (dn u.S)) } 4 true).1
    exact absurd hz (by show bAnd .u8 (uFlag { u with S := dn (dn (dn u.S)) } 4 true).P 4 ≠ 0; rw [hp]; exact (mask_of wu.P).1)
  · rw [e] at hv ⊢
    have G := going_fetch (c := c_begin (d.io false n false x) [(38, 39)]) (q := rH u) rfl hF.2.1 hF.2.2 hv [234] L (by rw [rti_code hM]; exact jam_ne (by decide) code_64 (by decide))
    obtain ⟨xs, h3, h4⟩ := run_rti hM wu hr h1 h2 (by omega) hS
    rw [h3] at G
    have G : Going [234] (rQ u b k) L xs false n d.r (c_begin (d.io false n false x) [(38, 39)]) L := G
    rw [hF.2.1] at G
    exact ⟨hv, rfl, hk, Nat.le_refl _, (show (2 : Nat) ≤ 2 by decide), L, xs, hM, h4, .inr (.inr ⟨rfl, G⟩)⟩
include hm
theorem sim_step {s : ASt} {c : Core} {L : List RAcc} (S : Sim u b s c L) (irq nmi : Bool) (hb : (aStep masked s irq nmi).bad = false) : ∃ c1 L1 a, cycleF c [234] L irq nmi = (c1, L1, a) ∧ Sim u b (aStep masked s irq nmi) c1 L1 ∧ L1.length ≤ L.length + 1 := by
  obtain ⟨ph, m, k, w, n, bd⟩ := s
  obtain ⟨hv, hf, hk, hmf, hph, L', xs, hM, hx, H⟩ := S
  simp only at hk hmf hph hx H
  have hv1 := inv_cycle hv [234] L irq nmi
  have hl1 := len_cycle c [234] L irq nmi
  have more : ∀ {ys : List Acc} {a : Acc}, xs = a :: ys → ys ≠ [] → 2 ≤ m ∧ ys.length = m - 1 ∧ aStep masked ⟨ph, m, k, w, n, bd⟩ irq nmi = ⟨ph, m - 1, k, w || (nmi && !n), nmi, false⟩ ∧ aFresh ⟨ph, m - 1, k, w || (nmi && !n), nmi, false⟩ = false := by
    intro ys a h0 hy
    have : ys.length ≠ 0 := fun h => hy (List.length_eq_zero_iff.1 h)
    have hx2 : m = ys.length + 1 := by rw [← hx, h0]; rfl
    have h2m : 2 ≤ m := by omega
    refine ⟨h2m, by omega, by unfold aStep; rw [if_pos h2m], ?_⟩
    unfold aFresh; simp only [beq_eq_false_iff_ne]; omega
  have last : ∀ {ys : List Acc} {a : Acc}, xs = a :: ys → ys = [] → ¬ 2 ≤ m := by
    intro ys a h0 hy; subst hy; rw [← hx, h0]; simp
  rcases H with ⟨e0, G⟩ | ⟨e0, hS, G⟩ | ⟨e0, G⟩
  all_goals
    subst e0
    obtain ⟨c1, L1, a, ys, hc, hxs, hcase⟩ := G.step irq nmi
    rw [hc] at hv1 hl1
    refine ⟨c1, L1, a, hc, ?_, hl1⟩
    rcases hcase with ⟨hy, rfl, d, hF, rfl⟩ | ⟨hy, hf1, G1⟩
  · have hn2 := last hxs hy
    unfold aStep at hb ⊢
    rw [if_neg hn2] at hb ⊢
    have hk1 : k + 1 < 100 := by
      have : decide (100 ≤ k + 1) = false := by
        unfold aNext at hb; revert hb
        cases ((w || (nmi && !n)) || (irq && !masked)) <;> exact fun h => h
      have := of_decide_eq_false this; omega
    exact sim_next wu hr h1 h2 hm hF hM hv1 hk1
  · obtain ⟨m1, m2, m3, m4⟩ := more hxs hy
    rw [m3]
    exact ⟨hv1, by rw [hf1, m4], hk, by show m - 1 ≤ full 0; omega, (show (0 : Nat) ≤ 2 by decide), L', ys, hM, m2, .inl ⟨rfl, G1⟩⟩
  · have hn2 := last hxs hy
    unfold aStep at hb ⊢
    rw [if_neg hn2] at hb ⊢
    have hw : (w || (nmi && !n)) = false := hb
    rw [hw] at hv1 ⊢
    exact sim_enter wu hr h1 h2 hF hM hS hv1 hk
  · obtain ⟨m1, m2, m3, m4⟩ := more hxs hy
    rw [m3]
    exact ⟨hv1, by rw [hf1, m4], hk, by show m - 1 ≤ full 1; omega, (show (1 : Nat) ≤ 2 by decide), L', ys, hM, m2, .inr (.inl ⟨rfl, hS, G1⟩)⟩
  · have hn2 := last hxs hy
    unfold aStep at hb ⊢
    rw [if_neg hn2] at hb ⊢
    exact sim_next wu hr h1 h2 hm hF hM hv1 hk
  · obtain ⟨m1, m2, m3, m4⟩ := more hxs hy
    rw [m3]
    exact ⟨hv1, by rw [hf1, m4], hk, by show m - 1 ≤ full 2; omega, (show (2 : Nat) ≤ 2 by decide), L', ys, hM, m2, .inr (.inr ⟨rfl, G1⟩)⟩
end
end Go.Proofs.YtmnhmplcpijanaaGreat
