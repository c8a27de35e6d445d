/-
  CoreReturns, of any registers, lines and time. No condition.
-/
import Derived.Test.YtmnhmplcpijanaaGreatDR
namespace Go.Proofs.YtmnhmplcpijanaaGreat
open Go VX
set_option linter.unusedVariables false
set_option linter.unusedSimpArgs false
set_option linter.unusedSectionVars false
set_option maxRecDepth 100000

theorem sim_was {u : Un} {b : Int} {s : ASt} {c : Core} {L : List RAcc} (S : Sim u b s c L) : ((s.ph != 2) = true ∧ c.was = rQ u b s.k) ∨ ((s.ph != 2) = false ∧ c.was = rH u) := by
  obtain ⟨_, _, _, _, _, L', xs, _, _, H⟩ := S
  rcases H with ⟨e, G⟩ | ⟨e, _, G⟩ | ⟨e, G⟩
  · exact .inl ⟨by rw [e]; rfl, G.was⟩
  · exact .inl ⟨by rw [e]; rfl, G.was⟩
  · exact .inr ⟨by rw [e]; rfl, G.was⟩

section
variable {r : Regs} {nmi : Bool} {hold : Int} {h : Nat} {u : Un} {b : Int} {masked : Bool} (wu : Un.ok u) (hr : right u.P = u.P) (h1 : 16384 ≤ b) (h2 : b ≤ 32764) (hm : bAnd .u8 u.P 4 = 0 ↔ masked = false)
include wu h1 h2
theorem ret1_go (hh : IntKind.i64.wrap (2 + IntKind.i64.wrap (Int.tmod hold 40)) = ((2 + h : Nat) : Int)) {s : ASt} {c c1 : Core} {L L1 : List RAcc} {a : Acc} (S : Sim u b s c L) {i seen : Nat} (hi : i < 60) (hL : L.length ≤ 100) (hs : seen ≤ 60)
    (hc : cycleF c [234] L (decide (i < 2 + h) && !nmi) (decide (i < 2 + h) && nmi) = (c1, L1, a)) :
    lawReturns_L1n r nmi hold (L, (i : Int), (seen : Int), false, c) (.inl (L1, ((i + 1 : Nat) : Int), ((bif aFresh s && s.ph == 2 then seen + 1 else seen : Nat) : Int), false, c1)) := by
  have hv := S.1
  have hf := S.2.1
  have d1 : (decide ((i : Int) < 60)) = true := decide_eq_true (by omega)
  have hon : (decide ((i : Int) < IntKind.i64.wrap (2 + IntKind.i64.wrap (Int.tmod hold 40)))) = decide (i < 2 + h) := by rw [hh]; exact decide_eq_decide.2 (by omega)
  have wl : L.length + 1 ≤ 1048576 := by omega
  have hw : IntKind.i64.wrap ((i : Int) + 1) = ((i + 1 : Nat) : Int) := by rw [i64_small (by omega) (by omega)]; omega
  have hw2 : IntKind.i64.wrap ((seen : Int) + 1) = ((seen + 1 : Nat) : Int) := by rw [i64_small (by omega) (by omega)]; omega
  have e1 : ∀ sn : Int, decide (i < 2 + h) = true → ((cycleF c ([234] : List Int) L (!nmi) nmi).2.1, (IntKind.i64.wrap ((i : Int) + 1)), sn, false, (cycleF c ([234] : List Int) L (!nmi) nmi).1) = (L1, ((i + 1 : Nat) : Int), sn, false, c1) := by
    intro sn ho
    rw [ho, Bool.true_and, Bool.true_and] at hc; rw [hc, hw]
  have e2 : ∀ sn : Int, decide (i < 2 + h) = false → ((cycleF c ([234] : List Int) L false false).2.1, (IntKind.i64.wrap ((i : Int) + 1)), sn, false, (cycleF c ([234] : List Int) L false false).1) = (L1, ((i + 1 : Nat) : Int), sn, false, c1) := by
    intro sn ho
    rw [ho, Bool.false_and, Bool.false_and] at hc; rw [hc, hw]
  cases hfr : c.fresh with
  | false =>
    rw [show aFresh s = false from by rw [← hf, hfr]]
    rw [show (bif false && s.ph == 2 then seen + 1 else seen) = seen from rfl]
    cases ho : decide (i < 2 + h) with
    | true => rw [← e1 _ ho]; exact .p6 d1 hfr (hon.trans ho) hv wl
    | false => rw [← e2 _ ho]; exact .p7 d1 hfr (hon.trans ho) hv wl
  | true =>
    rw [show aFresh s = true from by rw [← hf, hfr]]
    rcases sim_was S with ⟨hp, hx⟩ | ⟨hp, hx⟩
    · rw [show (s.ph == 2) = false from by simpa using hp]
      rw [show (bif true && false then seen + 1 else seen) = seen from rfl]
      have hk := S.2.2.1
      have d3 : (((c_Regs c).PC : Int) == 36864) = false := by show ((c.was.PC : Int) == 36864) = false; rw [hx]; simp only [rQ, beq_eq_false_iff_ne]; omega
      cases ho : decide (i < 2 + h) with
      | true => rw [← e1 _ ho]; exact .p4 d1 hfr d3 (hon.trans ho) hv wl
      | false => rw [← e2 _ ho]; exact .p5 d1 hfr d3 (hon.trans ho) hv wl
    · rw [show (s.ph == 2) = true from by simpa using hp]
      rw [show (bif true && true then seen + 1 else seen) = seen + 1 from rfl, ← hw2]
      have d3 : (((c_Regs c).PC : Int) == 36864) = true := by show ((c.was.PC : Int) == 36864) = true; rw [hx]; rfl
      have d4 : (((bAnd .u8 (((c_Regs c).U).P) 4) : Int) == 0) = false := by
        show (((bAnd .u8 c.was.U.P 4) : Int) == 0) = false
        rw [hx, beq_eq_false_iff_ne]
        show bAnd .u8 (uFlag { u with S := dn (dn (dn u.S)) } 4 true).P 4 ≠ 0
        rw [(flag_P { u with S := dn (dn (dn u.S)) } 4 true).1]
        exact (mask_of wu.P).1
      cases ho : decide (i < 2 + h) with
      | true => rw [← e1 _ ho]; exact .p2 d1 hfr d3 d4 (hon.trans ho) hv wl
      | false => rw [← e2 _ ho]; exact .p3 d1 hfr d3 d4 (hon.trans ho) hv wl
include hr hm
theorem ret1_loop (hh : IntKind.i64.wrap (2 + IntKind.i64.wrap (Int.tmod hold 40)) = ((2 + h : Nat) : Int)) : ∀ (n i seen : Nat) (s : ASt) (c : Core) (L : List RAcc), Sim u b s c L → chk1 masked nmi h n i seen s = true → i + n = 60 → L.length ≤ 5 + i → seen ≤ i →
    ∃ (s' : ASt) (c' : Core) (L' : List RAcc) (seen' : Nat), LoopR (lawReturns_L1n r nmi hold) (L, (i : Int), (seen : Int), false, c) (.inl (L', 60, (seen' : Int), false, c')) ∧ Sim u b s' c' L' ∧ endB masked nmi seen' = true ∧ chk2 masked 20 s' = true ∧ L'.length ≤ 65
  | 0, i, seen, s, c, L, S, hk, hi, hL, hs => by
    have : i = 60 := by omega
    subst this
    unfold chk1 at hk
    rw [Bool.and_eq_true] at hk
    exact ⟨s, c, L, seen, .last (.p8 (decide_eq_false (by show ¬ (((60 : Nat) : Int) < 60); omega))), S, hk.1, hk.2, hL⟩
  | n + 1, i, seen, s, c, L, S, hk, hi, hL, hs => by
    unfold chk1 at hk
    rw [Bool.and_eq_true, Bool.not_eq_true'] at hk
    obtain ⟨c1, L1, a, hc, S1, hl⟩ := sim_step wu hr h1 h2 hm S (decide (i < 2 + h) && !nmi) (decide (i < 2 + h) && nmi) hk.1
    have hsn : (bif aFresh s && s.ph == 2 then seen + 1 else seen) ≤ i + 1 := by cases (aFresh s && s.ph == 2) <;> simp only [cond_true, cond_false] <;> omega
    obtain ⟨s', c', L', seen', t, r1, r2, r3, r4⟩ := ret1_loop hh n (i + 1) _ _ c1 L1 S1 hk.2 (by omega) (by omega) hsn
    exact ⟨s', c', L', seen', .more (ret1_go wu h1 h2 hh S (by omega) (by omega) (by omega) hc) t, r1, r2, r3, r4⟩

theorem ret2_stay {r1 : (List RAcc) × Int × Int × Bool × Core} {c : Core} {L : List RAcc} (hf : c.fresh = true) (ha : c.was.PC < 32768) (hb : 16384 ≤ c.was.PC) : ∀ (n j : Nat), j + n = 20 → LoopR (lawReturns_L2ny r nmi hold r1) (L, (j : Int), c) (L, 20, c)
  | 0, j, hj => by
    have : j = 20 := by omega
    subst this
    exact .last (.p5 (decide_eq_false (by show ¬ (((20 : Nat) : Int) < 20); omega)))
  | n + 1, j, hj => by
    have hw : IntKind.i64.wrap ((j : Int) + 1) = ((j + 1 : Nat) : Int) := by rw [i64_small (by omega) (by omega)]; omega
    have := lawReturns_L2ny.p4 (r := r) (nmi := nmi) (hold := hold) (r1 := r1) (xd := (L, (j : Int), c)) (decide_eq_true (by show (j : Int) < 20; omega)) (by show (!c.fresh) = false; rw [hf]; rfl) (decide_eq_false (by show ¬ (c.was.PC ≥ 32768); omega)) (decide_eq_false (by show ¬ (c.was.PC < 16384); omega))
    simp only [hw] at this
    exact .more this (ret2_stay hf ha hb n (j + 1) (by omega))

theorem ret2_loop {r1 : (List RAcc) × Int × Int × Bool × Core} : ∀ (n j : Nat) (s : ASt) (c : Core) (L : List RAcc), Sim u b s c L → chk2 masked n s = true → j + n = 20 → L.length ≤ 65 + j →
    ∃ (c' : Core) (L' : List RAcc) (k : Nat), LoopR (lawReturns_L2ny r nmi hold r1) (L, (j : Int), c) (L', 20, c') ∧ c'.was = rQ u b k ∧ 1 ≤ k ∧ k ≤ 40
  | 0, j, s, c, L, S, hk, hj, hL => by
    have : j = 20 := by omega
    subst this
    unfold chk2 endA at hk
    rw [Bool.and_eq_true, Bool.and_eq_true, decide_eq_true_eq, decide_eq_true_eq] at hk
    rcases sim_was S with ⟨hp, hx⟩ | ⟨hp, hx⟩
    · exact ⟨c, L, s.k, .last (.p5 (decide_eq_false (by show ¬ (((20 : Nat) : Int) < 20); omega))), hx, hk.2.1, hk.2.2⟩
    · rw [hp] at hk; exact nomatch hk.1
  | n + 1, j, s, c, L, S, hk, hj, hL => by
    unfold chk2 at hk
    rw [Bool.and_eq_true, Bool.and_eq_true, Bool.not_eq_true'] at hk
    obtain ⟨hk1, hk2, hk3⟩ := hk
    have d1 : (decide ((j : Int) < 20)) = true := decide_eq_true (by omega)
    have hw : IntKind.i64.wrap ((j : Int) + 1) = ((j + 1 : Nat) : Int) := by rw [i64_small (by omega) (by omega)]; omega
    have wl : L.length + 1 ≤ 1048576 := by omega
    obtain ⟨c1, L1, a, hc, S1, hl⟩ := sim_step wu hr h1 h2 hm S false false hk2
    obtain ⟨c', L', k, t, r2, r3, r4⟩ := ret2_loop (r1 := r1) n (j + 1) _ c1 L1 S1 hk3 (by omega) (by omega)
    have e : ((cycleF c ([234] : List Int) L false false).2.1, (IntKind.i64.wrap ((j : Int) + 1)), (cycleF c ([234] : List Int) L false false).1) = (L1, ((j + 1 : Nat) : Int), c1) := by rw [hc, hw]
    cases hfr : c.fresh with
    | false =>
      refine ⟨c', L', k, .more ?_ t, r2, r3, r4⟩
      rw [← e]; exact .p1 d1 (by show (!c.fresh) = true; rw [hfr]; rfl) S.1 wl
    | true =>
      have hd2 : (!(c_Ready c)) = false := by show (!c.fresh) = false; rw [hfr]; rfl
      by_cases hge : 32768 ≤ c.was.PC
      · refine ⟨c', L', k, .more ?_ t, r2, r3, r4⟩
        rw [← e]; exact .p2 d1 hd2 (decide_eq_true (by show c.was.PC ≥ 32768; omega)) S.1 wl
      · rcases sim_was S with ⟨hp, hx⟩ | ⟨hp, hx⟩
        · have hfs : aFresh s = true := by rw [← S.2.1, hfr]
          rw [hfs, hp] at hk1
          have hk1 : endA s = true := by simpa using hk1
          unfold endA at hk1
          rw [Bool.and_eq_true, Bool.and_eq_true, decide_eq_true_eq, decide_eq_true_eq] at hk1
          exact ⟨c, L, s.k, ret2_stay wu hr h1 h2 hm hfr (by omega) (by rw [hx]; show 16384 ≤ b + (s.k : Int); omega) (n + 1) j hj, hx, hk1.2.1, hk1.2.2⟩
        · exact absurd (by rw [hx]; show (32768 : Int) ≤ 36864; decide) hge
end

theorem base_of {x : Int} (h : rng 65536 x) : 16384 ≤ bOr .u16 16384 (bAnd .u16 x 16380) ∧ bOr .u16 16384 (bAnd .u16 x 16380) ≤ 32764 := by
  obtain ⟨h1, h2⟩ := h
  have e := bAnd_field (k := .u16) rfl 2 12 (a := x) (m := 16380) (by rfl) h1 (by show x < 65536; omega) (by decide)
  rw [e]
  have e2 : (((2 : Nat) ^ 2 : Nat) : Int) = 4 := rfl
  have e3 : (((2 : Nat) ^ 12 : Nat) : Int) = 4096 := rfl
  rw [e2, e3, bOr_low rfl 14 (by decide) (by decide) (by omega) (by show x / 4 % 4096 * 4 < 16384; omega) (by decide) (by decide)]
  omega

theorem returns_true (r : Regs) (nmi : Bool) (hold : Int) (w : Regs.ok r) (wh : rng 256 hold) : FnSpec Tryz.prog 4 1000 [Regs.enc r, .bool nmi, .int .u8 hold] [] (.bool true) [] := by
  have hz : (!awakeF) = false := by rw [awake_tt]; rfl
  obtain ⟨h1, h2⟩ := base_of w.PC
  have key := lawReturns_p1 r nmi hold hz
  generalize hb : bOr .u16 16384 (bAnd .u16 r.PC 16380) = b at h1 h2 key
  have w0 : Regs.ok { r with PC := b } := ⟨w.U, show rng 65536 b from ⟨by omega, by omega⟩⟩
  have hs := start_from w0
  have hu : ∃ u : Un, u = { r.U with P := right r.U.P } := ⟨_, rfl⟩
  obtain ⟨u, hu⟩ := hu
  have hq : ({ ({ r with PC := b } : Regs) with U := { r.U with P := right r.U.P } } : Regs) = rQ u b 0 := by rw [hu]; unfold rQ; rw [Int.ofNat_zero, Int.add_zero]
  have hs : Start false (rQ u b 0) (coreFrom { r with PC := b }) := hq ▸ hs
  obtain ⟨-, k2, k3, k4⟩ := mask_of w.U.P
  have hr : right u.P = u.P := by rw [hu]; exact k2
  have wu : Un.ok u := by have := hs.inv.ok.r.U; rw [hs.r] at this; exact this
  have hmq : ∃ masked : Bool, masked = (((bAnd .u8 r.U.P 4) : Int) != 0) := ⟨_, rfl⟩
  obtain ⟨masked, hmq⟩ := hmq
  have hm : bAnd .u8 u.P 4 = 0 ↔ masked = false := by
    rw [show bAnd .u8 u.P 4 = bAnd .u8 r.U.P 4 from by rw [hu]; exact k3, hmq]; simp
  have hh : IntKind.i64.wrap (2 + IntKind.i64.wrap (Int.tmod hold 40)) = ((2 + (hold % 40).toNat : Nat) : Int) := by
    rw [Int.tmod_eq_emod_of_nonneg wh.1, i64_small (x := hold % 40) (by omega) (by omega), i64_small (by omega) (by omega)]; omega
  have hlt : (hold % 40).toNat < 40 := by omega
  have S0 : Sim u b ⟨0, 2, 0, false, false, false⟩ (coreFrom { r with PC := b }) retL :=
    sim_fetch wu hr h1 h2 hs.l hs.r hs.j hs.inv ⟨[], (List.append_nil _).symm, fun x hx => by simp at hx⟩ (by decide) hs.w hs.n hs.was hs.f
  obtain ⟨s', c', L', seen, t1, S1, hB, hk2, hL⟩ := ret1_loop (r := r) (nmi := nmi) (hold := hold) wu hr h1 h2 hm hh 60 0 0 _ _ _ S0 (chk_of masked nmi hlt) rfl (by decide) (Nat.le_refl _)
  obtain ⟨c2, L2, k, t2, hx, q1, q2⟩ := ret2_loop (r := r) (nmi := nmi) (hold := hold) (r1 := (L', 60, (seen : Int), false, c')) wu hr h1 h2 hm 20 0 s' c' L' S1 hk2 rfl hL
  refine of_eq (key (L', 60, (seen : Int), false, c') t1 (L2, 20, c2) t2 ?_) ?_
  · unfold lawReturns_J3ny endB at *
    simp only [← hmq]
    cases nmi with
    | true =>
      have : seen = 1 := by simpa using hB
      subst this; rfl
    | false =>
      cases masked with
      | true =>
        have : seen = 0 := by simpa using hB
        subst this; rfl
      | false =>
        have : seen ≠ 0 := by simpa using hB
        simp; omega
  · have eo : c_Regs c2 = rQ u b k := hx
    unfold lawReturns_J4nyn
    simp only [eo, hb]
    have ep : (own (rQ u b k)).PC = b + (k : Int) := by show IntKind.i64.wrap (b + (k : Int)) = _; exact i64_small (by omega) (by omega)
    have ep2 : (own ({ r with PC := b } : Regs)).PC = b := by show IntKind.i64.wrap b = _; exact i64_small (by omega) (by omega)
    have eu : (own (rQ u b k)).U = (own ({ r with PC := b } : Regs)).U := by
      show (⟨_, _, _, _, _⟩ : RUn) = ⟨_, _, _, _, _⟩
      rw [hu]
      show (⟨_, _, _, _, rFlags (IntKind.i64.wrap (right r.U.P))⟩ : RUn) = _
      rw [k4]; rfl
    rw [eu, ep, ep2, i64_small (x := b + 40) (by omega) (by omega)]
    rw [if_pos (by simp), if_pos (decide_eq_true (by omega)), decide_eq_true (by omega)]
end Go.Proofs.YtmnhmplcpijanaaGreat
