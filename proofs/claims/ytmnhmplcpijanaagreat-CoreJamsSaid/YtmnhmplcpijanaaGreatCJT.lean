/-
  CoreJams: what the Go function computes is true, of any lines. No condition but that a slice's length is an int.
-/
import Derived.Test.YtmnhmplcpijanaaGreatCJQ
namespace Go.Proofs.YtmnhmplcpijanaaGreat
open Go VX
set_option linter.unusedVariables false
set_option maxRecDepth 100000

theorem reset_was (c : Core) : (c_Reset c).was = { c.was with U := { c.was.U with P := right c.was.U.P } } := rfl
theorem from_was (r : Regs) : (coreFrom r).was = { r with U := { r.U with P := right r.U.P } } := rfl

theorem jams_true (r : Regs) (N d : Nat) (lines : Nat → Int) (to : Int) (w_r : Regs.ok r) (wl : ∀ j, rng 256 (lines j)) (w_to : rng 65536 to) (hN : (N : Int) ≤ 9223372036854775807) :
    FnSpec Tryz.prog 7 1001 [Regs.enc r, .slice (some ⟨1000, 0, (some d)⟩) N 0, .int .u16 to] [(1000, ⟨[.gap d, .ints .u8 N lines], 5, true⟩)] (.bool true) [] := by
  obtain ⟨s1, e1⟩ : ∃ s, s = clockF (coreFrom r) 2 false false := ⟨_, rfl⟩
  obtain ⟨r1, hl, hj⟩ := jam_loop (r0 := r) (N := N) (d := d) (lines := lines) (to := to) (s1 := s1) hN wl N 0 false s1 (by omega) (by omega) (by rw [e1]; exact jam_start w_r)
  obtain ⟨i1, b1, c⟩ := r1
  have hj : JamSt r c := hj
  have hw : c.was = { r with U := { r.U with P := right r.U.P } } := by rw [hj.was, from_was]
  have hf := flagsB_at w_r.U.P
  have hR : own (c_Regs (c_Reset c)) = own r := by
    unfold c_Regs own
    rw [reset_was, hw]
    simp only [hf.1]
  have c3 : lawJams_J2ny r to (i1, b1, c) = false := by
    unfold lawJams_J2ny
    rw [if_neg (by simp only; exact (show ¬ c_Jammed (c_Reset c) = true from fun h => nomatch h)), if_neg (by simp only; exact (show ¬ (!(c_Ready (c_Reset c))) = true from fun h => nomatch h))]
    simp only [hR, beq_self_eq_true, Bool.and_self, Bool.not_true]
  have iv := inv_reset hj.ok
  have rJ4 : rng 256 (lawJams_J4nyn to (i1, b1, c) ((lawJams_J3nyn to (i1, b1, c) (((c_Wants (c_Reset c)).At : Int) == 65532)), (((c_Wants (c_Reset c)).At : Int) == 65532), (((c_Wants (c_Reset c)).At : Int) == 65533))) := by
    unfold lawJams_J4nyn lawJams_J3nyn; repeat' split
    all_goals first | exact rng_wrap_u8 _ | exact (by decide : rng 256 0)
  obtain ⟨s6, e6⟩ : ∃ s, s = clockF (c_Reset c) (lawJams_J4nyn to (i1, b1, c) ((lawJams_J3nyn to (i1, b1, c) (((c_Wants (c_Reset c)).At : Int) == 65532)), (((c_Wants (c_Reset c)).At : Int) == 65532), (((c_Wants (c_Reset c)).At : Int) == 65533))) false false := ⟨_, rfl⟩
  have i6 : Inv s6 := by rw [e6]; exact inv_clock iv rJ4 false false
  have rJ6 : rng 256 (lawJams_J6nyn to (i1, b1, c) s6) := by
    unfold lawJams_J6nyn lawJams_J5nyn; repeat' split
    all_goals first | exact rng_wrap_u8 _ | exact (by decide : rng 256 0)
  obtain ⟨s10, e10⟩ : ∃ s, s = clockF s6 (lawJams_J6nyn to (i1, b1, c) s6) false false := ⟨_, rfl⟩
  have i10 : Inv s10 := by rw [e10]; exact inv_clock i6 rJ6 false false
  have rJ8 : rng 256 (lawJams_J8nyn to (i1, b1, c) s6 s10) := by
    unfold lawJams_J8nyn lawJams_J7nyn; repeat' split
    all_goals first | exact rng_wrap_u8 _ | exact (by decide : rng 256 0)
  obtain ⟨s11, e11⟩ : ∃ s, s = clockF s10 (lawJams_J8nyn to (i1, b1, c) s6 s10) false false := ⟨_, rfl⟩
  have i11 : Inv s11 := by rw [e11]; exact inv_clock i10 rJ8 false false
  have rJ10 : rng 256 (lawJams_J10nyn to (i1, b1, c) s6 s10 s11) := by
    unfold lawJams_J10nyn lawJams_J9nyn; repeat' split
    all_goals first | exact rng_wrap_u8 _ | exact (by decide : rng 256 0)
  obtain ⟨s12, e12⟩ : ∃ s, s = clockF s11 (lawJams_J10nyn to (i1, b1, c) s6 s10 s11) false false := ⟨_, rfl⟩
  have i12 : Inv s12 := by rw [e12]; exact inv_clock i11 rJ10 false false
  obtain ⟨x12, ex12⟩ : ∃ x, x = lawJams_J12nyn to (i1, b1, c) s6 s10 s11 s12 (lawJams_J11nyn to (i1, b1, c) s6 s10 s11 s12) := ⟨_, rfl⟩
  have rJ12 : rng 256 x12 := by
    rw [ex12]; unfold lawJams_J12nyn lawJams_J11nyn; repeat' split
    all_goals first | exact rng_wrap_u8 _ | exact (by decide : rng 256 0)
  obtain ⟨s13, e13⟩ : ∃ s, s = clockF s12 x12 false false := ⟨_, rfl⟩
  have i13 : Inv s13 := by rw [e13]; exact inv_clock i12 rJ12 false false
  have a13 : (c_Wants s13).At = 65532 := by rw [e13, e12, e11, e10, e6]; exact r5_at c _ _ _ _ _
  have v14 : lawJams_J14nyn to (i1, b1, c) s13 ((lawJams_J13nyn to (i1, b1, c) s12 s13 x12), x12) = IntKind.u8.wrap to := by
    unfold lawJams_J14nyn lawJams_J13nyn
    rw [a13, if_neg (by decide), if_pos (by decide)]
  obtain ⟨s15, e15⟩ : ∃ s, s = clockF s13 (lawJams_J14nyn to (i1, b1, c) s13 ((lawJams_J13nyn to (i1, b1, c) s12 s13 x12), x12)) false false := ⟨_, rfl⟩
  have rJ14 : rng 256 (lawJams_J14nyn to (i1, b1, c) s13 ((lawJams_J13nyn to (i1, b1, c) s12 s13 x12), x12)) := by rw [v14]; exact rng_wrap_u8 _
  have i15 : Inv s15 := by rw [e15]; exact inv_clock i13 rJ14 false false
  have a15 : (c_Wants s15).At = 65533 := by rw [e15, e13, e12, e11, e10, e6]; exact r6_at c _ _ _ _ _ _
  have v16 : lawJams_J16nyn to (i1, b1, c) s6 s10 s11 s12 s13 s15 (lawJams_J15nyn to (i1, b1, c) s6 s10 s11 s12 s13 s15) = IntKind.u8.wrap (bShr .u16 to 8) := by
    unfold lawJams_J16nyn
    rw [a15, if_pos (by decide)]
  obtain ⟨s19, e19⟩ : ∃ s, s = clockF s15 (lawJams_J16nyn to (i1, b1, c) s6 s10 s11 s12 s13 s15 (lawJams_J15nyn to (i1, b1, c) s6 s10 s11 s12 s13 s15)) false false := ⟨_, rfl⟩
  have w19 : s19.was = ⟨⟨r.U.A, r.U.X, r.U.Y, IntKind.u8.wrap (IntKind.u8.wrap (IntKind.u8.wrap (r.U.S - 1) - 1) - 1), bOr .u8 (bAndNot .u8 (right (right r.U.P)) 4) 4⟩, to⟩ := by
    rw [e19, v16, e15, v14, e13, e12, e11, e10, e6]
    refine (r7_was c _ _ _ _ _ _ _).trans ?_
    rw [join_at w_to, hw]
  have f19 : s19.fresh = true := by rw [e19, e15, e13, e12, e11, e10, e6]; exact r7_fresh c _ _ _ _ _ _ _
  have a10 : (c_Wants s10).At = bOr .u16 256 (IntKind.u16.wrap r.U.S) := by
    rw [e10, e6]
    refine (r2_at c _ _).trans ?_
    rw [hw]
  have fin_ : lawJams_J17nyn r to (i1, b1, c) s6 s10 s11 s12 s13 s15 s19 = true := by
    unfold lawJams_J17nyn
    rw [if_pos (show c_Ready s19 = true from f19)]
    rw [if_pos ?_, a13, a15, a10]
    · simp
    · have hS := (flagsB_at w_r.U.S).2.2; have hP := hf.2.1
      unfold c_Regs
      rw [w19]
      unfold own
      simp only [rSet_4] at hP ⊢
      simp only [hP, beq_self_eq_true, Bool.and_self, Bool.true_and, Bool.and_true]
      exact beq_iff_eq.2 hS
  have h := lawJams_p1 r N d lines to w_r wl (by rw [awake_true]; rfl) s1 e1 (i1, b1, c) hl c3 iv.ne iv.hw rJ4 iv s6 e6 i6.ne i6.hw i6 s10 e10 s11 e11 s12 e12 s13 (by rw [e13, ex12]) (by rw [ex12] at rJ14; exact rJ14) s15 (by rw [e15, ex12]) i15.ne i15.hw i15 s19 e19
  rw [fin_] at h
  exact h
end Go.Proofs.YtmnhmplcpijanaaGreat
