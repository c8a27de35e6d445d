/-
  Each instruction of a core is its tree; a core that goes with a memory. No condition.
-/
import Derived.Test.YtmnhmplcpijanaaGreatCW
namespace Go.Proofs.YtmnhmplcpijanaaGreat
open Go VX
set_option linter.unusedVariables false
set_option linter.unusedSimpArgs false
set_option maxRecDepth 100000

theorem fetch_rel (x : Core) (hx : Core.ok x) (b : Int) (w : rng 256 b) (hj : (codeF b).Op ≠ 69) : Rel (Fin x.jam) (unroll 9 (fetchF x b)) ((bodyT.getD (clsOf (codeF b)) fun _ r => .ret r) (codeF b) (x.r.go (nx x.r.PC))) := by
  have h := cls_of w
  have hlt := cls_lt h
  unfold fetchF
  rcases (show clsOf (codeF b) = 0 ∨ clsOf (codeF b) = 1 ∨ clsOf (codeF b) = 2 ∨ clsOf (codeF b) = 3 ∨ clsOf (codeF b) = 4 ∨ clsOf (codeF b) = 5 ∨ clsOf (codeF b) = 6 ∨ clsOf (codeF b) = 7 ∨ clsOf (codeF b) = 8 ∨ clsOf (codeF b) = 9 ∨ clsOf (codeF b) = 10 ∨ clsOf (codeF b) = 11 ∨ clsOf (codeF b) = 12 ∨ clsOf (codeF b) = 13 ∨ clsOf (codeF b) = 14 ∨ clsOf (codeF b) = 15 ∨ clsOf (codeF b) = 16 ∨ clsOf (codeF b) = 17 ∨ clsOf (codeF b) = 18 ∨ clsOf (codeF b) = 19 ∨ clsOf (codeF b) = 20 ∨ clsOf (codeF b) = 21 ∨ clsOf (codeF b) = 22 ∨ clsOf (codeF b) = 23 ∨ clsOf (codeF b) = 24 ∨ clsOf (codeF b) = 25 ∨ clsOf (codeF b) = 26 ∨ clsOf (codeF b) = 27 ∨ clsOf (codeF b) = 28 ∨ clsOf (codeF b) = 29 ∨ clsOf (codeF b) = 30 ∨ clsOf (codeF b) = 31 ∨ clsOf (codeF b) = 32 ∨ clsOf (codeF b) = 33 ∨ clsOf (codeF b) = 34 ∨ clsOf (codeF b) = 35 ∨ clsOf (codeF b) = 36 ∨ clsOf (codeF b) = 37 ∨ clsOf (codeF b) = 38 ∨ clsOf (codeF b) = 39 by omega) with e | e | e | e | e | e | e | e | e | e | e | e | e | e | e | e | e | e | e | e | e | e | e | e | e | e | e | e | e | e | e | e | e | e | e | e | e | e | e | e
  all_goals rw [e] at h ⊢
  all_goals simp only [cls, clsT, Bool.and_eq_true, Bool.or_eq_true, beq_iff_eq, List.getElem?_cons_succ, List.getElem?_cons_zero] at h
  · exact head2 (x := c_fetch_r2 x b) rfl (fun a r y n h => tail_r h n) 1 true
  · exact head2 (x := c_fetch_c2 x b) rfl (fun a r y n h => tail_c h n) 1 false
  · exact head2 (x := c_fetch_s2 x b) rfl (fun a r y n h => tail_s h n) 1 false
  · exact head3 (x := c_fetch_r3 x b) rfl (fun a r y n h => tail_r h n) 1 true
  · exact head3 (x := c_fetch_c3 x b) rfl (fun a r y n h => tail_c h n) 1 false
  · exact head3 (x := c_fetch_s3 x b) rfl (fun a r y n h => tail_s h n) 1 false
  · exact head4 (x := c_fetch_r4 x b) rfl (fun a r y n h => tail_r h n) 1 true
  · exact head4 (x := c_fetch_c4 x b) rfl (fun a r y n h => tail_c h n) 1 false
  · exact head4 (x := c_fetch_s4 x b) rfl (fun a r y n h => tail_s h n) 1 false
  · exact head5 (x := c_fetch_r5 x b) rfl (fun a r y n h => tail_r h n) 1 true
  · exact head5 (x := c_fetch_c5 x b) rfl (fun a r y n h => tail_c h n) 1 false
  · exact head5 (x := c_fetch_s5 x b) rfl (fun a r y n h => tail_s h n) 1 false
  · exact head6 (x := c_fetch_r6 x b) (reads := true) rfl (show (aKind (codeF b).Op == 1) = true by rw [h.1.2]; rfl) hx.r.U.X (fun a r y n h => tail_r h n) 1
  · exact head6 (x := c_fetch_c6 x b) (reads := false) rfl (show (aKind (codeF b).Op == 1) = false by rw [h.1.2]; rfl) hx.r.U.X (fun a r y n h => tail_c h n) 1
  · exact head6 (x := c_fetch_s6 x b) (reads := false) rfl (show (aKind (codeF b).Op == 1) = false by rw [h.1.2]; rfl) hx.r.U.X (fun a r y n h => tail_s h n) 1
  · exact head7 (x := c_fetch_r7 x b) (reads := true) rfl (show (aKind (codeF b).Op == 1) = true by rw [h.1.2]; rfl) hx.r.U.Y (fun a r y n h => tail_r h n) 1
  · exact head7 (x := c_fetch_c7 x b) (reads := false) rfl (show (aKind (codeF b).Op == 1) = false by rw [h.1.2]; rfl) hx.r.U.Y (fun a r y n h => tail_c h n) 1
  · exact head7 (x := c_fetch_s7 x b) (reads := false) rfl (show (aKind (codeF b).Op == 1) = false by rw [h.1.2]; rfl) hx.r.U.Y (fun a r y n h => tail_s h n) 1
  · exact head8 (x := c_fetch_r8 x b) rfl (fun a r y n h => tail_r h n) 1 true
  · exact head8 (x := c_fetch_c8 x b) rfl (fun a r y n h => tail_c h n) 1 false
  · exact head8 (x := c_fetch_s8 x b) rfl (fun a r y n h => tail_s h n) 1 false
  · exact head9 (x := c_fetch_r9 x b) (reads := true) rfl (show (aKind (codeF b).Op == 1) = true by rw [h.1.2]; rfl) hx.r.U.Y (fun a r y n h => tail_r h n) 1
  · exact head9 (x := c_fetch_c9 x b) (reads := false) rfl (show (aKind (codeF b).Op == 1) = false by rw [h.1.2]; rfl) hx.r.U.Y (fun a r y n h => tail_c h n) 1
  · exact head9 (x := c_fetch_s9 x b) (reads := false) rfl (show (aKind (codeF b).Op == 1) = false by rw [h.1.2]; rfl) hx.r.U.Y (fun a r y n h => tail_s h n) 1
  · exact rel_imp (x := c_fetch_imp1 x b) rfl 1
  · exact rel_imp (x := c_fetch_imp2 x b) rfl 1
  · exact rel_imp (x := c_fetch_imp4 x b) rfl 1
  · exact rel_imm (x := c_fetch_imm x b) rfl 1
  · exact rel_br (x := c_fetch_br x b) rfl 1
  · exact rel_jmp (x := c_fetch_60 x b) rfl 1 (codeF b)
  · exact rel_jmpi (x := c_fetch_60i x b) rfl 1 (codeF b)
  · exact rel_jsr (x := c_fetch_61 x b) rfl hx.r.U.S 1 (codeF b)
  · exact rel_rts (x := c_fetch_62 x b) rfl hx.r.U.S 1 (codeF b)
  · exact rel_rti (x := c_fetch_63 x b) rfl hx.r.U.S 1 (codeF b)
  · exact rel_brk (x := c_fetch_64 x b) rfl rfl hx.r.U.S 1 (codeF b)
  · exact rel_pha (x := c_fetch_65 x b) rfl hx.r.U.S 1 (codeF b)
  · exact rel_php (x := c_fetch_66 x b) rfl hx.r.U.S 1 (codeF b)
  · exact rel_pla (x := c_fetch_67 x b) rfl hx.r.U.S 1 (codeF b)
  · exact rel_plp (x := c_fetch_68 x b) rfl hx.r.U.S 1 (codeF b)
  · exact absurd (h.2.resolve_left (by decide)) hj

/-- What holds of a core as an instruction begins. -/
structure Start (j : Bool) (q : Regs) (c : Core) : Prop where
  l : c.l = [(38, 39)]
  w : c.waits = false
  n : c.line = false
  r : c.r = q
  was : c.was = q
  j : c.jam = j
  f : c.fresh = true
  inv : Inv c

theorem Tr.inv {P : List Int} {c c' : Core} {L L' : List RAcc} {l : List Acc} (t : Tr P c L l c' L') (hv : Inv c) : Inv c' := by
  induction t with
  | @one c c' L L' a h hf => have := inv_cycle hv P L false false; rw [h] at this; exact this
  | @more c c1 c' L L1 L' a l h hf t ih => refine ih ?_; have := inv_cycle hv P L false false; rw [h] at this; exact this

/-- The byte at the program's place. -/
def codeAt (P : List Int) (L : List RAcc) (r : Regs) : Int := byteOf P L (rd r.PC)

/-- An instruction, without lines. -/
theorem instr {j : Bool} {r : Regs} {c : Core} (h : Start j r c) (P : List Int) (L : List RAcc) (hj : (codeF (codeAt P L r)).Op ≠ 69) :
    ∃ c', Tr P c L (runP P (iprog r) L).2.2 c' (runP P (iprog r) L).2.1 ∧ Start j (runP P (iprog r) L).1 c' := by
  obtain ⟨hl, hw, hn, rfl, hwas, rfl, hf, hv⟩ := h
  have hr : (runP P (unroll 10 c) L).1.l = [] ∧ (runP P (unroll 10 c) L).1.r = (runP P (iprog c.r) L).1 ∧ (runP P (unroll 10 c) L).1.jam = c.jam ∧ (runP P (unroll 10 c) L).2 = (runP P (iprog c.r) L).2 := by
    rw [u_cons hl]
    have hrel := fetch_rel { c with l := [] } ⟨hv.ok.r, hv.ok.was, hv.ok.c, hv.ok.at_, hv.ok.near, hv.ok.vector, hv.ok.low, hv.ok.m⟩ (codeAt P L c.r) (rng_byteOf _ _ _) hj
    obtain ⟨⟨q1, q2, q3⟩, q4⟩ := hrel.run P (memOf L (rd c.r.PC))
    refine ⟨q1, q2, q3, ?_⟩
    show (_, _) = (_, _)
    exact congrArg (fun q : List RAcc × List Acc => (q.1, rd c.r.PC :: q.2)) q4
  obtain ⟨h1, h2, h3, h4⟩ := hr
  have t := tr_of_run P 10 c L hw hn (by rw [hl]; exact fun h => nomatch h) h1
  have hv' := t.inv hv
  rw [h4] at t
  exact ⟨_, t, ⟨rfl, rfl, rfl, h2, h2, h3, rfl, hv'⟩⟩

theorem start_from {r : Regs} (w : Regs.ok r) : Start false { r with U := { r.U with P := right r.U.P } } (coreFrom r) := ⟨rfl, rfl, rfl, rfl, rfl, rfl, rfl, inv_from w⟩
end Go.Proofs.YtmnhmplcpijanaaGreat
