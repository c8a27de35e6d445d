/-
  Instructions as trees of accesses: those of the flow, and all of them. No condition.
-/
import Derived.Test.YtmnhmplcpijanaaGreatCV
namespace Go.Proofs.YtmnhmplcpijanaaGreat
open Go VX
set_option linter.unusedVariables false
set_option linter.unusedSimpArgs false
set_option maxRecDepth 100000

theorem rd_stack {s : Int} (h : rng 256 s) : (⟨bOr .u16 256 (IntKind.u16.wrap s), false, 0⟩ : Acc) = rd (256 + s) := by rw [stack_bits h]; rfl
theorem wr_high {s pc : Int} (h : rng 256 s) (hp : rng 65536 pc) : (⟨bOr .u16 256 (IntKind.u16.wrap s), true, IntKind.u8.wrap (bShr .u16 pc 8)⟩ : Acc) = wr (256 + s) (pc / 256) := by rw [stack_bits h, high_bits hp]; rfl
theorem wr_low {s pc : Int} (h : rng 256 s) : (⟨bOr .u16 256 (IntKind.u16.wrap s), true, IntKind.u8.wrap pc⟩ : Acc) = wr (256 + s) (pc % 256) := by rw [stack_bits h, w8]; rfl
theorem wr_any {s b : Int} (h : rng 256 s) : (⟨bOr .u16 256 (IntKind.u16.wrap s), true, b⟩ : Acc) = wr (256 + s) b := by rw [stack_bits h]; rfl
theorem dn_w (s : Int) : rng 256 (dn s) := rng_wrap_u8 _
theorem up_w (s : Int) : rng 256 (up s) := rng_wrap_u8 _
theorem nx_w (s : Int) : rng 65536 (nx s) := rng_wrap_u16 _

section
variable {x : Core}
theorem fin_jump {y : Core} {r : Regs} {lo hi : Int} {j : Bool} (hl : y.l = []) (hr : y.r = r) (hlow : y.low = lo) (hj : y.jam = j) (h1 : rng 256 lo) (h2 : rng 256 hi) : Fin j (c_jump y hi) (r.go (lo + 256 * hi)) := by
  subst hr hlow hj
  exact ⟨hl, by show ({ y.r with PC := _ } : Regs) = _; rw [pair_bits h1 h2]; rfl, rfl⟩

theorem rel_jmp (hl : x.l = [(38, 88), (38, 60)]) (n : Nat) (c : Code) : Rel (Fin x.jam) (unroll (n + 8) x) (jmpP c x.r) := by
  rw [u_cons hl]
  refine .acc' rfl fun lo h1 => .acc' rfl fun hi h2 => ?_
  rw [u_nil rfl]
  exact .ret (fin_jump (y := { x with l := [], r := x.r.go (nx x.r.PC), low := lo }) rfl rfl rfl rfl h1 h2)

theorem rel_jmpi (hl : x.l = [(38, 88), (38, 89), (87, 90), (87, 60)]) (n : Nat) (c : Code) : Rel (Fin x.jam) (unroll (n + 8) x) (jmpiP c x.r) := by
  rw [u_cons hl]
  refine .acc' rfl fun lo h1 => .acc' rfl fun hi h2 => .acc' (congrArg rd (pair_bits h1 h2)) fun a h3 => .acc' (congrArg rd ?_) fun b h4 => ?_
  · refine Eq.trans (pt_eq (a := bOr .u16 (bShl .u16 (IntKind.u16.wrap hi) 8) (IntKind.u16.wrap lo)) (by rw [pair_bits h1 h2]; exact rng_pair h1 h2)) ?_
    rw [pair_bits h1 h2]
  · rw [u_nil rfl]
    exact .ret (fin_jump (y := { x with l := [], r := (x.r.go (nx x.r.PC)).go (nx (nx x.r.PC)), low := a, at_ := bOr .u16 (bAnd .u16 (bOr .u16 (bShl .u16 (IntKind.u16.wrap hi) 8) (IntKind.u16.wrap lo)) 65280) (IntKind.u16.wrap (IntKind.u8.wrap (IntKind.u8.wrap (bOr .u16 (bShl .u16 (IntKind.u16.wrap hi) 8) (IntKind.u16.wrap lo)) + 1))) }) rfl rfl rfl rfl h3 h4)

theorem rel_jsr (hl : x.l = [(38, 88), (44, 43), (77, 45), (78, 45), (38, 60)]) (hs : rng 256 x.r.U.S) (n : Nat) (c : Code) : Rel (Fin x.jam) (unroll (n + 8) x) (jsrP c x.r) := by
  rw [u_cons hl]
  refine .acc' rfl fun lo h1 => .acc' (rd_stack hs) fun _ _ => .acc' (wr_high hs (nx_w _)) fun _ _ => .acc' (wr_low (dn_w _)) fun _ _ => .acc' rfl fun hi h2 => ?_
  rw [u_nil rfl]
  exact .ret (fin_jump (y := { x with l := [], r := ((x.r.go (nx x.r.PC)).s (dn x.r.U.S)).s (dn (dn x.r.U.S)), low := lo }) rfl rfl rfl rfl h1 h2)

theorem rel_rts (hl : x.l = [(38, 43), (44, 120), (44, 121), (44, 60), (38, 122)]) (hs : rng 256 x.r.U.S) (n : Nat) (c : Code) : Rel (Fin x.jam) (unroll (n + 8) x) (rtsP c x.r) := by
  rw [u_cons hl]
  refine .acc' rfl fun _ _ => .acc' (rd_stack hs) fun _ _ => .acc' (rd_stack (up_w _)) fun lo h1 => .acc' (rd_stack (up_w _)) fun hi h2 => .acc' (congrArg rd (pair_bits h1 h2)) fun _ _ => ?_
  rw [u_nil rfl]
  refine .ret ⟨rfl, ?_, rfl⟩
  show ({ (upR (upR x.r)) with PC := IntKind.u16.wrap (bOr .u16 (bShl .u16 (IntKind.u16.wrap hi) 8) (IntKind.u16.wrap lo) + 1) } : Regs) = _
  rw [pair_bits h1 h2]; rfl

theorem rel_rti (hl : x.l = [(38, 43), (44, 120), (44, 123), (44, 121), (44, 60)]) (hs : rng 256 x.r.U.S) (n : Nat) (c : Code) : Rel (Fin x.jam) (unroll (n + 8) x) (rtiP c x.r) := by
  rw [u_cons hl]
  refine .acc' rfl fun _ _ => .acc' (rd_stack hs) fun _ _ => .acc' (rd_stack (up_w _)) fun p _ => .acc' (rd_stack (up_w _)) fun lo h1 => .acc' (rd_stack (up_w _)) fun hi h2 => ?_
  rw [u_nil rfl]
  exact .ret (fin_jump (y := { x with l := [], r := flagP (right p) (upR (upR (upR x.r))), low := lo }) rfl rfl rfl rfl h1 h2)

theorem fin_enter {y : Core} {r : Regs} {lo hi : Int} {j : Bool} (hl : y.l = []) (hr : y.r = r) (hlow : y.low = lo) (hj : y.jam = j) (h1 : rng 256 lo) (h2 : rng 256 hi) : Fin j (c_enter y hi) ((r.u (uFlag r.U 4 true)).go (lo + 256 * hi)) := by
  subst hr hlow hj
  exact ⟨hl, by show ({ ({ y.r with PC := _ } : Regs) with U := _ } : Regs) = _; rw [pair_bits h1 h2]; rfl, rfl⟩

theorem rel_vec {r : Regs} {v : Int} {j : Bool} (hl : x.l = [(46, 47), (46, 48)]) (hr : x.r = r) (hv : x.vector = v) (hj : x.jam = j) (hv2 : rng 65535 v) (n : Nat) : Rel (Fin j) (unroll (n + 2) x) (vecP v r) := by
  subst hr hv hj
  rw [u_cons hl]
  refine .acc' rfl fun lo h1 => .acc' (congrArg rd ?_) fun hi h2 => ?_
  · show IntKind.u16.wrap (x.vector + 1) = _
    rw [w16]; obtain ⟨a, b⟩ := hv2; omega
  · rw [u_nil rfl]
    exact .ret (fin_enter (y := { x with l := [], low := lo, vector := IntKind.u16.wrap (x.vector + 1) }) rfl rfl rfl rfl h1 h2)

theorem rel_brk (hl : x.l = [(38, 122), (77, 45), (78, 45), (125, 45), (46, 47), (46, 48)]) (hv : x.vector = 65534) (hs : rng 256 x.r.U.S) (n : Nat) (c : Code) : Rel (Fin x.jam) (unroll (n + 8) x) (brkP c x.r) := by
  rw [u_cons hl]
  refine .acc' rfl fun _ _ => .acc' (wr_high hs (nx_w _)) fun _ _ => .acc' (wr_low (dn_w _)) fun _ _ => .acc' (wr_any (dn_w _)) fun _ _ => ?_
  exact rel_vec (x := { x with l := [(46, 47), (46, 48)], r := (((x.r.go (nx x.r.PC)).s (dn x.r.U.S)).s (dn (dn x.r.U.S))).s (dn (dn (dn x.r.U.S))) }) rfl rfl hv rfl (by decide) (n + 2)

theorem rel_int {v : Int} (hl : x.l = [(38, 43), (38, 43), (77, 45), (78, 45), (79, 45), (46, 47), (46, 48)]) (hv : x.vector = v) (hv2 : rng 65535 v) (hs : rng 256 x.r.U.S) (hp : rng 65536 x.r.PC) (n : Nat) : Rel (Fin x.jam) (unroll (n + 8) x) (intP v x.r) := by
  rw [u_cons hl]
  refine .acc' rfl fun _ _ => .acc' rfl fun _ _ => .acc' (wr_high hs hp) fun _ _ => .acc' (wr_low (dn_w _)) fun _ _ => .acc' (wr_any (dn_w _)) fun _ _ => ?_
  exact rel_vec (x := { x with l := [(46, 47), (46, 48)], r := ((x.r.s (dn x.r.U.S)).s (dn (dn x.r.U.S))).s (dn (dn (dn x.r.U.S))) }) rfl rfl hv rfl hv2 (n + 1)

theorem rel_res (hl : x.l = [(38, 43), (38, 43), (44, 45), (44, 45), (44, 45), (46, 47), (46, 48)]) (hv : x.vector = 65532) (hs : rng 256 x.r.U.S) (n : Nat) : Rel (Fin x.jam) (unroll (n + 8) x) (resP x.r) := by
  rw [u_cons hl]
  refine .acc' rfl fun _ _ => .acc' rfl fun _ _ => .acc' (rd_stack hs) fun _ _ => .acc' (rd_stack (dn_w _)) fun _ _ => .acc' (rd_stack (dn_w _)) fun _ _ => ?_
  exact rel_vec (x := { x with l := [(46, 47), (46, 48)], r := ((x.r.s (dn x.r.U.S)).s (dn (dn x.r.U.S))).s (dn (dn (dn x.r.U.S))) }) rfl rfl hv rfl (by decide) (n + 1)

theorem rel_pha (hl : x.l = [(38, 43), (124, 45)]) (hs : rng 256 x.r.U.S) (n : Nat) (c : Code) : Rel (Fin x.jam) (unroll (n + 8) x) (phaP c x.r) := by
  rw [u_cons hl]
  refine .acc' rfl fun _ _ => .acc' (wr_any hs) fun _ _ => ?_
  rw [u_nil rfl]; exact .ret ⟨rfl, rfl, rfl⟩
theorem rel_php (hl : x.l = [(38, 43), (125, 45)]) (hs : rng 256 x.r.U.S) (n : Nat) (c : Code) : Rel (Fin x.jam) (unroll (n + 8) x) (phpP c x.r) := by
  rw [u_cons hl]
  refine .acc' rfl fun _ _ => .acc' (wr_any hs) fun _ _ => ?_
  rw [u_nil rfl]; exact .ret ⟨rfl, rfl, rfl⟩
theorem rel_pla (hl : x.l = [(38, 43), (44, 120), (44, 126)]) (hs : rng 256 x.r.U.S) (n : Nat) (c : Code) : Rel (Fin x.jam) (unroll (n + 8) x) (plaP c x.r) := by
  rw [u_cons hl]
  refine .acc' rfl fun _ _ => .acc' (rd_stack hs) fun _ _ => .acc' (rd_stack (up_w _)) fun _ _ => ?_
  rw [u_nil rfl]; exact .ret ⟨rfl, rfl, rfl⟩
theorem rel_plp (hl : x.l = [(38, 43), (44, 120), (44, 127)]) (hs : rng 256 x.r.U.S) (n : Nat) (c : Code) : Rel (Fin x.jam) (unroll (n + 8) x) (plpP c x.r) := by
  rw [u_cons hl]
  refine .acc' rfl fun _ _ => .acc' (rd_stack hs) fun _ _ => .acc' (rd_stack (up_w _)) fun _ _ => ?_
  rw [u_nil rfl]; exact .ret ⟨rfl, rfl, rfl⟩
theorem rel_imp (hl : x.l = [(38, 96)]) (n : Nat) : Rel (Fin x.jam) (unroll (n + 8) x) (impP x.c x.r) := by
  rw [u_cons hl]
  refine .acc' rfl fun _ _ => ?_
  rw [u_nil rfl]; exact .ret ⟨rfl, rfl, rfl⟩
theorem rel_imm (hl : x.l = [(38, 97)]) (n : Nat) : Rel (Fin x.jam) (unroll (n + 8) x) (immP x.c x.r) := by
  rw [u_cons hl]
  refine .acc' rfl fun _ _ => ?_
  rw [u_nil rfl]; exact .ret ⟨rfl, rfl, rfl⟩

theorem rel_turn {d : Int} {r : Regs} {j : Bool} (hl : x.l = [(38, 119)]) (hr : x.r = r) (hm : x.m = d) (hj : x.jam = j) (hd : rng 256 d) (hp : rng 65536 r.PC) (n : Nat) : Rel (Fin j) (unroll (n + 3) x) (.acc (rd r.PC) fun _ =>
    if r.PC / 256 * 256 + (r.PC + sgn d) % 65536 % 256 = (r.PC + sgn d) % 65536 then .ret (r.go ((r.PC + sgn d) % 65536)) else .acc (rd (r.PC / 256 * 256 + (r.PC + sgn d) % 65536 % 256)) fun _ => .ret (r.go ((r.PC + sgn d) % 65536))) := by
  subst hr hm hj
  rw [u_cons hl]
  refine .acc' rfl fun g hg => ?_
  show Rel _ (unroll (n + 2) (c_turn { x with l := [] } g)) _
  have e1 : IntKind.u16.wrap (x.r.PC + IntKind.u16.wrap (IntKind.i8.wrap x.m)) = (x.r.PC + sgn x.m) % 65536 := by rw [sgn_bits hd, w16]; omega
  have e2 : bOr .u16 (bAnd .u16 x.r.PC 65280) (bAndNot .u16 ((x.r.PC + sgn x.m) % 65536) 65280) = x.r.PC / 256 * 256 + (x.r.PC + sgn x.m) % 65536 % 256 := page2_bits hp ⟨by omega, by omega⟩
  unfold c_turn
  simp only [e1, e2]
  by_cases h : x.r.PC / 256 * 256 + (x.r.PC + sgn x.m) % 65536 % 256 = (x.r.PC + sgn x.m) % 65536
  · rw [if_pos (by simpa using h), if_pos h, u_nil rfl]; exact .ret ⟨rfl, rfl, rfl⟩
  · rw [if_neg (by simpa using h), if_neg h]
    refine .acc' rfl fun _ _ => ?_
    rw [u_nil rfl]; exact .ret ⟨rfl, rfl, rfl⟩

theorem rel_br (hl : x.l = [(38, 94)]) (n : Nat) : Rel (Fin x.jam) (unroll (n + 8) x) (brP x.c x.r) := by
  rw [u_cons hl]
  refine .acc' rfl fun d hd => ?_
  show Rel _ (unroll (n + 7) (c_branch { x with l := [] } d)) (if uTakes (x.r.go (nx x.r.PC)).U x.c.Op = true then _ else _)
  unfold c_branch
  cases ht : uTakes x.r.U x.c.Op with
  | true =>
    rw [if_neg (show ¬ (!true) = true by decide), if_pos (show uTakes (x.r.go (nx x.r.PC)).U x.c.Op = true from ht)]
    exact rel_turn (x := { x with r := x.r.go (nx x.r.PC), l := [(38, 119)], m := d }) rfl rfl rfl rfl hd (nx_w _) (n + 4)
  | false =>
    rw [if_pos (show (!false) = true by rfl), if_neg (show ¬ uTakes (x.r.go (nx x.r.PC)).U x.c.Op = true from by show ¬ uTakes x.r.U x.c.Op = true; rw [ht]; decide), u_nil rfl]
    exact .ret ⟨rfl, rfl, rfl⟩
end
end Go.Proofs.YtmnhmplcpijanaaGreat
