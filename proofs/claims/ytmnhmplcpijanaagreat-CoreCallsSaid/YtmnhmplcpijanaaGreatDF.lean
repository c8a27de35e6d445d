/-
  CoreCalls, of any registers, place and way. No condition.
-/
import Derived.Test.YtmnhmplcpijanaaGreatDE
namespace Go.Proofs.YtmnhmplcpijanaaGreat
open Go VX
set_option linter.unusedVariables false
set_option linter.unusedSimpArgs false
set_option maxRecDepth 100000

theorem base_at {x : Int} (h : rng 65536 x) : ∃ k : Int, 0 ≤ k ∧ k < 1024 ∧ bOr .u16 16384 (bAnd .u16 x 16368) = 16384 + 16 * k := by
  obtain ⟨h1, h2⟩ := h
  have e := bAnd_field (k := .u16) rfl 4 10 (a := x) (m := 16368) (by rfl) h1 (by show x < 65536; omega) (by decide)
  refine ⟨x / 16 % 1024, by omega, by omega, ?_⟩
  rw [e]
  have e2 : (((2 : Nat) ^ 4 : Nat) : Int) = 16 := rfl
  have e3 : (((2 : Nat) ^ 10 : Nat) : Int) = 1024 := rfl
  rw [e2, e3, bOr_low rfl 14 (by decide) (by decide) (by omega) (by show x / 16 % 1024 * 16 < 16384; omega) (by decide) (by decide)]
  omega
theorem to_at {x : Int} (h : rng 65536 x) : ∃ k : Int, 0 ≤ k ∧ k < 4096 ∧ bOr .u16 36864 (bAnd .u16 x 4095) = 36864 + k := by
  obtain ⟨h1, h2⟩ := h
  have e := bAnd_field (k := .u16) rfl 0 12 (a := x) (m := 4095) (by rfl) h1 (by show x < 65536; omega) (by decide)
  refine ⟨x % 4096, by omega, by omega, ?_⟩
  rw [e]
  have e2 : (((2 : Nat) ^ 0 : Nat) : Int) = 1 := rfl
  have e3 : (((2 : Nat) ^ 12 : Nat) : Int) = 4096 := rfl
  rw [e2, e3, bOr_low rfl 12 (by decide) (by decide) (by omega) (by show x / 1 % 4096 * 1 < 4096; omega) (by decide) (by decide)]
  omega

/-- The memory that the law lays. -/
def callL (pc to push pull : Int) : List RAcc := [⟨pc, false, push⟩, ⟨pc + 1, false, 32⟩, ⟨pc + 2, false, to % 256⟩, ⟨pc + 3, false, to / 256⟩, ⟨pc + 4, false, pull⟩, ⟨to, false, 96⟩]

theorem last_app (a : Int) (L M : List RAcc) : lastAt a (L ++ M) = match lastAt a M with | some b => some b | none => lastAt a L := by
  induction L with
  | nil => simp only [List.nil_append, lastAt]; cases lastAt a M <;> rfl
  | cons x L ih =>
    simp only [List.cons_append, lastAt, ih]
    cases lastAt a M <;> rfl

theorem get_low {pc to push pull : Int} {M : List RAcc} {a v : Int} (h : lastAt a (callL pc to push pull) = some v) (hM : ∀ x ∈ M, x.At < 512) (ha : 512 ≤ a) : getF [234] (callL pc to push pull ++ M) a = v := by
  refine get_some ?_
  rw [last_app]
  have : lastAt a M = none := by
    clear h
    induction M with
    | nil => rfl
    | cons x M ih =>
      have h1 := hM x List.mem_cons_self
      simp only [lastAt, ih (fun y hy => hM y (List.mem_cons_of_mem _ hy))]
      rw [if_neg (by omega)]
  rw [this]; exact h

/-- Registers behind a load off the stack, or flags. -/
def pulled (php : Bool) (q : Regs) (v : Int) : Regs := bif php then flagP (right v) q else q.u (uRead_9 q.U v)

theorem calls_run {pc to s : Int} {php : Bool} {q : Regs} (hpc : q.PC = pc) (hs : q.U.S = s) (ws : rng 256 s) (hp : 16384 ≤ pc) (hp2 : pc ≤ 32752) (ht : 36864 ≤ to) (ht2 : to < 40960) (v : Int) (hv : v = bif php then bOr .u8 q.U.P 16 else q.U.A) (wv : rng 256 v)
    {c : Core} (h0 : Start false q c) :
    ∃ c1 c2 c3 c4 L1 L2 L3 L4 l1 l2 l3 l4, Tr [234] c (callL pc to (bif php then 8 else 72) (bif php then 40 else 104)) l1 c1 L1 ∧ Tr [234] c1 L1 l2 c2 L2 ∧ Tr [234] c2 L2 l3 c3 L3 ∧ Tr [234] c3 L3 l4 c4 L4 ∧
      l1.length = 3 ∧ l2.length = 6 ∧ l3.length = 6 ∧ l4.length = 4 ∧ (∃ q1, Start false q1 c1 ∧ q1.PC = pc + 1) ∧ (∃ q2, Start false q2 c2 ∧ q2.PC = to) ∧ (∃ q3, Start false q3 c3 ∧ q3.PC = pc + 4) ∧
      Start false (pulled php ((q.go (pc + 5)).s s) v) c4 := by
  have x1 : nx pc = pc + 1 := by unfold nx; rw [w16]; omega
  have x2 : nx (pc + 1) = pc + 2 := by unfold nx; rw [w16]; omega
  have x3 : nx (pc + 2) = pc + 3 := by unfold nx; rw [w16]; omega
  have x4 : nx (pc + 3) = pc + 4 := by unfold nx; rw [w16]; omega
  have x5 : nx (pc + 4) = pc + 5 := by unfold nx; rw [w16]; omega
  have x6 : nx to = to + 1 := by unfold nx; rw [w16]; omega
  generalize hpu : (bif php then 8 else 72 : Int) = pu
  generalize hpl : (bif php then 40 else 104 : Int) = pl
  have wpu : rng 256 pu := by rw [← hpu]; cases php <;> decide
  have wpl : rng 256 pl := by rw [← hpl]; cases php <;> decide
  have hd := dn_ne ws
  have wd := dn_w s; have wdd := dn_w (dn s)
  have s1 := ws.1; have s2 := ws.2; have d1 := wd.1; have d2 := wd.2; have dd1 := wdd.1; have dd2 := wdd.2
  -- the memory's bytes
  let M1 : List RAcc := [⟨256 + s, true, v⟩]
  let M2 : List RAcc := [⟨256 + s, true, v⟩, ⟨256 + dn s, true, (pc + 3) / 256⟩, ⟨256 + dn (dn s), true, (pc + 3) % 256⟩]
  have m1 : ∀ x ∈ M1, x.At < 512 := by intro x hx; simp only [M1, List.mem_singleton] at hx; subst hx; show 256 + s < 512; omega
  have m2 : ∀ x ∈ M2, x.At < 512 := by
    intro x hx; simp only [M2, List.mem_cons, List.not_mem_nil, or_false] at hx
    rcases hx with rfl | rfl | rfl
    · show 256 + s < 512; omega
    · show 256 + dn s < 512; omega
    · show 256 + dn (dn s) < 512; omega
  have L0 : ∀ a v, lastAt a (callL pc to pu pl) = some v → ∀ M, (∀ x ∈ M, x.At < 512) → rng 65536 a → 512 ≤ a → rng 256 v → byteOf [234] (callL pc to pu pl ++ M) (rd a) = v :=
    fun a v h M hM ha h5 hv => byte_rd ha (get_low h hM h5) hv
  have b0 : lastAt pc (callL pc to pu pl) = some pu := by
    simp only [callL, lastAt]; rw [if_neg (by omega), if_neg (by omega), if_neg (by omega), if_neg (by omega), if_neg (by omega), if_pos trivial]
  have b1 : lastAt (pc + 1) (callL pc to pu pl) = some 32 := by
    simp only [callL, lastAt]; rw [if_neg (by omega), if_neg (by omega), if_neg (by omega), if_neg (by omega), if_pos trivial]
  have b2 : lastAt (pc + 2) (callL pc to pu pl) = some (to % 256) := by
    simp only [callL, lastAt]; rw [if_neg (by omega), if_neg (by omega), if_neg (by omega), if_pos trivial]
  have b3 : lastAt (pc + 3) (callL pc to pu pl) = some (to / 256) := by
    simp only [callL, lastAt]; rw [if_neg (by omega), if_neg (by omega), if_pos trivial]
  have b4 : lastAt (pc + 4) (callL pc to pu pl) = some pl := by
    simp only [callL, lastAt]; rw [if_neg (by omega), if_pos trivial]
  have b5 : lastAt to (callL pc to pu pl) = some 96 := by
    simp only [callL, lastAt]; rw [if_pos trivial]
  -- the first: it pushes
  have c0 : codeAt [234] (callL pc to pu pl) q = pu := by
    have := L0 pc pu b0 [] (fun x hx => by simp at hx) (by constructor <;> omega) (by omega) wpu
    rw [List.append_nil] at this
    unfold codeAt; rw [hpc]; exact this
  obtain ⟨k1, t1, S1⟩ := instr h0 [234] (callL pc to pu pl) (by
    rw [c0, ← hpu]; cases php
    · exact jam_ne (by decide) code_72 (by decide)
    · exact jam_ne (by decide) code_8 (by decide))
  have r1 : runP [234] (iprog q) (callL pc to pu pl) = ((q.go (pc + 1)).s (dn s), callL pc to pu pl ++ M1, [rd pc, rd (pc + 1), wr (256 + s) v]) := by
    have hst : ∀ w : Int, rng 256 w → memOf (callL pc to pu pl) (wr (256 + s) w) = callL pc to pu pl ++ [⟨256 + s, true, w⟩] := by
      intro w hw
      show _ ++ [(⟨IntKind.i64.wrap (256 + s), true, IntKind.i64.wrap w⟩ : RAcc)] = _
      rw [i64_small (x := 256 + s) (by omega) (by omega), i64_small hw.1 (by have := hw.2; omega)]
    cases php with
    | false =>
      simp only [cond_false] at hpu hv
      subst hpu
      rw [run_code (body := phaP) c0 code_72 rfl, hpc, x1]
      have e : runP [234] (phaP (codeF 72) (q.go (pc + 1))) (callL pc to 72 pl) = ((q.go (pc + 1)).s (dn q.U.S), memOf (callL pc to 72 pl) (wr (256 + q.U.S) q.U.A), [rd (pc + 1), wr (256 + q.U.S) q.U.A]) := rfl
      rw [e, hs, ← hv, hst v wv]
    | true =>
      simp only [cond_true] at hpu hv
      subst hpu
      rw [run_code (body := phpP) c0 code_8 rfl, hpc, x1]
      have e : runP [234] (phpP (codeF 8) (q.go (pc + 1))) (callL pc to 8 pl) = ((q.go (pc + 1)).s (dn q.U.S), memOf (callL pc to 8 pl) (wr (256 + q.U.S) (bOr .u8 q.U.P 16)), [rd (pc + 1), wr (256 + q.U.S) (bOr .u8 q.U.P 16)]) := rfl
      rw [e, hs, ← hv, hst v wv]
  rw [r1] at t1 S1
  -- the call
  have c1 : codeAt [234] (callL pc to pu pl ++ M1) ((q.go (pc + 1)).s (dn s)) = 32 := L0 (pc + 1) 32 b1 M1 m1 (by constructor <;> omega) (by omega) (by decide)
  obtain ⟨k2, t2, S2⟩ := instr S1 [234] (callL pc to pu pl ++ M1) (by rw [c1]; exact jam_ne (by decide) code_32 (by decide))
  have r2 : runP [234] (iprog ((q.go (pc + 1)).s (dn s))) (callL pc to pu pl ++ M1) = ((((q.go (pc + 3)).s (dn (dn (dn s)))).go to), callL pc to pu pl ++ M2, [rd (pc + 1), rd (pc + 2), rd (256 + dn s), wr (256 + dn s) ((pc + 3) / 256), wr (256 + dn (dn s)) ((pc + 3) % 256), rd (pc + 3)]) := by
    rw [run_code (body := jsrP) c1 code_32 rfl]
    have e : runP [234] (jsrP (codeF 32) (((q.go (pc + 1)).s (dn s)).go (nx (pc + 1)))) (callL pc to pu pl ++ M1) =
      ((((q.go (nx (nx (pc + 1)))).s (dn (dn (dn s)))).go (byteOf [234] (callL pc to pu pl ++ M1) (rd (nx (pc + 1))) + 256 * byteOf [234] (memOf (memOf (callL pc to pu pl ++ M1) (wr (256 + dn s) (nx (nx (pc + 1)) / 256))) (wr (256 + dn (dn s)) (nx (nx (pc + 1)) % 256))) (rd (nx (nx (pc + 1)))))),
        memOf (memOf (callL pc to pu pl ++ M1) (wr (256 + dn s) (nx (nx (pc + 1)) / 256))) (wr (256 + dn (dn s)) (nx (nx (pc + 1)) % 256)), [rd (nx (pc + 1)), rd (256 + dn s), wr (256 + dn s) (nx (nx (pc + 1)) / 256), wr (256 + dn (dn s)) (nx (nx (pc + 1)) % 256), rd (nx (nx (pc + 1)))]) := rfl
    rw [show ((q.go (pc + 1)).s (dn s)).PC = pc + 1 from rfl, e, x2, x3]
    have em : memOf (memOf (callL pc to pu pl ++ M1) (wr (256 + dn s) ((pc + 3) / 256))) (wr (256 + dn (dn s)) ((pc + 3) % 256)) = callL pc to pu pl ++ M2 := by
      show (_ ++ M1) ++ [(⟨IntKind.i64.wrap (256 + dn s), true, IntKind.i64.wrap ((pc + 3) / 256)⟩ : RAcc)] ++ [(⟨IntKind.i64.wrap (256 + dn (dn s)), true, IntKind.i64.wrap ((pc + 3) % 256)⟩ : RAcc)] = _
      rw [i64_small (x := 256 + dn s) (by omega) (by omega), i64_small (x := 256 + dn (dn s)) (by omega) (by omega), i64_small (x := (pc + 3) / 256) (by omega) (by omega), i64_small (x := (pc + 3) % 256) (by omega) (by omega)]
      simp only [M1, M2, List.append_assoc, List.cons_append, List.nil_append]
    rw [em, L0 (pc + 2) (to % 256) b2 M1 m1 (by constructor <;> omega) (by omega) (by constructor <;> omega), L0 (pc + 3) (to / 256) b3 M2 m2 (by constructor <;> omega) (by omega) (by constructor <;> omega)]
    rw [show to % 256 + 256 * (to / 256) = to by omega]
  rw [r2] at t2 S2
  -- it comes back
  have c2 : codeAt [234] (callL pc to pu pl ++ M2) (((q.go (pc + 3)).s (dn (dn (dn s)))).go to) = 96 := L0 to 96 b5 M2 m2 (by constructor <;> omega) (by omega) (by decide)
  obtain ⟨k3, t3, S3⟩ := instr S2 [234] (callL pc to pu pl ++ M2) (by rw [c2]; exact jam_ne (by decide) code_96 (by decide))
  have u1 : up (dn (dn (dn s))) = dn (dn s) := up_dn wdd
  have u2 : up (dn (dn s)) = dn s := up_dn wd
  have u3 : up (dn s) = s := up_dn ws
  have g1 : byteOf [234] (callL pc to pu pl ++ M2) (rd (256 + dn (dn s))) = (pc + 3) % 256 := byte_rd (by constructor <;> omega) (get_some (by
    rw [last_app]; simp only [M2, lastAt]; rw [if_pos trivial])) (by constructor <;> omega)
  have g2 : byteOf [234] (callL pc to pu pl ++ M2) (rd (256 + dn s)) = (pc + 3) / 256 := byte_rd (by constructor <;> omega) (get_some (by
    rw [last_app]; simp only [M2, lastAt]; rw [if_neg (by omega), if_pos trivial])) (by constructor <;> omega)
  have g3 : byteOf [234] (callL pc to pu pl ++ M2) (rd (256 + s)) = v := byte_rd (by constructor <;> omega) (get_some (by
    rw [last_app]; simp only [M2, lastAt]; rw [if_neg (by omega), if_neg (by omega), if_pos trivial])) wv
  have r3 : ∃ l, runP [234] (iprog (((q.go (pc + 3)).s (dn (dn (dn s)))).go to)) (callL pc to pu pl ++ M2) = ((q.go (pc + 4)).s (dn s), callL pc to pu pl ++ M2, l) ∧ l.length = 6 := by
    rw [run_code (body := rtsP) c2 code_96 rfl]
    have e : runP [234] (rtsP (codeF 96) ((((q.go (pc + 3)).s (dn (dn (dn s)))).go to).go (nx to))) (callL pc to pu pl ++ M2) =
      ((q.s (up (up (dn (dn (dn s)))))).go (nx (byteOf [234] (callL pc to pu pl ++ M2) (rd (256 + up (dn (dn (dn s))))) + 256 * byteOf [234] (callL pc to pu pl ++ M2) (rd (256 + up (up (dn (dn (dn s)))))))), callL pc to pu pl ++ M2,
        [rd (nx to), rd (256 + dn (dn (dn s))), rd (256 + up (dn (dn (dn s)))), rd (256 + up (up (dn (dn (dn s))))), rd (byteOf [234] (callL pc to pu pl ++ M2) (rd (256 + up (dn (dn (dn s))))) + 256 * byteOf [234] (callL pc to pu pl ++ M2) (rd (256 + up (up (dn (dn (dn s)))))))]) := rfl
    refine ⟨_, by
      rw [show (((q.go (pc + 3)).s (dn (dn (dn s)))).go to).PC = to from rfl, e, u1, u2, g1, g2, show (pc + 3) % 256 + 256 * ((pc + 3) / 256) = pc + 3 by omega, x4]
      rfl, rfl⟩
  obtain ⟨l3, r3, hl3⟩ := r3
  rw [r3] at t3 S3
  -- what was pushed is pulled
  have c3 : codeAt [234] (callL pc to pu pl ++ M2) ((q.go (pc + 4)).s (dn s)) = pl := L0 (pc + 4) pl b4 M2 m2 (by constructor <;> omega) (by omega) wpl
  obtain ⟨k4, t4, S4⟩ := instr S3 [234] (callL pc to pu pl ++ M2) (by
    rw [c3, ← hpl]; cases php
    · exact jam_ne (by decide) code_104 (by decide)
    · exact jam_ne (by decide) code_40 (by decide))
  have r4 : ∃ l, runP [234] (iprog ((q.go (pc + 4)).s (dn s))) (callL pc to pu pl ++ M2) = (pulled php ((q.go (pc + 5)).s s) v, callL pc to pu pl ++ M2, l) ∧ l.length = 4 := by
    cases php with
    | false =>
      simp only [cond_false] at hpl
      subst hpl
      rw [run_code (body := plaP) c3 code_104 rfl]
      have e : runP [234] (plaP (codeF 104) (((q.go (pc + 4)).s (dn s)).go (nx (pc + 4)))) (callL pc to pu 104 ++ M2) = ((((q.go (nx (pc + 4))).s (up (dn s))).u (uRead_9 ((q.go (nx (pc + 4))).s (up (dn s))).U (byteOf [234] (callL pc to pu 104 ++ M2) (rd (256 + up (dn s)))))), callL pc to pu 104 ++ M2,
        [rd (nx (pc + 4)), rd (256 + dn s), rd (256 + up (dn s))]) := rfl
      exact ⟨_, by
        rw [show ((q.go (pc + 4)).s (dn s)).PC = pc + 4 from rfl, e, u3, g3, x5]; rfl, rfl⟩
    | true =>
      simp only [cond_true] at hpl
      subst hpl
      rw [run_code (body := plpP) c3 code_40 rfl]
      have e : runP [234] (plpP (codeF 40) (((q.go (pc + 4)).s (dn s)).go (nx (pc + 4)))) (callL pc to pu 40 ++ M2) = ((flagP (right (byteOf [234] (callL pc to pu 40 ++ M2) (rd (256 + up (dn s))))) ((q.go (nx (pc + 4))).s (up (dn s)))), callL pc to pu 40 ++ M2,
        [rd (nx (pc + 4)), rd (256 + dn s), rd (256 + up (dn s))]) := rfl
      exact ⟨_, by
        rw [show ((q.go (pc + 4)).s (dn s)).PC = pc + 4 from rfl, e, u3, g3, x5]; rfl, rfl⟩
  obtain ⟨l4, r4, hl4⟩ := r4
  rw [r4] at t4 S4
  exact ⟨k1, k2, k3, k4, _, _, _, _, _, _, _, _, t1, t2, t3, t4, rfl, rfl, hl3, hl4, ⟨_, S1, rfl⟩, ⟨_, S2, rfl⟩, ⟨_, S3, rfl⟩, S4⟩
end Go.Proofs.YtmnhmplcpijanaaGreat
