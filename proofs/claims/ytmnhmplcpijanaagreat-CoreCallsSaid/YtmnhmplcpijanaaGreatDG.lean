/-
  CoreCalls: the law. No condition.
-/
import Derived.Test.YtmnhmplcpijanaaGreatDF
namespace Go.Proofs.YtmnhmplcpijanaaGreat
open Go VX
set_option linter.unusedVariables false
set_option linter.unusedSimpArgs false
set_option maxRecDepth 100000

theorem own_pulled (r : Regs) (wr : Regs.ok r) (pc : Int) (wp : rng 65536 (pc + 5)) (php : Bool) (v : Int) (hv : v = bif php then bOr .u8 (right r.U.P) 16 else r.U.A) (q : Regs) (hq : q = { r with U := { r.U with P := right r.U.P }, PC := pc }) :
    own (pulled php ((q.go (pc + 5)).s r.U.S) v) = { (if (!php) = true then ({ own { r with PC := pc } with U := rSign (own { r with PC := pc }).U (own { r with PC := pc }).U.A } : RRegs) else own { r with PC := pc }) with PC := pc + 5 } := by
  have e5 : IntKind.i64.wrap (pc + 5) = pc + 5 := i64_small wp.1 (by have := wp.2; omega)
  subst hq
  cases php with
  | true =>
    simp only [cond_true] at hv
    rw [if_neg (by decide)]
    subst hv
    have hp := push_own r.U.P wr.U.P
    show (⟨⟨_, _, _, _, rFlags (IntKind.i64.wrap (right (bOr .u8 (right r.U.P) 16)))⟩, IntKind.i64.wrap (pc + 5)⟩ : RRegs) = ⟨⟨_, _, _, _, rFlags (IntKind.i64.wrap r.U.P)⟩, pc + 5⟩
    rw [hp, e5]; rfl
  | false =>
    simp only [cond_false] at hv
    rw [if_pos (show (!false) = true from rfl)]
    subst hv
    have hs := sign_own r.U.P r.U.A wr.U.P wr.U.A
    have f1 := flag_P (uFlag { ({ r.U with P := right r.U.P } : Un) with A := r.U.A } 128 (((bAnd .u8 r.U.A 128) : Int) != 0)) 2 ((r.U.A : Int) == 0)
    have f2 := flag_P { ({ r.U with P := right r.U.P } : Un) with A := r.U.A } 128 (((bAnd .u8 r.U.A 128) : Int) != 0)
    have f3 := flag_P (uFlag ⟨0, 0, 0, 0, right r.U.P⟩ 128 (((bAnd .u8 r.U.A 128) : Int) != 0)) 2 ((r.U.A : Int) == 0)
    show (⟨⟨IntKind.i64.wrap (uRead_9 _ _).A, IntKind.i64.wrap (uRead_9 _ _).X, IntKind.i64.wrap (uRead_9 _ _).Y, IntKind.i64.wrap (uRead_9 _ _).S, rFlags (IntKind.i64.wrap (uRead_9 _ _).P)⟩, IntKind.i64.wrap (pc + 5)⟩ : RRegs) = ⟨rSign _ _, pc + 5⟩
    rw [e5]
    have g : ∀ q : Regs, q.U = { r.U with P := right r.U.P } → uRead_9 (q.s r.U.S).U r.U.A = uFlag (uFlag { ({ r.U with P := right r.U.P } : Un) with A := r.U.A } 128 (((bAnd .u8 r.U.A 128) : Int) != 0)) 2 ((r.U.A : Int) == 0) := by
      intro q hq
      unfold uRead_9 uLoad uSign Regs.s
      rw [hq]
    rw [g (({ r with U := { r.U with P := right r.U.P }, PC := pc } : Regs).go (pc + 5)) rfl, f1.2.1, f1.2.2.1, f1.2.2.2.1, f1.2.2.2.2, f2.2.1, f2.2.2.1, f2.2.2.2.1, f2.2.2.2.2, f1.1, f2.1]
    rw [f3.1] at hs
    rw [hs]
    rfl

theorem calls_true (r : Regs) (to : Int) (php : Bool) (wr : Regs.ok r) (wt : rng 65536 to) : FnSpec Tryz.prog 5 1000 [Regs.enc r, .int .u16 to, .bool php] [] (.bool true) [] := by
  have hz : (!awakeF) = false := by rw [awake_tt]; rfl
  obtain ⟨k, hk0, hk1, hpc⟩ := base_at wr.PC
  obtain ⟨k2, hk2, hk3, hto⟩ := to_at wt
  have key := fun r2 h => lawCalls_p1 r to php hz r2 h
  have hgo := @calls_tr r to php
  rw [hpc, hto] at key
  rw [hpc, hto] at hgo
  generalize hq : (16384 + 16 * k : Int) = pc at key hgo
  generalize hq2 : (36864 + k2 : Int) = tt at key hgo
  have hp0 : 16384 ≤ pc := by omega
  have hp1 : pc ≤ 32752 := by omega
  have ht0 : 36864 ≤ tt := by omega
  have ht1 : tt < 40960 := by omega
  have e1 : IntKind.i64.wrap pc = pc := i64_small (by omega) (by omega)
  have et : IntKind.i64.wrap tt = tt := i64_small (by omega) (by omega)
  have elo : bAnd .u16 tt 255 = tt % 256 := by
    have e := bAnd_field (k := .u16) rfl 0 8 (a := tt) (m := 255) (by rfl) (by omega) (by show tt < 65536; omega) (by decide)
    rw [e]
    show tt / 1 % 256 * 1 = tt % 256
    omega
  have ehi : bShr .u16 tt 8 = tt / 256 := by
    unfold bShr
    have : min (Int.toNat 8) (IntKind.u16.bits) = 8 := rfl
    rw [this, show ((2 : Int) ^ 8) = 256 from rfl, Int.fdiv_eq_ediv_of_nonneg _ (by decide)]
  have eJ : lawCalls_J1n to php = ((bif php then 8 else 72), (bif php then 40 else 104)) := by unfold lawCalls_J1n; cases php <;> rfl
  have eL : [({ At := (IntKind.i64.wrap pc), Put := false, B := (lawCalls_J1n to php).1 } : RAcc), ({ At := (IntKind.i64.wrap ((IntKind.i64.wrap pc) + 1)), Put := false, B := 32 } : RAcc), ({ At := (IntKind.i64.wrap ((IntKind.i64.wrap pc) + 2)), Put := false, B := (IntKind.i64.wrap (bAnd .u16 tt 255)) } : RAcc), ({ At := (IntKind.i64.wrap ((IntKind.i64.wrap pc) + 3)), Put := false, B := (IntKind.i64.wrap (bShr .u16 tt 8)) } : RAcc), ({ At := (IntKind.i64.wrap ((IntKind.i64.wrap pc) + 4)), Put := false, B := (lawCalls_J1n to php).2 } : RAcc), ({ At := (IntKind.i64.wrap tt), Put := false, B := 96 } : RAcc)] = callL pc tt (bif php then 8 else 72) (bif php then 40 else 104) := by
    unfold callL
    rw [e1, et, eJ, elo, ehi, i64_small (x := tt % 256) (by omega) (by omega), i64_small (x := tt / 256) (by omega) (by omega), i64_small (x := pc + 1) (by omega) (by omega), i64_small (x := pc + 2) (by omega) (by omega), i64_small (x := pc + 3) (by omega) (by omega), i64_small (x := pc + 4) (by omega) (by omega)]
  rw [eL] at key
  have e5 : IntKind.i64.wrap (IntKind.i64.wrap pc + 5) = pc + 5 := by rw [e1]; exact i64_small (by omega) (by omega)
  rw [e5] at hgo
  have hok : Regs.ok { r with PC := pc } := ⟨wr.U, ⟨show 0 ≤ pc by omega, show pc < 65536 by omega⟩⟩
  have hs := start_from hok
  generalize hv : (bif php then bOr .u8 (right r.U.P) 16 else r.U.A : Int) = v
  have wv : rng 256 v := by
    rw [← hv]; cases php
    · exact wr.U.A
    · exact rng_bOr_u8 _ _
  obtain ⟨c1, c2, c3, c4, L1, L2, L3, L4, l1, l2, l3, l4, t1, t2, t3, t4, n1, n2, n3, n4, ⟨q1, S1, p1⟩, ⟨q2, S2, p2⟩, ⟨q3, S3, p3⟩, S4⟩ := calls_run (q := ({ ({ r with PC := pc } : Regs) with U := { ({ r with PC := pc } : Regs).U with P := right ({ r with PC := pc } : Regs).U.P } } : Regs)) (to := tt) (php := php) (s := r.U.S) (pc := pc) rfl rfl wr.U.S hp0 hp1 ht0 ht1 v hv.symm wv hs
  have z1 := t1.len; have z2 := t2.len; have z3 := t3.len; have z4 := t4.len
  rw [n1] at z1; rw [n2] at z2; rw [n3] at z3; rw [n4] at z4
  have z0 : (callL pc tt (bif php then 8 else 72) (bif php then 40 else 104)).length = 6 := rfl
  rw [z0] at z1
  have w1 : c1.was.PC = pc + 1 := by rw [S1.was]; exact p1
  have w2 : c2.was.PC = tt := by rw [S2.was]; exact p2
  have w3 : c3.was.PC = pc + 4 := by rw [S3.was]; exact p3
  have ne : ∀ x : Int, 0 ≤ x → x < 65536 → x ≠ pc + 5 → (((IntKind.i64.wrap x) : Int) != (pc + 5)) = true := by
    intro x h0 h1 h2
    rw [i64_small h0 (by omega)]; simpa using h2
  obtain ⟨m1, R1⟩ : ∃ m, Reach (lawCalls_L2n r to php) _ (L1, (0 : Int) + (l1.length : Int), m, c1) := ⟨_, hgo t1 0 false (by omega) (by rw [n1]; omega) (by rw [z0, n1]; omega) hs.inv (.inl rfl)⟩
  obtain ⟨m2, R2⟩ : ∃ m, Reach (lawCalls_L2n r to php) (L1, (0 : Int) + (l1.length : Int), m1, c1) (L2, 0 + (l1.length : Int) + (l2.length : Int), m, c2) :=
    ⟨_, hgo t2 (0 + (l1.length : Int)) m1 (by omega) (by rw [n1, n2]; omega) (by rw [n2]; omega) S1.inv (.inr (.inr (by rw [w1]; exact ne _ (by omega) (by omega) (by omega))))⟩
  have R3 := hgo t3 (0 + (l1.length : Int) + (l2.length : Int)) m2 (by omega) (by rw [n1, n2, n3]; omega) (by rw [n3]; omega) S2.inv (.inr (.inr (by rw [w2]; exact ne _ (by omega) (by omega) (by omega))))
  rw [S2.f, w2, show (m2 || (true && (tt == tt))) = true from by simp] at R3
  have R4 := hgo t4 (0 + (l1.length : Int) + (l2.length : Int) + (l3.length : Int)) true (by omega) (by rw [n1, n2, n3, n4]; omega) (by rw [n4]; omega) S3.inv (.inr (.inr (by rw [w3]; exact ne _ (by omega) (by omega) (by omega))))
  rw [Bool.true_or] at R4
  have R := R1.trans (R2.trans (R3.trans R4))
  rw [n1, n2, n3, n4] at R
  have n19 : (0 : Int) + ((3 : Nat) : Int) + ((6 : Nat) : Int) + ((6 : Nat) : Int) + ((4 : Nat) : Int) = 19 := by decide
  rw [n19] at R
  have w4 : c4.was.PC = pc + 5 := by
    rw [S4.was]; cases php <;> rfl
  have hl : LoopR (lawCalls_L2n r to php) (L4, 19, true, c4) (L4, 19, true, c4) := by
    refine .last (.p10 (show (decide ((19 : Int) < 40)) = true from rfl) (show ((19 : Int) == 0) = false from rfl) (by show (!(c_Ready c4)) = false; rw [ready_fresh, S4.f]; rfl) ?_)
    show (((IntKind.i64.wrap (c4.was.PC)) : Int) != _) = false
    rw [hpc, hq, e5, w4, i64_small (x := pc + 5) (by omega) (by omega)]; simp
  refine of_eq (key (L4, 19, true, c4) (R.loop hl)) ?_
  have hown : own (c_Regs c4) = { (lawCalls_J3n php (L4, 19, true, c4) (own { r with PC := pc }, pc)) with PC := pc + 5 } := by
    show own c4.was = _
    rw [S4.was]
    exact own_pulled r wr pc (by constructor <;> omega) php v hv.symm _ rfl
  unfold lawCalls_J4n
  rw [if_pos (show (true : Bool) = true from rfl), if_pos (show ((19 : Int) == 19) = true from rfl)]
  show _ = true
  simp only [hpc, hq, e1, hown]
  simp [e5, i64_small (x := pc + 5) (show 0 ≤ pc + 5 by omega) (by omega)]
end Go.Proofs.YtmnhmplcpijanaaGreat
