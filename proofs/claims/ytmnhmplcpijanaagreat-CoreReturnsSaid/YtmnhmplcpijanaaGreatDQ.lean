/-
  CoreReturns: what the program and the interrupt's own program do to registers and memory; the steps of both, in numbers. No condition.
-/
import Derived.Test.YtmnhmplcpijanaaGreatDP
namespace Go.Proofs.YtmnhmplcpijanaaGreat
open Go VX
set_option linter.unusedVariables false
set_option linter.unusedSimpArgs false
set_option maxRecDepth 100000

/-- The memory that the law lays. -/
def retL : List RAcc := [⟨65530, false, 0⟩, ⟨65531, false, 144⟩, ⟨65534, false, 0⟩, ⟨65535, false, 144⟩, ⟨36864, false, 64⟩]
def RMem (L : List RAcc) : Prop := ∃ M, L = retL ++ M ∧ ∀ x ∈ M, x.At < 512
theorem low_none {a : Int} (ha : 512 ≤ a) : ∀ {M : List RAcc}, (∀ x ∈ M, x.At < 512) → lastAt a M = none
  | [], _ => rfl
  | x :: M, h => by
    have h1 := h x List.mem_cons_self
    simp only [lastAt, low_none ha (fun y hy => h y (List.mem_cons_of_mem _ hy))]
    rw [if_neg (by omega)]
theorem RMem.get {L : List RAcc} (h : RMem L) {a : Int} (ha : 512 ≤ a) : lastAt a L = lastAt a retL := by
  obtain ⟨M, rfl, hM⟩ := h
  rw [last_app, low_none ha hM]
theorem ret_none {a : Int} (h1 : 512 ≤ a) (h2 : a < 36864) : lastAt a retL = none := by
  simp only [retL, lastAt]; rw [if_neg (by omega), if_neg (by omega), if_neg (by omega), if_neg (by omega), if_neg (by omega)]

def rQ (u : Un) (b : Int) (k : Nat) : Regs := ⟨u, b + (k : Int)⟩
def rH (u : Un) : Regs := ⟨uFlag { u with S := dn (dn (dn u.S)) } 4 true, 36864⟩
def pushed (L : List RAcc) (u : Un) (pc : Int) : List RAcc := L ++ [⟨256 + u.S, true, pc / 256⟩, ⟨256 + dn u.S, true, pc % 256⟩, ⟨256 + dn (dn u.S), true, u.P⟩]
/-- What stands on the stack. -/
def Stk (u : Un) (pc : Int) (L : List RAcc) : Prop := lastAt (256 + u.S) L = some (pc / 256) ∧ lastAt (256 + dn u.S) L = some (pc % 256) ∧ lastAt (256 + dn (dn u.S)) L = some u.P

theorem code_234 : clsOf (codeF 234) = 24 := by kernel_rfl
theorem code_64 : clsOf (codeF 64) = 33 := by kernel_rfl
theorem nop_self (u : Un) : uSelf u (codeF 234).Op = u := by
  rw [show (codeF 234).Op = 0 from by kernel_rfl]; rfl

section
variable {u : Un} {b : Int} {k : Nat} {L : List RAcc}
theorem nop_code (hM : RMem L) (h1 : 16384 ≤ b) (h2 : b ≤ 32764) (hk : k < 101) : codeAt [234] L (rQ u b k) = 234 :=
  byte_rd (a := b + (k : Int)) (by constructor <;> omega) (get_one (by decide) (by rw [hM.get (by omega)]; exact ret_none (by omega) (by omega))) (by decide)
theorem run_nop (hM : RMem L) (h1 : 16384 ≤ b) (h2 : b ≤ 32764) (hk : k < 101) : runP [234] (iprog (rQ u b k)) L = (rQ u b (k + 1), L, [rd (b + (k : Int)), rd (b + (k : Int) + 1)]) := by
  rw [run_code (body := impP) (nop_code hM h1 h2 hk) code_234 rfl]
  have x1 : nx (b + (k : Int)) = b + (k : Int) + 1 := by unfold nx; rw [w16]; omega
  have e : runP [234] (impP (codeF 234) ((rQ u b k).go (nx (rQ u b k).PC))) L = ((⟨uSelf u (codeF 234).Op, nx (b + (k : Int))⟩ : Regs), L, [rd (nx (b + (k : Int)))]) := rfl
  rw [e, nop_self, x1]
  show ((⟨u, b + (k : Int) + 1⟩ : Regs), _, _) = ((⟨u, b + ((k + 1 : Nat) : Int)⟩ : Regs), _, _)
  rw [show b + ((k + 1 : Nat) : Int) = b + (k : Int) + 1 by omega]; rfl

theorem RMem.push (hM : RMem L) (wu : Un.ok u) (pc : Int) : RMem (pushed L u pc) := by
  obtain ⟨M, rfl, h⟩ := hM
  refine ⟨M ++ [⟨256 + u.S, true, pc / 256⟩, ⟨256 + dn u.S, true, pc % 256⟩, ⟨256 + dn (dn u.S), true, u.P⟩], by unfold pushed; rw [List.append_assoc], fun x hx => ?_⟩
  rcases List.mem_append.1 hx with hx | hx
  · exact h x hx
  · have s1 := wu.S.2; have s2 := (dn_w u.S).2; have s3 := (dn_w (dn u.S)).2
    simp only [List.mem_cons, List.not_mem_nil, or_false] at hx
    rcases hx with rfl | rfl | rfl
    · show 256 + u.S < 512; omega
    · show 256 + dn u.S < 512; omega
    · show 256 + dn (dn u.S) < 512; omega
theorem stk_push (wu : Un.ok u) (pc : Int) : Stk u pc (pushed L u pc) := by
  have hd := dn_ne wu.S
  unfold Stk pushed
  rw [last_app, last_app, last_app]
  simp only [lastAt]
  refine ⟨?_, ?_, ?_⟩
  · rw [if_neg (by omega), if_neg (by omega), if_pos trivial]
  · rw [if_neg (by omega), if_pos trivial]
  · rw [if_pos trivial]

theorem run_int (hM : RMem L) (wu : Un.ok u) (h1 : 16384 ≤ b) (h2 : b ≤ 32764) (hk : k < 101) {v : Int} (hv : v = 65530 ∨ v = 65534) :
    runP [234] (intP v (rQ u b k)) L = (rH u, pushed L u (b + (k : Int)), [rd (b + (k : Int)), rd (b + (k : Int)), wr (256 + u.S) ((b + (k : Int)) / 256), wr (256 + dn u.S) ((b + (k : Int)) % 256), wr (256 + dn (dn u.S)) u.P, rd v, rd (v + 1)]) := by
  have s1 := wu.S.1; have s2 := wu.S.2; have d1 := (dn_w u.S).1; have d2 := (dn_w u.S).2; have f1 := (dn_w (dn u.S)).1; have f2 := (dn_w (dn u.S)).2; have p1 := wu.P.1; have p2 := wu.P.2
  generalize hpc : b + (k : Int) = pc
  have em : memOf (memOf (memOf L (wr (256 + u.S) (pc / 256))) (wr (256 + dn u.S) (pc % 256))) (wr (256 + dn (dn u.S)) u.P) = pushed L u pc := by
    show ((L ++ [(⟨IntKind.i64.wrap (256 + u.S), true, IntKind.i64.wrap (pc / 256)⟩ : RAcc)]) ++ [(⟨IntKind.i64.wrap (256 + dn u.S), true, IntKind.i64.wrap (pc % 256)⟩ : RAcc)]) ++ [(⟨IntKind.i64.wrap (256 + dn (dn u.S)), true, IntKind.i64.wrap u.P⟩ : RAcc)] = _
    rw [i64_small (x := 256 + u.S) (by omega) (by omega), i64_small (x := 256 + dn u.S) (by omega) (by omega), i64_small (x := 256 + dn (dn u.S)) (by omega) (by omega), i64_small (x := pc / 256) (by omega) (by omega), i64_small (x := pc % 256) (by omega) (by omega), i64_small (x := u.P) (by omega) (by omega)]
    simp only [pushed, List.append_assoc, List.cons_append, List.nil_append]
  have e : runP [234] (intP v (⟨u, pc⟩ : Regs)) L = ((⟨uFlag { u with S := dn (dn (dn u.S)) } 4 true, byteOf [234] (memOf (memOf (memOf L (wr (256 + u.S) (pc / 256))) (wr (256 + dn u.S) (pc % 256))) (wr (256 + dn (dn u.S)) u.P)) (rd v) + 256 * byteOf [234] (memOf (memOf (memOf L (wr (256 + u.S) (pc / 256))) (wr (256 + dn u.S) (pc % 256))) (wr (256 + dn (dn u.S)) u.P)) (rd (v + 1))⟩ : Regs),
    memOf (memOf (memOf L (wr (256 + u.S) (pc / 256))) (wr (256 + dn u.S) (pc % 256))) (wr (256 + dn (dn u.S)) u.P), [rd pc, rd pc, wr (256 + u.S) (pc / 256), wr (256 + dn u.S) (pc % 256), wr (256 + dn (dn u.S)) u.P, rd v, rd (v + 1)]) := rfl
  rw [show rQ u b k = (⟨u, pc⟩ : Regs) from by unfold rQ; rw [hpc], e, em]
  have hM' := hM.push wu pc
  have g0 : byteOf [234] (pushed L u pc) (rd v) = 0 := byte_rd (by rcases hv with rfl | rfl <;> decide) (get_some (by rw [hM'.get (by omega)]; rcases hv with rfl | rfl <;> rfl)) (by decide)
  have g1 : byteOf [234] (pushed L u pc) (rd (v + 1)) = 144 := byte_rd (by rcases hv with rfl | rfl <;> decide) (get_some (by rw [hM'.get (by omega)]; rcases hv with rfl | rfl <;> rfl)) (by decide)
  rw [g0, g1]; rfl

theorem rti_code (hM : RMem L) : codeAt [234] L (rH u) = 64 := byte_rd (a := 36864) (by decide) (get_some (by rw [hM.get (by decide)]; rfl)) (by decide)
theorem run_rti (hM : RMem L) (wu : Un.ok u) (hr : right u.P = u.P) (h1 : 16384 ≤ b) (h2 : b ≤ 32764) (hk : k < 101) (hS : Stk u (b + (k : Int)) L) : ∃ xs, runP [234] (iprog (rH u)) L = (rQ u b k, L, xs) ∧ xs.length = 6 := by
  rw [run_code (body := rtiP) (rti_code hM) code_64 rfl]
  have s1 := wu.S.1; have s2 := wu.S.2; have d1 := (dn_w u.S).1; have d2 := (dn_w u.S).2; have f1 := (dn_w (dn u.S)).1; have f2 := (dn_w (dn u.S)).2; have p1 := wu.P.1; have p2 := wu.P.2
  obtain ⟨t1, t2, t3⟩ := hS
  obtain ⟨_, fA, fX, fY, fS⟩ := flag_P { u with S := dn (dn (dn u.S)) } 4 true
  show ∃ xs, (let z := runP [234] (rtiP (codeF 64) (⟨uFlag { u with S := dn (dn (dn u.S)) } 4 true, nx 36864⟩ : Regs)) L; (z.1, z.2.1, rd (rH u).PC :: z.2.2)) = _ ∧ _
  generalize uFlag { u with S := dn (dn (dn u.S)) } 4 true = z at fA fX fY fS
  have e : runP [234] (rtiP (codeF 64) (⟨z, nx 36864⟩ : Regs)) L =
    ((⟨{ z with S := up (up (up z.S)), P := right (byteOf [234] L (rd (256 + up z.S))) }, byteOf [234] L (rd (256 + up (up z.S))) + 256 * byteOf [234] L (rd (256 + up (up (up z.S))))⟩ : Regs), L, [rd (nx 36864), rd (256 + z.S), rd (256 + up z.S), rd (256 + up (up z.S)), rd (256 + up (up (up z.S)))]) := rfl
  have u1 : up z.S = dn (dn u.S) := by rw [fS]; exact up_dn (dn_w _)
  have u2 : up (dn (dn u.S)) = dn u.S := up_dn (dn_w _)
  have u3 : up (dn u.S) = u.S := up_dn wu.S
  have g1 : byteOf [234] L (rd (256 + dn (dn u.S))) = u.P := byte_rd (by constructor <;> omega) (get_some t3) wu.P
  have g2 : byteOf [234] L (rd (256 + dn u.S)) = (b + (k : Int)) % 256 := byte_rd (by constructor <;> omega) (get_some t2) (by constructor <;> omega)
  have g3 : byteOf [234] L (rd (256 + u.S)) = (b + (k : Int)) / 256 := byte_rd (by constructor <;> omega) (get_some t1) (by constructor <;> omega)
  refine ⟨[rd 36864, rd (nx 36864), rd (256 + z.S), rd (256 + up z.S), rd (256 + up (up z.S)), rd (256 + up (up (up z.S)))], ?_, rfl⟩
  simp only [e]
  rw [u1, u2, u3, g1, g2, g3, hr, fA, fX, fY, show (b + (k : Int)) % 256 + 256 * ((b + (k : Int)) / 256) = b + (k : Int) by omega]
  rfl
end

-- ---------------------------------------------------------------- the steps, in numbers

structure ASt where
  ph : Nat
  m : Nat
  k : Nat
  w : Bool
  n : Bool
  bad : Bool
def full : Nat → Nat
  | 0 => 2
  | 1 => 7
  | _ => 6
def aNext (masked : Bool) (k : Nat) (w irq n : Bool) : ASt := bif w || (irq && !masked) then ⟨1, 7, k, false, n, decide (100 ≤ k)⟩ else ⟨0, 2, k, false, n, decide (100 ≤ k)⟩
def aStep (masked : Bool) (s : ASt) (irq nmi : Bool) : ASt :=
  if 2 ≤ s.m then ⟨s.ph, s.m - 1, s.k, s.w || (nmi && !s.n), nmi, false⟩
  else match s.ph with
    | 0 => aNext masked (s.k + 1) (s.w || (nmi && !s.n)) irq nmi
    | 1 => ⟨2, 6, s.k, false, nmi, s.w || (nmi && !s.n)⟩
    | _ => aNext masked s.k (s.w || (nmi && !s.n)) irq nmi
def aFresh (s : ASt) : Bool := s.m == full s.ph
def endA (s : ASt) : Bool := s.ph != 2 && (decide (1 ≤ s.k) && decide (s.k ≤ 40))
def chk2 (masked : Bool) : Nat → ASt → Bool
  | 0, s => endA s
  | n + 1, s => (!(aFresh s && s.ph != 2) || endA s) && (!(aStep masked s false false).bad && chk2 masked n (aStep masked s false false))
def endB (masked nmi : Bool) (seen : Nat) : Bool := bif nmi then seen == 1 else bif masked then seen == 0 else seen != 0
def chk1 (masked nmi : Bool) (h : Nat) : Nat → Nat → Nat → ASt → Bool
  | 0, i, seen, s => endB masked nmi seen && chk2 masked 20 s
  | n + 1, i, seen, s => !(aStep masked s (decide (i < 2 + h) && !nmi) (decide (i < 2 + h) && nmi)).bad &&
      chk1 masked nmi h n (i + 1) (bif aFresh s && s.ph == 2 then seen + 1 else seen) (aStep masked s (decide (i < 2 + h) && !nmi) (decide (i < 2 + h) && nmi))
def chkAll : Bool := (List.range 40).all fun h => [(false, false), (false, true), (true, false), (true, true)].all fun x => chk1 x.1 x.2 h 60 0 0 ⟨0, 2, 0, false, false, false⟩
theorem chk_all : chkAll = true := by kernel_rfl
theorem chk_of (masked nmi : Bool) {h : Nat} (hh : h < 40) : chk1 masked nmi h 60 0 0 ⟨0, 2, 0, false, false, false⟩ = true := by
  have h1 := List.all_eq_true.1 chk_all h (List.mem_range.2 hh)
  exact List.all_eq_true.1 h1 (masked, nmi) (by cases masked <;> cases nmi <;> simp)
end Go.Proofs.YtmnhmplcpijanaaGreat
