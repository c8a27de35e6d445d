/-
  The functions of layer 8, of the program: each as a Lean function, and that the Go code comes to its answers. Written by gen_alu.py. No condition.
-/
import Derived.Test.YtfjeifmenlnkkaaVL
import Derived.Test.YtfjeifmenlnkkaaRows
namespace Go.Proofs.Ytfjeifmenlnkkaa
open Go VX
set_option linter.unusedVariables false
set_option maxRecDepth 100000

theorem hG : Try.prog.globals.size ≤ 1000 := of_decide_eq_true (by kernel_rfl)
theorem hM : Try.prog.follows .mixedOrders = true := by kernel_rfl
theorem bt (b : Bool) : b = true ∨ b = false := by cases b <;> simp
theorem nt {b : Bool} (h : b = false) : ¬ b = true := by rw [h]; decide
theorem beq_no {a b : Int} (h : a ≠ b) : (a == b) = false := by simpa using h
theorem bne_yes {a b : Int} (h : a ≠ b) : (a != b) = true := by simpa using h

structure Unit where
  A : Int
  X : Int
  Y : Int
  S : Int
  P : Int
def Unit.enc (s : Unit) : Value := .agg ⟨[.int .u8 s.A, .int .u8 s.X, .int .u8 s.Y, .int .u8 s.S, .int .u8 s.P]⟩

structure RUnit where
  A : Int
  X : Int
  Y : Int
  S : Int
  P : Int
def RUnit.enc (s : RUnit) : Value := .agg ⟨[.int .i64 s.A, .int .i64 s.X, .int .i64 s.Y, .int .i64 s.S, .int .i64 s.P]⟩

/-- (kotatsu/alu.Unit).Flag -/
def uFlag (u : Unit) (bit : Int) (on : Bool) : Unit :=
  if on = true then
    ({ A := u.A, X := u.X, Y := u.Y, S := u.S, P := (bOr .u8 (bAndNot .u8 u.P bit) bit) } : Unit)
  else
    ({ A := u.A, X := u.X, Y := u.Y, S := u.S, P := (bAndNot .u8 u.P bit) } : Unit)
theorem uFlag_p1 (u : Unit) (bit : Int) (on : Bool) (c1 : on = true) : FnSpec Try.prog 20 1000 [Unit.enc u, .int .u8 bit, .bool on] [] (Unit.enc ({ A := u.A, X := u.X, Y := u.Y, S := u.S, P := (bOr .u8 (bAndNot .u8 u.P bit) bit) } : Unit)) [] := by
  exact fn_of_x hG hM Try.func20 (by kernel_rfl) (by kernel_rfl) 400 [.yes] (And.intro c1 trivial) (by kernel_rfl)
theorem uFlag_p2 (u : Unit) (bit : Int) (on : Bool) (c1 : on = false) : FnSpec Try.prog 20 1000 [Unit.enc u, .int .u8 bit, .bool on] [] (Unit.enc ({ A := u.A, X := u.X, Y := u.Y, S := u.S, P := (bAndNot .u8 u.P bit) } : Unit)) [] := by
  exact fn_of_x hG hM Try.func20 (by kernel_rfl) (by kernel_rfl) 400 [.no] (And.intro c1 trivial) (by kernel_rfl)
theorem uFlag_ok (u : Unit) (bit : Int) (on : Bool) : FnSpec Try.prog 20 1000 [Unit.enc u, .int .u8 bit, .bool on] [] (Unit.enc (uFlag u bit on)) [] := by
  rcases bt on with c1 | c1
  ·
    have e : uFlag u bit on = ({ A := u.A, X := u.X, Y := u.Y, S := u.S, P := (bOr .u8 (bAndNot .u8 u.P bit) bit) } : Unit) := by unfold uFlag; rw [if_pos c1]
    rw [e]
    exact uFlag_p1 u bit on c1
  ·
    have e : uFlag u bit on = ({ A := u.A, X := u.X, Y := u.Y, S := u.S, P := (bAndNot .u8 u.P bit) } : Unit) := by unfold uFlag; rw [if_neg (nt c1)]
    rw [e]
    exact uFlag_p2 u bit on c1

/-- (kotatsu/alu.Unit).sign -/
def uSign (u : Unit) (m : Int) : Unit :=
  (uFlag (uFlag u 128 (((bAnd .u8 m 128) : Int) != 0)) 2 ((m : Int) == 0))
theorem uSign_p1 (u : Unit) (m : Int) : FnSpec Try.prog 77 1000 [Unit.enc u, .int .u8 m] [] (Unit.enc (uFlag (uFlag u 128 (((bAnd .u8 m 128) : Int) != 0)) 2 ((m : Int) == 0))) [] := by
  exact fn_of_x hG hM Try.func77 (by kernel_rfl) (by kernel_rfl) 400 [.call [] [] 1000 (Unit.enc (uFlag u 128 (((bAnd .u8 m 128) : Int) != 0))) [], .call [] [] 1000 (Unit.enc (uFlag (uFlag u 128 (((bAnd .u8 m 128) : Int) != 0)) 2 ((m : Int) == 0))) []] (And.intro (uFlag_ok u 128 (((bAnd .u8 m 128) : Int) != 0)) (And.intro (uFlag_ok (uFlag u 128 (((bAnd .u8 m 128) : Int) != 0)) 2 ((m : Int) == 0)) trivial)) (by kernel_rfl)
theorem uSign_ok (u : Unit) (m : Int) : FnSpec Try.prog 77 1000 [Unit.enc u, .int .u8 m] [] (Unit.enc (uSign u m)) [] := by
  exact uSign_p1 u m

/-- (kotatsu/alu.Unit).load -/
def uLoad (u : Unit) (m : Int) : Unit :=
  (uSign ({ A := m, X := u.X, Y := u.Y, S := u.S, P := u.P } : Unit) m)
theorem uLoad_p1 (u : Unit) (m : Int) : FnSpec Try.prog 56 1000 [Unit.enc u, .int .u8 m] [] (Unit.enc (uSign ({ A := m, X := u.X, Y := u.Y, S := u.S, P := u.P } : Unit) m)) [] := by
  exact fn_of_x hG hM Try.func56 (by kernel_rfl) (by kernel_rfl) 400 [.call [] [] 1000 (Unit.enc (uSign ({ A := m, X := u.X, Y := u.Y, S := u.S, P := u.P } : Unit) m)) []] (And.intro (uSign_ok ({ A := m, X := u.X, Y := u.Y, S := u.S, P := u.P } : Unit) m) trivial) (by kernel_rfl)
theorem uLoad_ok (u : Unit) (m : Int) : FnSpec Try.prog 56 1000 [Unit.enc u, .int .u8 m] [] (Unit.enc (uLoad u m)) [] := by
  exact uLoad_p1 u m

/-- (kotatsu/alu.Unit).nop -/
def u_nop (u : Unit) (m : Int) : Unit :=
  u
theorem u_nop_p1 (u : Unit) (m : Int) : FnSpec Try.prog 60 1000 [Unit.enc u, .int .u8 m] [] (Unit.enc u) [] := by
  exact fn_of_x hG hM Try.func60 (by kernel_rfl) (by kernel_rfl) 400 [] trivial (by kernel_rfl)
theorem u_nop_ok (u : Unit) (m : Int) : FnSpec Try.prog 60 1000 [Unit.enc u, .int .u8 m] [] (Unit.enc (u_nop u m)) [] := by
  exact u_nop_p1 u m

/-- (kotatsu/alu.Unit).ora -/
def u_ora (u : Unit) (m : Int) : Unit :=
  (uLoad u (bOr .u8 u.A m))
theorem u_ora_p1 (u : Unit) (m : Int) : FnSpec Try.prog 61 1000 [Unit.enc u, .int .u8 m] [] (Unit.enc (uLoad u (bOr .u8 u.A m))) [] := by
  exact fn_of_x hG hM Try.func61 (by kernel_rfl) (by kernel_rfl) 400 [.call [] [] 1000 (Unit.enc (uLoad u (bOr .u8 u.A m))) []] (And.intro (uLoad_ok u (bOr .u8 u.A m)) trivial) (by kernel_rfl)
theorem u_ora_ok (u : Unit) (m : Int) : FnSpec Try.prog 61 1000 [Unit.enc u, .int .u8 m] [] (Unit.enc (u_ora u m)) [] := by
  exact u_ora_p1 u m

/-- (kotatsu/alu.Unit).and -/
def u_and (u : Unit) (m : Int) : Unit :=
  (uLoad u (bAnd .u8 u.A m))
theorem u_and_p1 (u : Unit) (m : Int) : FnSpec Try.prog 62 1000 [Unit.enc u, .int .u8 m] [] (Unit.enc (uLoad u (bAnd .u8 u.A m))) [] := by
  exact fn_of_x hG hM Try.func62 (by kernel_rfl) (by kernel_rfl) 400 [.call [] [] 1000 (Unit.enc (uLoad u (bAnd .u8 u.A m))) []] (And.intro (uLoad_ok u (bAnd .u8 u.A m)) trivial) (by kernel_rfl)
theorem u_and_ok (u : Unit) (m : Int) : FnSpec Try.prog 62 1000 [Unit.enc u, .int .u8 m] [] (Unit.enc (u_and u m)) [] := by
  exact u_and_p1 u m

/-- (kotatsu/alu.Unit).eor -/
def u_eor (u : Unit) (m : Int) : Unit :=
  (uLoad u (bXor .u8 u.A m))
theorem u_eor_p1 (u : Unit) (m : Int) : FnSpec Try.prog 63 1000 [Unit.enc u, .int .u8 m] [] (Unit.enc (uLoad u (bXor .u8 u.A m))) [] := by
  exact fn_of_x hG hM Try.func63 (by kernel_rfl) (by kernel_rfl) 400 [.call [] [] 1000 (Unit.enc (uLoad u (bXor .u8 u.A m))) []] (And.intro (uLoad_ok u (bXor .u8 u.A m)) trivial) (by kernel_rfl)
theorem u_eor_ok (u : Unit) (m : Int) : FnSpec Try.prog 63 1000 [Unit.enc u, .int .u8 m] [] (Unit.enc (u_eor u m)) [] := by
  exact u_eor_p1 u m

/-- (kotatsu/alu.Unit).adc -/
def u_adc (u : Unit) (m : Int) : Unit :=
  (uLoad (uFlag (uFlag u 1 (decide (((IntKind.u16.wrap ((IntKind.u16.wrap ((IntKind.u16.wrap u.A) + (IntKind.u16.wrap m))) + (IntKind.u16.wrap (bAnd .u8 u.P 1)))) : Int) > 255))) 64 (((bAnd .u8 (bAnd .u8 (bXor .u8 u.A (IntKind.u8.wrap (IntKind.u16.wrap ((IntKind.u16.wrap ((IntKind.u16.wrap u.A) + (IntKind.u16.wrap m))) + (IntKind.u16.wrap (bAnd .u8 u.P 1)))))) (bXor .u8 m (IntKind.u8.wrap (IntKind.u16.wrap ((IntKind.u16.wrap ((IntKind.u16.wrap u.A) + (IntKind.u16.wrap m))) + (IntKind.u16.wrap (bAnd .u8 u.P 1))))))) 128) : Int) != 0)) (IntKind.u8.wrap (IntKind.u16.wrap ((IntKind.u16.wrap ((IntKind.u16.wrap u.A) + (IntKind.u16.wrap m))) + (IntKind.u16.wrap (bAnd .u8 u.P 1))))))
theorem u_adc_p1 (u : Unit) (m : Int) : FnSpec Try.prog 64 1000 [Unit.enc u, .int .u8 m] [] (Unit.enc (uLoad (uFlag (uFlag u 1 (decide (((IntKind.u16.wrap ((IntKind.u16.wrap ((IntKind.u16.wrap u.A) + (IntKind.u16.wrap m))) + (IntKind.u16.wrap (bAnd .u8 u.P 1)))) : Int) > 255))) 64 (((bAnd .u8 (bAnd .u8 (bXor .u8 u.A (IntKind.u8.wrap (IntKind.u16.wrap ((IntKind.u16.wrap ((IntKind.u16.wrap u.A) + (IntKind.u16.wrap m))) + (IntKind.u16.wrap (bAnd .u8 u.P 1)))))) (bXor .u8 m (IntKind.u8.wrap (IntKind.u16.wrap ((IntKind.u16.wrap ((IntKind.u16.wrap u.A) + (IntKind.u16.wrap m))) + (IntKind.u16.wrap (bAnd .u8 u.P 1))))))) 128) : Int) != 0)) (IntKind.u8.wrap (IntKind.u16.wrap ((IntKind.u16.wrap ((IntKind.u16.wrap u.A) + (IntKind.u16.wrap m))) + (IntKind.u16.wrap (bAnd .u8 u.P 1))))))) [] := by
  exact fn_of_x hG hM Try.func64 (by kernel_rfl) (by kernel_rfl) 400 [.call [] [] 1000 (Unit.enc (uFlag u 1 (decide (((IntKind.u16.wrap ((IntKind.u16.wrap ((IntKind.u16.wrap u.A) + (IntKind.u16.wrap m))) + (IntKind.u16.wrap (bAnd .u8 u.P 1)))) : Int) > 255)))) [], .call [] [] 1000 (Unit.enc (uFlag (uFlag u 1 (decide (((IntKind.u16.wrap ((IntKind.u16.wrap ((IntKind.u16.wrap u.A) + (IntKind.u16.wrap m))) + (IntKind.u16.wrap (bAnd .u8 u.P 1)))) : Int) > 255))) 64 (((bAnd .u8 (bAnd .u8 (bXor .u8 u.A (IntKind.u8.wrap (IntKind.u16.wrap ((IntKind.u16.wrap ((IntKind.u16.wrap u.A) + (IntKind.u16.wrap m))) + (IntKind.u16.wrap (bAnd .u8 u.P 1)))))) (bXor .u8 m (IntKind.u8.wrap (IntKind.u16.wrap ((IntKind.u16.wrap ((IntKind.u16.wrap u.A) + (IntKind.u16.wrap m))) + (IntKind.u16.wrap (bAnd .u8 u.P 1))))))) 128) : Int) != 0))) [], .call [] [] 1000 (Unit.enc (uLoad (uFlag (uFlag u 1 (decide (((IntKind.u16.wrap ((IntKind.u16.wrap ((IntKind.u16.wrap u.A) + (IntKind.u16.wrap m))) + (IntKind.u16.wrap (bAnd .u8 u.P 1)))) : Int) > 255))) 64 (((bAnd .u8 (bAnd .u8 (bXor .u8 u.A (IntKind.u8.wrap (IntKind.u16.wrap ((IntKind.u16.wrap ((IntKind.u16.wrap u.A) + (IntKind.u16.wrap m))) + (IntKind.u16.wrap (bAnd .u8 u.P 1)))))) (bXor .u8 m (IntKind.u8.wrap (IntKind.u16.wrap ((IntKind.u16.wrap ((IntKind.u16.wrap u.A) + (IntKind.u16.wrap m))) + (IntKind.u16.wrap (bAnd .u8 u.P 1))))))) 128) : Int) != 0)) (IntKind.u8.wrap (IntKind.u16.wrap ((IntKind.u16.wrap ((IntKind.u16.wrap u.A) + (IntKind.u16.wrap m))) + (IntKind.u16.wrap (bAnd .u8 u.P 1))))))) []] (And.intro (uFlag_ok u 1 (decide (((IntKind.u16.wrap ((IntKind.u16.wrap ((IntKind.u16.wrap u.A) + (IntKind.u16.wrap m))) + (IntKind.u16.wrap (bAnd .u8 u.P 1)))) : Int) > 255))) (And.intro (uFlag_ok (uFlag u 1 (decide (((IntKind.u16.wrap ((IntKind.u16.wrap ((IntKind.u16.wrap u.A) + (IntKind.u16.wrap m))) + (IntKind.u16.wrap (bAnd .u8 u.P 1)))) : Int) > 255))) 64 (((bAnd .u8 (bAnd .u8 (bXor .u8 u.A (IntKind.u8.wrap (IntKind.u16.wrap ((IntKind.u16.wrap ((IntKind.u16.wrap u.A) + (IntKind.u16.wrap m))) + (IntKind.u16.wrap (bAnd .u8 u.P 1)))))) (bXor .u8 m (IntKind.u8.wrap (IntKind.u16.wrap ((IntKind.u16.wrap ((IntKind.u16.wrap u.A) + (IntKind.u16.wrap m))) + (IntKind.u16.wrap (bAnd .u8 u.P 1))))))) 128) : Int) != 0)) (And.intro (uLoad_ok (uFlag (uFlag u 1 (decide (((IntKind.u16.wrap ((IntKind.u16.wrap ((IntKind.u16.wrap u.A) + (IntKind.u16.wrap m))) + (IntKind.u16.wrap (bAnd .u8 u.P 1)))) : Int) > 255))) 64 (((bAnd .u8 (bAnd .u8 (bXor .u8 u.A (IntKind.u8.wrap (IntKind.u16.wrap ((IntKind.u16.wrap ((IntKind.u16.wrap u.A) + (IntKind.u16.wrap m))) + (IntKind.u16.wrap (bAnd .u8 u.P 1)))))) (bXor .u8 m (IntKind.u8.wrap (IntKind.u16.wrap ((IntKind.u16.wrap ((IntKind.u16.wrap u.A) + (IntKind.u16.wrap m))) + (IntKind.u16.wrap (bAnd .u8 u.P 1))))))) 128) : Int) != 0)) (IntKind.u8.wrap (IntKind.u16.wrap ((IntKind.u16.wrap ((IntKind.u16.wrap u.A) + (IntKind.u16.wrap m))) + (IntKind.u16.wrap (bAnd .u8 u.P 1)))))) trivial))) (by kernel_rfl)
theorem u_adc_ok (u : Unit) (m : Int) : FnSpec Try.prog 64 1000 [Unit.enc u, .int .u8 m] [] (Unit.enc (u_adc u m)) [] := by
  exact u_adc_p1 u m

/-- (kotatsu/alu.Unit).sbc -/
def u_sbc (u : Unit) (m : Int) : Unit :=
  (u_adc u (bXor .u8 255 m))
theorem u_sbc_p1 (u : Unit) (m : Int) : FnSpec Try.prog 65 1000 [Unit.enc u, .int .u8 m] [] (Unit.enc (u_adc u (bXor .u8 255 m))) [] := by
  exact fn_of_x hG hM Try.func65 (by kernel_rfl) (by kernel_rfl) 400 [.call [] [] 1000 (Unit.enc (u_adc u (bXor .u8 255 m))) []] (And.intro (u_adc_ok u (bXor .u8 255 m)) trivial) (by kernel_rfl)
theorem u_sbc_ok (u : Unit) (m : Int) : FnSpec Try.prog 65 1000 [Unit.enc u, .int .u8 m] [] (Unit.enc (u_sbc u m)) [] := by
  exact u_sbc_p1 u m

/-- (kotatsu/alu.Unit).compare -/
def uCompare (u : Unit) (r : Int) (m : Int) : Unit :=
  (uSign (uFlag u 1 (decide ((r : Int) ≥ m))) (IntKind.u8.wrap (r - m)))
theorem uCompare_p1 (u : Unit) (r : Int) (m : Int) : FnSpec Try.prog 79 1000 [Unit.enc u, .int .u8 r, .int .u8 m] [] (Unit.enc (uSign (uFlag u 1 (decide ((r : Int) ≥ m))) (IntKind.u8.wrap (r - m)))) [] := by
  exact fn_of_x hG hM Try.func79 (by kernel_rfl) (by kernel_rfl) 400 [.call [] [] 1000 (Unit.enc (uFlag u 1 (decide ((r : Int) ≥ m)))) [], .call [] [] 1000 (Unit.enc (uSign (uFlag u 1 (decide ((r : Int) ≥ m))) (IntKind.u8.wrap (r - m)))) []] (And.intro (uFlag_ok u 1 (decide ((r : Int) ≥ m))) (And.intro (uSign_ok (uFlag u 1 (decide ((r : Int) ≥ m))) (IntKind.u8.wrap (r - m))) trivial)) (by kernel_rfl)
theorem uCompare_ok (u : Unit) (r : Int) (m : Int) : FnSpec Try.prog 79 1000 [Unit.enc u, .int .u8 r, .int .u8 m] [] (Unit.enc (uCompare u r m)) [] := by
  exact uCompare_p1 u r m

/-- (kotatsu/alu.Unit).cmp -/
def u_cmp (u : Unit) (m : Int) : Unit :=
  (uCompare u u.A m)
theorem u_cmp_p1 (u : Unit) (m : Int) : FnSpec Try.prog 66 1000 [Unit.enc u, .int .u8 m] [] (Unit.enc (uCompare u u.A m)) [] := by
  exact fn_of_x hG hM Try.func66 (by kernel_rfl) (by kernel_rfl) 400 [.call [] [] 1000 (Unit.enc (uCompare u u.A m)) []] (And.intro (uCompare_ok u u.A m) trivial) (by kernel_rfl)
theorem u_cmp_ok (u : Unit) (m : Int) : FnSpec Try.prog 66 1000 [Unit.enc u, .int .u8 m] [] (Unit.enc (u_cmp u m)) [] := by
  exact u_cmp_p1 u m

/-- (kotatsu/alu.Unit).cpx -/
def u_cpx (u : Unit) (m : Int) : Unit :=
  (uCompare u u.X m)
theorem u_cpx_p1 (u : Unit) (m : Int) : FnSpec Try.prog 67 1000 [Unit.enc u, .int .u8 m] [] (Unit.enc (uCompare u u.X m)) [] := by
  exact fn_of_x hG hM Try.func67 (by kernel_rfl) (by kernel_rfl) 400 [.call [] [] 1000 (Unit.enc (uCompare u u.X m)) []] (And.intro (uCompare_ok u u.X m) trivial) (by kernel_rfl)
theorem u_cpx_ok (u : Unit) (m : Int) : FnSpec Try.prog 67 1000 [Unit.enc u, .int .u8 m] [] (Unit.enc (u_cpx u m)) [] := by
  exact u_cpx_p1 u m

/-- (kotatsu/alu.Unit).cpy -/
def u_cpy (u : Unit) (m : Int) : Unit :=
  (uCompare u u.Y m)
theorem u_cpy_p1 (u : Unit) (m : Int) : FnSpec Try.prog 68 1000 [Unit.enc u, .int .u8 m] [] (Unit.enc (uCompare u u.Y m)) [] := by
  exact fn_of_x hG hM Try.func68 (by kernel_rfl) (by kernel_rfl) 400 [.call [] [] 1000 (Unit.enc (uCompare u u.Y m)) []] (And.intro (uCompare_ok u u.Y m) trivial) (by kernel_rfl)
theorem u_cpy_ok (u : Unit) (m : Int) : FnSpec Try.prog 68 1000 [Unit.enc u, .int .u8 m] [] (Unit.enc (u_cpy u m)) [] := by
  exact u_cpy_p1 u m

/-- (kotatsu/alu.Unit).ldx -/
def u_ldx (u : Unit) (m : Int) : Unit :=
  (uSign ({ A := u.A, X := m, Y := u.Y, S := u.S, P := u.P } : Unit) m)
theorem u_ldx_p1 (u : Unit) (m : Int) : FnSpec Try.prog 54 1000 [Unit.enc u, .int .u8 m] [] (Unit.enc (uSign ({ A := u.A, X := m, Y := u.Y, S := u.S, P := u.P } : Unit) m)) [] := by
  exact fn_of_x hG hM Try.func54 (by kernel_rfl) (by kernel_rfl) 400 [.call [] [] 1000 (Unit.enc (uSign ({ A := u.A, X := m, Y := u.Y, S := u.S, P := u.P } : Unit) m)) []] (And.intro (uSign_ok ({ A := u.A, X := m, Y := u.Y, S := u.S, P := u.P } : Unit) m) trivial) (by kernel_rfl)
theorem u_ldx_ok (u : Unit) (m : Int) : FnSpec Try.prog 54 1000 [Unit.enc u, .int .u8 m] [] (Unit.enc (u_ldx u m)) [] := by
  exact u_ldx_p1 u m

/-- (kotatsu/alu.Unit).ldy -/
def u_ldy (u : Unit) (m : Int) : Unit :=
  (uSign ({ A := u.A, X := u.X, Y := m, S := u.S, P := u.P } : Unit) m)
theorem u_ldy_p1 (u : Unit) (m : Int) : FnSpec Try.prog 55 1000 [Unit.enc u, .int .u8 m] [] (Unit.enc (uSign ({ A := u.A, X := u.X, Y := m, S := u.S, P := u.P } : Unit) m)) [] := by
  exact fn_of_x hG hM Try.func55 (by kernel_rfl) (by kernel_rfl) 400 [.call [] [] 1000 (Unit.enc (uSign ({ A := u.A, X := u.X, Y := m, S := u.S, P := u.P } : Unit) m)) []] (And.intro (uSign_ok ({ A := u.A, X := u.X, Y := m, S := u.S, P := u.P } : Unit) m) trivial) (by kernel_rfl)
theorem u_ldy_ok (u : Unit) (m : Int) : FnSpec Try.prog 55 1000 [Unit.enc u, .int .u8 m] [] (Unit.enc (u_ldy u m)) [] := by
  exact u_ldy_p1 u m

/-- (kotatsu/alu.Unit).bit -/
def u_bit (u : Unit) (m : Int) : Unit :=
  (uFlag (uFlag (uFlag u 128 (((bAnd .u8 m 128) : Int) != 0)) 64 (((bAnd .u8 m 64) : Int) != 0)) 2 (((bAnd .u8 u.A m) : Int) == 0))
theorem u_bit_p1 (u : Unit) (m : Int) : FnSpec Try.prog 69 1000 [Unit.enc u, .int .u8 m] [] (Unit.enc (uFlag (uFlag (uFlag u 128 (((bAnd .u8 m 128) : Int) != 0)) 64 (((bAnd .u8 m 64) : Int) != 0)) 2 (((bAnd .u8 u.A m) : Int) == 0))) [] := by
  exact fn_of_x hG hM Try.func69 (by kernel_rfl) (by kernel_rfl) 400 [.call [] [] 1000 (Unit.enc (uFlag u 128 (((bAnd .u8 m 128) : Int) != 0))) [], .call [] [] 1000 (Unit.enc (uFlag (uFlag u 128 (((bAnd .u8 m 128) : Int) != 0)) 64 (((bAnd .u8 m 64) : Int) != 0))) [], .call [] [] 1000 (Unit.enc (uFlag (uFlag (uFlag u 128 (((bAnd .u8 m 128) : Int) != 0)) 64 (((bAnd .u8 m 64) : Int) != 0)) 2 (((bAnd .u8 u.A m) : Int) == 0))) []] (And.intro (uFlag_ok u 128 (((bAnd .u8 m 128) : Int) != 0)) (And.intro (uFlag_ok (uFlag u 128 (((bAnd .u8 m 128) : Int) != 0)) 64 (((bAnd .u8 m 64) : Int) != 0)) (And.intro (uFlag_ok (uFlag (uFlag u 128 (((bAnd .u8 m 128) : Int) != 0)) 64 (((bAnd .u8 m 64) : Int) != 0)) 2 (((bAnd .u8 u.A m) : Int) == 0)) trivial))) (by kernel_rfl)
theorem u_bit_ok (u : Unit) (m : Int) : FnSpec Try.prog 69 1000 [Unit.enc u, .int .u8 m] [] (Unit.enc (u_bit u m)) [] := by
  exact u_bit_p1 u m

/-- (kotatsu/alu.Unit).lax -/
def u_lax (u : Unit) (m : Int) : Unit :=
  (uLoad ({ A := u.A, X := m, Y := u.Y, S := u.S, P := u.P } : Unit) m)
theorem u_lax_p1 (u : Unit) (m : Int) : FnSpec Try.prog 70 1000 [Unit.enc u, .int .u8 m] [] (Unit.enc (uLoad ({ A := u.A, X := m, Y := u.Y, S := u.S, P := u.P } : Unit) m)) [] := by
  exact fn_of_x hG hM Try.func70 (by kernel_rfl) (by kernel_rfl) 400 [.call [] [] 1000 (Unit.enc (uLoad ({ A := u.A, X := m, Y := u.Y, S := u.S, P := u.P } : Unit) m)) []] (And.intro (uLoad_ok ({ A := u.A, X := m, Y := u.Y, S := u.S, P := u.P } : Unit) m) trivial) (by kernel_rfl)
theorem u_lax_ok (u : Unit) (m : Int) : FnSpec Try.prog 70 1000 [Unit.enc u, .int .u8 m] [] (Unit.enc (u_lax u m)) [] := by
  exact u_lax_p1 u m

/-- (kotatsu/alu.Unit).shifted -/
def uShifted (u : Unit) (m : Int) (out : Bool) : Unit × Int :=
  ((uSign (uFlag u 1 out) m), m)
theorem uShifted_p1 (u : Unit) (m : Int) (out : Bool) : FnSpec Try.prog 76 1000 [Unit.enc u, .int .u8 m, .bool out] [] (.tuple ⟨[Unit.enc (((uSign (uFlag u 1 out) m), m).1), .int .u8 (((uSign (uFlag u 1 out) m), m).2)]⟩) [] := by
  exact fn_of_x hG hM Try.func76 (by kernel_rfl) (by kernel_rfl) 400 [.call [] [] 1000 (Unit.enc (uFlag u 1 out)) [], .call [] [] 1000 (Unit.enc (uSign (uFlag u 1 out) m)) []] (And.intro (uFlag_ok u 1 out) (And.intro (uSign_ok (uFlag u 1 out) m) trivial)) (by kernel_rfl)
theorem uShifted_ok (u : Unit) (m : Int) (out : Bool) : FnSpec Try.prog 76 1000 [Unit.enc u, .int .u8 m, .bool out] [] (.tuple ⟨[Unit.enc ((uShifted u m out).1), .int .u8 ((uShifted u m out).2)]⟩) [] := by
  exact uShifted_p1 u m out

/-- (kotatsu/alu.Unit).asl -/
def u_asl (u : Unit) (m : Int) : Unit × Int :=
  (((uShifted u (bShl .u8 m 1) (((bAnd .u8 m 128) : Int) != 0)).1), (uShifted u (bShl .u8 m 1) (((bAnd .u8 m 128) : Int) != 0)).2)
theorem u_asl_p1 (u : Unit) (m : Int) : FnSpec Try.prog 42 1000 [Unit.enc u, .int .u8 m] [] (.tuple ⟨[Unit.enc ((((uShifted u (bShl .u8 m 1) (((bAnd .u8 m 128) : Int) != 0)).1), (uShifted u (bShl .u8 m 1) (((bAnd .u8 m 128) : Int) != 0)).2).1), .int .u8 ((((uShifted u (bShl .u8 m 1) (((bAnd .u8 m 128) : Int) != 0)).1), (uShifted u (bShl .u8 m 1) (((bAnd .u8 m 128) : Int) != 0)).2).2)]⟩) [] := by
  exact fn_of_x hG hM Try.func42 (by kernel_rfl) (by kernel_rfl) 400 [.call [] [] 1000 (.tuple ⟨[Unit.enc ((uShifted u (bShl .u8 m 1) (((bAnd .u8 m 128) : Int) != 0)).1), .int .u8 ((uShifted u (bShl .u8 m 1) (((bAnd .u8 m 128) : Int) != 0)).2)]⟩) []] (And.intro (by decide : (0 : Int) ≤ 1) (And.intro (uShifted_ok u (bShl .u8 m 1) (((bAnd .u8 m 128) : Int) != 0)) trivial)) (by kernel_rfl)
theorem u_asl_ok (u : Unit) (m : Int) : FnSpec Try.prog 42 1000 [Unit.enc u, .int .u8 m] [] (.tuple ⟨[Unit.enc ((u_asl u m).1), .int .u8 ((u_asl u m).2)]⟩) [] := by
  exact u_asl_p1 u m

/-- (kotatsu/alu.Unit).lsr -/
def u_lsr (u : Unit) (m : Int) : Unit × Int :=
  (((uShifted u (bShr .u8 m 1) (((bAnd .u8 m 1) : Int) != 0)).1), (uShifted u (bShr .u8 m 1) (((bAnd .u8 m 1) : Int) != 0)).2)
theorem u_lsr_p1 (u : Unit) (m : Int) : FnSpec Try.prog 43 1000 [Unit.enc u, .int .u8 m] [] (.tuple ⟨[Unit.enc ((((uShifted u (bShr .u8 m 1) (((bAnd .u8 m 1) : Int) != 0)).1), (uShifted u (bShr .u8 m 1) (((bAnd .u8 m 1) : Int) != 0)).2).1), .int .u8 ((((uShifted u (bShr .u8 m 1) (((bAnd .u8 m 1) : Int) != 0)).1), (uShifted u (bShr .u8 m 1) (((bAnd .u8 m 1) : Int) != 0)).2).2)]⟩) [] := by
  exact fn_of_x hG hM Try.func43 (by kernel_rfl) (by kernel_rfl) 400 [.call [] [] 1000 (.tuple ⟨[Unit.enc ((uShifted u (bShr .u8 m 1) (((bAnd .u8 m 1) : Int) != 0)).1), .int .u8 ((uShifted u (bShr .u8 m 1) (((bAnd .u8 m 1) : Int) != 0)).2)]⟩) []] (And.intro (by decide : (0 : Int) ≤ 1) (And.intro (uShifted_ok u (bShr .u8 m 1) (((bAnd .u8 m 1) : Int) != 0)) trivial)) (by kernel_rfl)
theorem u_lsr_ok (u : Unit) (m : Int) : FnSpec Try.prog 43 1000 [Unit.enc u, .int .u8 m] [] (.tuple ⟨[Unit.enc ((u_lsr u m).1), .int .u8 ((u_lsr u m).2)]⟩) [] := by
  exact u_lsr_p1 u m

/-- (kotatsu/alu.Unit).rol -/
def u_rol (u : Unit) (m : Int) : Unit × Int :=
  (((uShifted u (bOr .u8 (bShl .u8 m 1) (bAnd .u8 u.P 1)) (((bAnd .u8 m 128) : Int) != 0)).1), (uShifted u (bOr .u8 (bShl .u8 m 1) (bAnd .u8 u.P 1)) (((bAnd .u8 m 128) : Int) != 0)).2)
theorem u_rol_p1 (u : Unit) (m : Int) : FnSpec Try.prog 44 1000 [Unit.enc u, .int .u8 m] [] (.tuple ⟨[Unit.enc ((((uShifted u (bOr .u8 (bShl .u8 m 1) (bAnd .u8 u.P 1)) (((bAnd .u8 m 128) : Int) != 0)).1), (uShifted u (bOr .u8 (bShl .u8 m 1) (bAnd .u8 u.P 1)) (((bAnd .u8 m 128) : Int) != 0)).2).1), .int .u8 ((((uShifted u (bOr .u8 (bShl .u8 m 1) (bAnd .u8 u.P 1)) (((bAnd .u8 m 128) : Int) != 0)).1), (uShifted u (bOr .u8 (bShl .u8 m 1) (bAnd .u8 u.P 1)) (((bAnd .u8 m 128) : Int) != 0)).2).2)]⟩) [] := by
  exact fn_of_x hG hM Try.func44 (by kernel_rfl) (by kernel_rfl) 400 [.call [] [] 1000 (.tuple ⟨[Unit.enc ((uShifted u (bOr .u8 (bShl .u8 m 1) (bAnd .u8 u.P 1)) (((bAnd .u8 m 128) : Int) != 0)).1), .int .u8 ((uShifted u (bOr .u8 (bShl .u8 m 1) (bAnd .u8 u.P 1)) (((bAnd .u8 m 128) : Int) != 0)).2)]⟩) []] (And.intro (by decide : (0 : Int) ≤ 1) (And.intro (uShifted_ok u (bOr .u8 (bShl .u8 m 1) (bAnd .u8 u.P 1)) (((bAnd .u8 m 128) : Int) != 0)) trivial)) (by kernel_rfl)
theorem u_rol_ok (u : Unit) (m : Int) : FnSpec Try.prog 44 1000 [Unit.enc u, .int .u8 m] [] (.tuple ⟨[Unit.enc ((u_rol u m).1), .int .u8 ((u_rol u m).2)]⟩) [] := by
  exact u_rol_p1 u m

/-- (kotatsu/alu.Unit).ror -/
def u_ror (u : Unit) (m : Int) : Unit × Int :=
  (((uShifted u (bOr .u8 (bShr .u8 m 1) (bShl .u8 (bAnd .u8 u.P 1) 7)) (((bAnd .u8 m 1) : Int) != 0)).1), (uShifted u (bOr .u8 (bShr .u8 m 1) (bShl .u8 (bAnd .u8 u.P 1) 7)) (((bAnd .u8 m 1) : Int) != 0)).2)
theorem u_ror_p1 (u : Unit) (m : Int) : FnSpec Try.prog 45 1000 [Unit.enc u, .int .u8 m] [] (.tuple ⟨[Unit.enc ((((uShifted u (bOr .u8 (bShr .u8 m 1) (bShl .u8 (bAnd .u8 u.P 1) 7)) (((bAnd .u8 m 1) : Int) != 0)).1), (uShifted u (bOr .u8 (bShr .u8 m 1) (bShl .u8 (bAnd .u8 u.P 1) 7)) (((bAnd .u8 m 1) : Int) != 0)).2).1), .int .u8 ((((uShifted u (bOr .u8 (bShr .u8 m 1) (bShl .u8 (bAnd .u8 u.P 1) 7)) (((bAnd .u8 m 1) : Int) != 0)).1), (uShifted u (bOr .u8 (bShr .u8 m 1) (bShl .u8 (bAnd .u8 u.P 1) 7)) (((bAnd .u8 m 1) : Int) != 0)).2).2)]⟩) [] := by
  exact fn_of_x hG hM Try.func45 (by kernel_rfl) (by kernel_rfl) 400 [.call [] [] 1000 (.tuple ⟨[Unit.enc ((uShifted u (bOr .u8 (bShr .u8 m 1) (bShl .u8 (bAnd .u8 u.P 1) 7)) (((bAnd .u8 m 1) : Int) != 0)).1), .int .u8 ((uShifted u (bOr .u8 (bShr .u8 m 1) (bShl .u8 (bAnd .u8 u.P 1) 7)) (((bAnd .u8 m 1) : Int) != 0)).2)]⟩) []] (And.intro (by decide : (0 : Int) ≤ 1) (And.intro (by decide : (0 : Int) ≤ 7) (And.intro (uShifted_ok u (bOr .u8 (bShr .u8 m 1) (bShl .u8 (bAnd .u8 u.P 1) 7)) (((bAnd .u8 m 1) : Int) != 0)) trivial))) (by kernel_rfl)
theorem u_ror_ok (u : Unit) (m : Int) : FnSpec Try.prog 45 1000 [Unit.enc u, .int .u8 m] [] (.tuple ⟨[Unit.enc ((u_ror u m).1), .int .u8 ((u_ror u m).2)]⟩) [] := by
  exact u_ror_p1 u m

/-- (kotatsu/alu.Unit).inc -/
def u_inc (u : Unit) (m : Int) : Unit × Int :=
  ((uSign u (IntKind.u8.wrap (m + 1))), (IntKind.u8.wrap (m + 1)))
theorem u_inc_p1 (u : Unit) (m : Int) : FnSpec Try.prog 46 1000 [Unit.enc u, .int .u8 m] [] (.tuple ⟨[Unit.enc (((uSign u (IntKind.u8.wrap (m + 1))), (IntKind.u8.wrap (m + 1))).1), .int .u8 (((uSign u (IntKind.u8.wrap (m + 1))), (IntKind.u8.wrap (m + 1))).2)]⟩) [] := by
  exact fn_of_x hG hM Try.func46 (by kernel_rfl) (by kernel_rfl) 400 [.call [] [] 1000 (Unit.enc (uSign u (IntKind.u8.wrap (m + 1)))) []] (And.intro (uSign_ok u (IntKind.u8.wrap (m + 1))) trivial) (by kernel_rfl)
theorem u_inc_ok (u : Unit) (m : Int) : FnSpec Try.prog 46 1000 [Unit.enc u, .int .u8 m] [] (.tuple ⟨[Unit.enc ((u_inc u m).1), .int .u8 ((u_inc u m).2)]⟩) [] := by
  exact u_inc_p1 u m

/-- (kotatsu/alu.Unit).dec -/
def u_dec (u : Unit) (m : Int) : Unit × Int :=
  ((uSign u (IntKind.u8.wrap (m - 1))), (IntKind.u8.wrap (m - 1)))
theorem u_dec_p1 (u : Unit) (m : Int) : FnSpec Try.prog 47 1000 [Unit.enc u, .int .u8 m] [] (.tuple ⟨[Unit.enc (((uSign u (IntKind.u8.wrap (m - 1))), (IntKind.u8.wrap (m - 1))).1), .int .u8 (((uSign u (IntKind.u8.wrap (m - 1))), (IntKind.u8.wrap (m - 1))).2)]⟩) [] := by
  exact fn_of_x hG hM Try.func47 (by kernel_rfl) (by kernel_rfl) 400 [.call [] [] 1000 (Unit.enc (uSign u (IntKind.u8.wrap (m - 1)))) []] (And.intro (uSign_ok u (IntKind.u8.wrap (m - 1))) trivial) (by kernel_rfl)
theorem u_dec_ok (u : Unit) (m : Int) : FnSpec Try.prog 47 1000 [Unit.enc u, .int .u8 m] [] (.tuple ⟨[Unit.enc ((u_dec u m).1), .int .u8 ((u_dec u m).2)]⟩) [] := by
  exact u_dec_p1 u m

/-- (kotatsu/alu.Unit).anc -/
def u_anc (u : Unit) (m : Int) : Unit :=
  (uFlag (u_and u m) 1 (((bAnd .u8 ((u_and u m).A) 128) : Int) != 0))
theorem u_anc_p1 (u : Unit) (m : Int) : FnSpec Try.prog 71 1000 [Unit.enc u, .int .u8 m] [] (Unit.enc (uFlag (u_and u m) 1 (((bAnd .u8 ((u_and u m).A) 128) : Int) != 0))) [] := by
  exact fn_of_x hG hM Try.func71 (by kernel_rfl) (by kernel_rfl) 400 [.call [] [] 1000 (Unit.enc (u_and u m)) [], .call [] [] 1000 (Unit.enc (uFlag (u_and u m) 1 (((bAnd .u8 ((u_and u m).A) 128) : Int) != 0))) []] (And.intro (u_and_ok u m) (And.intro (uFlag_ok (u_and u m) 1 (((bAnd .u8 ((u_and u m).A) 128) : Int) != 0)) trivial)) (by kernel_rfl)
theorem u_anc_ok (u : Unit) (m : Int) : FnSpec Try.prog 71 1000 [Unit.enc u, .int .u8 m] [] (Unit.enc (u_anc u m)) [] := by
  exact u_anc_p1 u m

/-- (kotatsu/alu.Unit).alr -/
def u_alr (u : Unit) (m : Int) : Unit :=
  ({ A := (u_lsr (u_and u m) (bAnd .u8 u.A m)).2, X := ((u_lsr (u_and u m) (bAnd .u8 u.A m)).1).X, Y := ((u_lsr (u_and u m) (bAnd .u8 u.A m)).1).Y, S := ((u_lsr (u_and u m) (bAnd .u8 u.A m)).1).S, P := ((u_lsr (u_and u m) (bAnd .u8 u.A m)).1).P } : Unit)
theorem u_alr_p1 (u : Unit) (m : Int) : FnSpec Try.prog 72 1000 [Unit.enc u, .int .u8 m] [] (Unit.enc ({ A := (u_lsr (u_and u m) (bAnd .u8 u.A m)).2, X := ((u_lsr (u_and u m) (bAnd .u8 u.A m)).1).X, Y := ((u_lsr (u_and u m) (bAnd .u8 u.A m)).1).Y, S := ((u_lsr (u_and u m) (bAnd .u8 u.A m)).1).S, P := ((u_lsr (u_and u m) (bAnd .u8 u.A m)).1).P } : Unit)) [] := by
  exact fn_of_x hG hM Try.func72 (by kernel_rfl) (by kernel_rfl) 400 [.call [] [] 1000 (Unit.enc (u_and u m)) [], .call [] [] 1000 (.tuple ⟨[Unit.enc ((u_lsr (u_and u m) (bAnd .u8 u.A m)).1), .int .u8 ((u_lsr (u_and u m) (bAnd .u8 u.A m)).2)]⟩) []] (And.intro (u_and_ok u m) (And.intro (u_lsr_ok (u_and u m) (bAnd .u8 u.A m)) trivial)) (by kernel_rfl)
theorem u_alr_ok (u : Unit) (m : Int) : FnSpec Try.prog 72 1000 [Unit.enc u, .int .u8 m] [] (Unit.enc (u_alr u m)) [] := by
  exact u_alr_p1 u m

/-- (kotatsu/alu.Unit).arr -/
def u_arr (u : Unit) (m : Int) : Unit :=
  (uFlag (uFlag (uLoad u (bOr .u8 (bShr .u8 (bAnd .u8 u.A m) 1) (bShl .u8 (bAnd .u8 u.P 1) 7))) 1 (((bAnd .u8 (bOr .u8 (bShr .u8 (bAnd .u8 u.A m) 1) (bShl .u8 (bAnd .u8 u.P 1) 7)) 64) : Int) != 0)) 64 (((bAnd .u8 (bXor .u8 (bShr .u8 (bOr .u8 (bShr .u8 (bAnd .u8 u.A m) 1) (bShl .u8 (bAnd .u8 u.P 1) 7)) 1) (bOr .u8 (bShr .u8 (bAnd .u8 u.A m) 1) (bShl .u8 (bAnd .u8 u.P 1) 7))) 32) : Int) != 0))
theorem u_arr_p1 (u : Unit) (m : Int) : FnSpec Try.prog 73 1000 [Unit.enc u, .int .u8 m] [] (Unit.enc (uFlag (uFlag (uLoad u (bOr .u8 (bShr .u8 (bAnd .u8 u.A m) 1) (bShl .u8 (bAnd .u8 u.P 1) 7))) 1 (((bAnd .u8 (bOr .u8 (bShr .u8 (bAnd .u8 u.A m) 1) (bShl .u8 (bAnd .u8 u.P 1) 7)) 64) : Int) != 0)) 64 (((bAnd .u8 (bXor .u8 (bShr .u8 (bOr .u8 (bShr .u8 (bAnd .u8 u.A m) 1) (bShl .u8 (bAnd .u8 u.P 1) 7)) 1) (bOr .u8 (bShr .u8 (bAnd .u8 u.A m) 1) (bShl .u8 (bAnd .u8 u.P 1) 7))) 32) : Int) != 0))) [] := by
  exact fn_of_x hG hM Try.func73 (by kernel_rfl) (by kernel_rfl) 400 [.call [] [] 1000 (Unit.enc (uLoad u (bOr .u8 (bShr .u8 (bAnd .u8 u.A m) 1) (bShl .u8 (bAnd .u8 u.P 1) 7)))) [], .call [] [] 1000 (Unit.enc (uFlag (uLoad u (bOr .u8 (bShr .u8 (bAnd .u8 u.A m) 1) (bShl .u8 (bAnd .u8 u.P 1) 7))) 1 (((bAnd .u8 (bOr .u8 (bShr .u8 (bAnd .u8 u.A m) 1) (bShl .u8 (bAnd .u8 u.P 1) 7)) 64) : Int) != 0))) [], .call [] [] 1000 (Unit.enc (uFlag (uFlag (uLoad u (bOr .u8 (bShr .u8 (bAnd .u8 u.A m) 1) (bShl .u8 (bAnd .u8 u.P 1) 7))) 1 (((bAnd .u8 (bOr .u8 (bShr .u8 (bAnd .u8 u.A m) 1) (bShl .u8 (bAnd .u8 u.P 1) 7)) 64) : Int) != 0)) 64 (((bAnd .u8 (bXor .u8 (bShr .u8 (bOr .u8 (bShr .u8 (bAnd .u8 u.A m) 1) (bShl .u8 (bAnd .u8 u.P 1) 7)) 1) (bOr .u8 (bShr .u8 (bAnd .u8 u.A m) 1) (bShl .u8 (bAnd .u8 u.P 1) 7))) 32) : Int) != 0))) []] (And.intro (by decide : (0 : Int) ≤ 1) (And.intro (by decide : (0 : Int) ≤ 7) (And.intro (uLoad_ok u (bOr .u8 (bShr .u8 (bAnd .u8 u.A m) 1) (bShl .u8 (bAnd .u8 u.P 1) 7))) (And.intro (uFlag_ok (uLoad u (bOr .u8 (bShr .u8 (bAnd .u8 u.A m) 1) (bShl .u8 (bAnd .u8 u.P 1) 7))) 1 (((bAnd .u8 (bOr .u8 (bShr .u8 (bAnd .u8 u.A m) 1) (bShl .u8 (bAnd .u8 u.P 1) 7)) 64) : Int) != 0)) (And.intro (by decide : (0 : Int) ≤ 1) (And.intro (uFlag_ok (uFlag (uLoad u (bOr .u8 (bShr .u8 (bAnd .u8 u.A m) 1) (bShl .u8 (bAnd .u8 u.P 1) 7))) 1 (((bAnd .u8 (bOr .u8 (bShr .u8 (bAnd .u8 u.A m) 1) (bShl .u8 (bAnd .u8 u.P 1) 7)) 64) : Int) != 0)) 64 (((bAnd .u8 (bXor .u8 (bShr .u8 (bOr .u8 (bShr .u8 (bAnd .u8 u.A m) 1) (bShl .u8 (bAnd .u8 u.P 1) 7)) 1) (bOr .u8 (bShr .u8 (bAnd .u8 u.A m) 1) (bShl .u8 (bAnd .u8 u.P 1) 7))) 32) : Int) != 0)) trivial)))))) (by kernel_rfl)
theorem u_arr_ok (u : Unit) (m : Int) : FnSpec Try.prog 73 1000 [Unit.enc u, .int .u8 m] [] (Unit.enc (u_arr u m)) [] := by
  exact u_arr_p1 u m

/-- (kotatsu/alu.Unit).axs -/
def u_axs (u : Unit) (m : Int) : Unit :=
  (u_ldx (uCompare u (bAnd .u8 u.A u.X) m) (IntKind.u8.wrap ((bAnd .u8 u.A u.X) - m)))
theorem u_axs_p1 (u : Unit) (m : Int) : FnSpec Try.prog 74 1000 [Unit.enc u, .int .u8 m] [] (Unit.enc (u_ldx (uCompare u (bAnd .u8 u.A u.X) m) (IntKind.u8.wrap ((bAnd .u8 u.A u.X) - m)))) [] := by
  exact fn_of_x hG hM Try.func74 (by kernel_rfl) (by kernel_rfl) 400 [.call [] [] 1000 (Unit.enc (uCompare u (bAnd .u8 u.A u.X) m)) [], .call [] [] 1000 (Unit.enc (u_ldx (uCompare u (bAnd .u8 u.A u.X) m) (IntKind.u8.wrap ((bAnd .u8 u.A u.X) - m)))) []] (And.intro (uCompare_ok u (bAnd .u8 u.A u.X) m) (And.intro (u_ldx_ok (uCompare u (bAnd .u8 u.A u.X) m) (IntKind.u8.wrap ((bAnd .u8 u.A u.X) - m))) trivial)) (by kernel_rfl)
theorem u_axs_ok (u : Unit) (m : Int) : FnSpec Try.prog 74 1000 [Unit.enc u, .int .u8 m] [] (Unit.enc (u_axs u m)) [] := by
  exact u_axs_p1 u m

/-- (kotatsu/alu.Unit).las -/
def u_las (u : Unit) (m : Int) : Unit :=
  (u_lax ({ A := u.A, X := u.X, Y := u.Y, S := (bAnd .u8 u.S m), P := u.P } : Unit) (bAnd .u8 u.S m))
theorem u_las_p1 (u : Unit) (m : Int) : FnSpec Try.prog 75 1000 [Unit.enc u, .int .u8 m] [] (Unit.enc (u_lax ({ A := u.A, X := u.X, Y := u.Y, S := (bAnd .u8 u.S m), P := u.P } : Unit) (bAnd .u8 u.S m))) [] := by
  exact fn_of_x hG hM Try.func75 (by kernel_rfl) (by kernel_rfl) 400 [.call [] [] 1000 (Unit.enc (u_lax ({ A := u.A, X := u.X, Y := u.Y, S := (bAnd .u8 u.S m), P := u.P } : Unit) (bAnd .u8 u.S m))) []] (And.intro (u_lax_ok ({ A := u.A, X := u.X, Y := u.Y, S := (bAnd .u8 u.S m), P := u.P } : Unit) (bAnd .u8 u.S m)) trivial) (by kernel_rfl)
theorem u_las_ok (u : Unit) (m : Int) : FnSpec Try.prog 75 1000 [Unit.enc u, .int .u8 m] [] (Unit.enc (u_las u m)) [] := by
  exact u_las_p1 u m

/-- (kotatsu/alu.Unit).then -/
def uThen_slo (u : Unit) (m : Int) : Unit × Int :=
  ((u_ora ((u_asl u m).1) ((u_asl u m).2)), (u_asl u m).2)
theorem uThen_slo_p1 (u : Unit) (m : Int) : FnSpec Try.prog 78 1000 [Unit.enc u, .int .u8 m, .func (.func 42) ⟨[]⟩ ⟨[]⟩, .func (.func 61) ⟨[]⟩ ⟨[]⟩] [] (.tuple ⟨[Unit.enc (((u_ora ((u_asl u m).1) ((u_asl u m).2)), (u_asl u m).2).1), .int .u8 (((u_ora ((u_asl u m).1) ((u_asl u m).2)), (u_asl u m).2).2)]⟩) [] := by
  exact fn_of_x hG hM Try.func78 (by kernel_rfl) (by kernel_rfl) 400 [.call [] [] 1000 (.tuple ⟨[Unit.enc ((u_asl u m).1), .int .u8 ((u_asl u m).2)]⟩) [], .call [] [] 1000 (Unit.enc (u_ora ((u_asl u m).1) ((u_asl u m).2))) []] (And.intro (u_asl_ok u m) (And.intro (u_ora_ok ((u_asl u m).1) ((u_asl u m).2)) trivial)) (by kernel_rfl)
theorem uThen_slo_ok (u : Unit) (m : Int) : FnSpec Try.prog 78 1000 [Unit.enc u, .int .u8 m, .func (.func 42) ⟨[]⟩ ⟨[]⟩, .func (.func 61) ⟨[]⟩ ⟨[]⟩] [] (.tuple ⟨[Unit.enc ((uThen_slo u m).1), .int .u8 ((uThen_slo u m).2)]⟩) [] := by
  exact uThen_slo_p1 u m

/-- (kotatsu/alu.Unit).slo -/
def u_slo (u : Unit) (m : Int) : Unit × Int :=
  (((uThen_slo u m).1), (uThen_slo u m).2)
theorem u_slo_p1 (u : Unit) (m : Int) : FnSpec Try.prog 48 1000 [Unit.enc u, .int .u8 m] [] (.tuple ⟨[Unit.enc ((((uThen_slo u m).1), (uThen_slo u m).2).1), .int .u8 ((((uThen_slo u m).1), (uThen_slo u m).2).2)]⟩) [] := by
  exact fn_of_x hG hM Try.func48 (by kernel_rfl) (by kernel_rfl) 400 [.call [] [] 1000 (.tuple ⟨[Unit.enc ((uThen_slo u m).1), .int .u8 ((uThen_slo u m).2)]⟩) []] (And.intro (uThen_slo_ok u m) trivial) (by kernel_rfl)
theorem u_slo_ok (u : Unit) (m : Int) : FnSpec Try.prog 48 1000 [Unit.enc u, .int .u8 m] [] (.tuple ⟨[Unit.enc ((u_slo u m).1), .int .u8 ((u_slo u m).2)]⟩) [] := by
  exact u_slo_p1 u m

/-- (kotatsu/alu.Unit).then -/
def uThen_rla (u : Unit) (m : Int) : Unit × Int :=
  ((u_and ((u_rol u m).1) ((u_rol u m).2)), (u_rol u m).2)
theorem uThen_rla_p1 (u : Unit) (m : Int) : FnSpec Try.prog 78 1000 [Unit.enc u, .int .u8 m, .func (.func 44) ⟨[]⟩ ⟨[]⟩, .func (.func 62) ⟨[]⟩ ⟨[]⟩] [] (.tuple ⟨[Unit.enc (((u_and ((u_rol u m).1) ((u_rol u m).2)), (u_rol u m).2).1), .int .u8 (((u_and ((u_rol u m).1) ((u_rol u m).2)), (u_rol u m).2).2)]⟩) [] := by
  exact fn_of_x hG hM Try.func78 (by kernel_rfl) (by kernel_rfl) 400 [.call [] [] 1000 (.tuple ⟨[Unit.enc ((u_rol u m).1), .int .u8 ((u_rol u m).2)]⟩) [], .call [] [] 1000 (Unit.enc (u_and ((u_rol u m).1) ((u_rol u m).2))) []] (And.intro (u_rol_ok u m) (And.intro (u_and_ok ((u_rol u m).1) ((u_rol u m).2)) trivial)) (by kernel_rfl)
theorem uThen_rla_ok (u : Unit) (m : Int) : FnSpec Try.prog 78 1000 [Unit.enc u, .int .u8 m, .func (.func 44) ⟨[]⟩ ⟨[]⟩, .func (.func 62) ⟨[]⟩ ⟨[]⟩] [] (.tuple ⟨[Unit.enc ((uThen_rla u m).1), .int .u8 ((uThen_rla u m).2)]⟩) [] := by
  exact uThen_rla_p1 u m

/-- (kotatsu/alu.Unit).rla -/
def u_rla (u : Unit) (m : Int) : Unit × Int :=
  (((uThen_rla u m).1), (uThen_rla u m).2)
theorem u_rla_p1 (u : Unit) (m : Int) : FnSpec Try.prog 49 1000 [Unit.enc u, .int .u8 m] [] (.tuple ⟨[Unit.enc ((((uThen_rla u m).1), (uThen_rla u m).2).1), .int .u8 ((((uThen_rla u m).1), (uThen_rla u m).2).2)]⟩) [] := by
  exact fn_of_x hG hM Try.func49 (by kernel_rfl) (by kernel_rfl) 400 [.call [] [] 1000 (.tuple ⟨[Unit.enc ((uThen_rla u m).1), .int .u8 ((uThen_rla u m).2)]⟩) []] (And.intro (uThen_rla_ok u m) trivial) (by kernel_rfl)
theorem u_rla_ok (u : Unit) (m : Int) : FnSpec Try.prog 49 1000 [Unit.enc u, .int .u8 m] [] (.tuple ⟨[Unit.enc ((u_rla u m).1), .int .u8 ((u_rla u m).2)]⟩) [] := by
  exact u_rla_p1 u m

/-- (kotatsu/alu.Unit).then -/
def uThen_sre (u : Unit) (m : Int) : Unit × Int :=
  ((u_eor ((u_lsr u m).1) ((u_lsr u m).2)), (u_lsr u m).2)
theorem uThen_sre_p1 (u : Unit) (m : Int) : FnSpec Try.prog 78 1000 [Unit.enc u, .int .u8 m, .func (.func 43) ⟨[]⟩ ⟨[]⟩, .func (.func 63) ⟨[]⟩ ⟨[]⟩] [] (.tuple ⟨[Unit.enc (((u_eor ((u_lsr u m).1) ((u_lsr u m).2)), (u_lsr u m).2).1), .int .u8 (((u_eor ((u_lsr u m).1) ((u_lsr u m).2)), (u_lsr u m).2).2)]⟩) [] := by
  exact fn_of_x hG hM Try.func78 (by kernel_rfl) (by kernel_rfl) 400 [.call [] [] 1000 (.tuple ⟨[Unit.enc ((u_lsr u m).1), .int .u8 ((u_lsr u m).2)]⟩) [], .call [] [] 1000 (Unit.enc (u_eor ((u_lsr u m).1) ((u_lsr u m).2))) []] (And.intro (u_lsr_ok u m) (And.intro (u_eor_ok ((u_lsr u m).1) ((u_lsr u m).2)) trivial)) (by kernel_rfl)
theorem uThen_sre_ok (u : Unit) (m : Int) : FnSpec Try.prog 78 1000 [Unit.enc u, .int .u8 m, .func (.func 43) ⟨[]⟩ ⟨[]⟩, .func (.func 63) ⟨[]⟩ ⟨[]⟩] [] (.tuple ⟨[Unit.enc ((uThen_sre u m).1), .int .u8 ((uThen_sre u m).2)]⟩) [] := by
  exact uThen_sre_p1 u m

/-- (kotatsu/alu.Unit).sre -/
def u_sre (u : Unit) (m : Int) : Unit × Int :=
  (((uThen_sre u m).1), (uThen_sre u m).2)
theorem u_sre_p1 (u : Unit) (m : Int) : FnSpec Try.prog 50 1000 [Unit.enc u, .int .u8 m] [] (.tuple ⟨[Unit.enc ((((uThen_sre u m).1), (uThen_sre u m).2).1), .int .u8 ((((uThen_sre u m).1), (uThen_sre u m).2).2)]⟩) [] := by
  exact fn_of_x hG hM Try.func50 (by kernel_rfl) (by kernel_rfl) 400 [.call [] [] 1000 (.tuple ⟨[Unit.enc ((uThen_sre u m).1), .int .u8 ((uThen_sre u m).2)]⟩) []] (And.intro (uThen_sre_ok u m) trivial) (by kernel_rfl)
theorem u_sre_ok (u : Unit) (m : Int) : FnSpec Try.prog 50 1000 [Unit.enc u, .int .u8 m] [] (.tuple ⟨[Unit.enc ((u_sre u m).1), .int .u8 ((u_sre u m).2)]⟩) [] := by
  exact u_sre_p1 u m

/-- (kotatsu/alu.Unit).then -/
def uThen_rra (u : Unit) (m : Int) : Unit × Int :=
  ((u_adc ((u_ror u m).1) ((u_ror u m).2)), (u_ror u m).2)
theorem uThen_rra_p1 (u : Unit) (m : Int) : FnSpec Try.prog 78 1000 [Unit.enc u, .int .u8 m, .func (.func 45) ⟨[]⟩ ⟨[]⟩, .func (.func 64) ⟨[]⟩ ⟨[]⟩] [] (.tuple ⟨[Unit.enc (((u_adc ((u_ror u m).1) ((u_ror u m).2)), (u_ror u m).2).1), .int .u8 (((u_adc ((u_ror u m).1) ((u_ror u m).2)), (u_ror u m).2).2)]⟩) [] := by
  exact fn_of_x hG hM Try.func78 (by kernel_rfl) (by kernel_rfl) 400 [.call [] [] 1000 (.tuple ⟨[Unit.enc ((u_ror u m).1), .int .u8 ((u_ror u m).2)]⟩) [], .call [] [] 1000 (Unit.enc (u_adc ((u_ror u m).1) ((u_ror u m).2))) []] (And.intro (u_ror_ok u m) (And.intro (u_adc_ok ((u_ror u m).1) ((u_ror u m).2)) trivial)) (by kernel_rfl)
theorem uThen_rra_ok (u : Unit) (m : Int) : FnSpec Try.prog 78 1000 [Unit.enc u, .int .u8 m, .func (.func 45) ⟨[]⟩ ⟨[]⟩, .func (.func 64) ⟨[]⟩ ⟨[]⟩] [] (.tuple ⟨[Unit.enc ((uThen_rra u m).1), .int .u8 ((uThen_rra u m).2)]⟩) [] := by
  exact uThen_rra_p1 u m

/-- (kotatsu/alu.Unit).rra -/
def u_rra (u : Unit) (m : Int) : Unit × Int :=
  (((uThen_rra u m).1), (uThen_rra u m).2)
theorem u_rra_p1 (u : Unit) (m : Int) : FnSpec Try.prog 51 1000 [Unit.enc u, .int .u8 m] [] (.tuple ⟨[Unit.enc ((((uThen_rra u m).1), (uThen_rra u m).2).1), .int .u8 ((((uThen_rra u m).1), (uThen_rra u m).2).2)]⟩) [] := by
  exact fn_of_x hG hM Try.func51 (by kernel_rfl) (by kernel_rfl) 400 [.call [] [] 1000 (.tuple ⟨[Unit.enc ((uThen_rra u m).1), .int .u8 ((uThen_rra u m).2)]⟩) []] (And.intro (uThen_rra_ok u m) trivial) (by kernel_rfl)
theorem u_rra_ok (u : Unit) (m : Int) : FnSpec Try.prog 51 1000 [Unit.enc u, .int .u8 m] [] (.tuple ⟨[Unit.enc ((u_rra u m).1), .int .u8 ((u_rra u m).2)]⟩) [] := by
  exact u_rra_p1 u m

/-- (kotatsu/alu.Unit).then -/
def uThen_dcp (u : Unit) (m : Int) : Unit × Int :=
  ((u_cmp ((u_dec u m).1) ((u_dec u m).2)), (u_dec u m).2)
theorem uThen_dcp_p1 (u : Unit) (m : Int) : FnSpec Try.prog 78 1000 [Unit.enc u, .int .u8 m, .func (.func 47) ⟨[]⟩ ⟨[]⟩, .func (.func 66) ⟨[]⟩ ⟨[]⟩] [] (.tuple ⟨[Unit.enc (((u_cmp ((u_dec u m).1) ((u_dec u m).2)), (u_dec u m).2).1), .int .u8 (((u_cmp ((u_dec u m).1) ((u_dec u m).2)), (u_dec u m).2).2)]⟩) [] := by
  exact fn_of_x hG hM Try.func78 (by kernel_rfl) (by kernel_rfl) 400 [.call [] [] 1000 (.tuple ⟨[Unit.enc ((u_dec u m).1), .int .u8 ((u_dec u m).2)]⟩) [], .call [] [] 1000 (Unit.enc (u_cmp ((u_dec u m).1) ((u_dec u m).2))) []] (And.intro (u_dec_ok u m) (And.intro (u_cmp_ok ((u_dec u m).1) ((u_dec u m).2)) trivial)) (by kernel_rfl)
theorem uThen_dcp_ok (u : Unit) (m : Int) : FnSpec Try.prog 78 1000 [Unit.enc u, .int .u8 m, .func (.func 47) ⟨[]⟩ ⟨[]⟩, .func (.func 66) ⟨[]⟩ ⟨[]⟩] [] (.tuple ⟨[Unit.enc ((uThen_dcp u m).1), .int .u8 ((uThen_dcp u m).2)]⟩) [] := by
  exact uThen_dcp_p1 u m

/-- (kotatsu/alu.Unit).dcp -/
def u_dcp (u : Unit) (m : Int) : Unit × Int :=
  (((uThen_dcp u m).1), (uThen_dcp u m).2)
theorem u_dcp_p1 (u : Unit) (m : Int) : FnSpec Try.prog 52 1000 [Unit.enc u, .int .u8 m] [] (.tuple ⟨[Unit.enc ((((uThen_dcp u m).1), (uThen_dcp u m).2).1), .int .u8 ((((uThen_dcp u m).1), (uThen_dcp u m).2).2)]⟩) [] := by
  exact fn_of_x hG hM Try.func52 (by kernel_rfl) (by kernel_rfl) 400 [.call [] [] 1000 (.tuple ⟨[Unit.enc ((uThen_dcp u m).1), .int .u8 ((uThen_dcp u m).2)]⟩) []] (And.intro (uThen_dcp_ok u m) trivial) (by kernel_rfl)
theorem u_dcp_ok (u : Unit) (m : Int) : FnSpec Try.prog 52 1000 [Unit.enc u, .int .u8 m] [] (.tuple ⟨[Unit.enc ((u_dcp u m).1), .int .u8 ((u_dcp u m).2)]⟩) [] := by
  exact u_dcp_p1 u m

/-- (kotatsu/alu.Unit).then -/
def uThen_isc (u : Unit) (m : Int) : Unit × Int :=
  ((u_sbc ((u_inc u m).1) ((u_inc u m).2)), (u_inc u m).2)
theorem uThen_isc_p1 (u : Unit) (m : Int) : FnSpec Try.prog 78 1000 [Unit.enc u, .int .u8 m, .func (.func 46) ⟨[]⟩ ⟨[]⟩, .func (.func 65) ⟨[]⟩ ⟨[]⟩] [] (.tuple ⟨[Unit.enc (((u_sbc ((u_inc u m).1) ((u_inc u m).2)), (u_inc u m).2).1), .int .u8 (((u_sbc ((u_inc u m).1) ((u_inc u m).2)), (u_inc u m).2).2)]⟩) [] := by
  exact fn_of_x hG hM Try.func78 (by kernel_rfl) (by kernel_rfl) 400 [.call [] [] 1000 (.tuple ⟨[Unit.enc ((u_inc u m).1), .int .u8 ((u_inc u m).2)]⟩) [], .call [] [] 1000 (Unit.enc (u_sbc ((u_inc u m).1) ((u_inc u m).2))) []] (And.intro (u_inc_ok u m) (And.intro (u_sbc_ok ((u_inc u m).1) ((u_inc u m).2)) trivial)) (by kernel_rfl)
theorem uThen_isc_ok (u : Unit) (m : Int) : FnSpec Try.prog 78 1000 [Unit.enc u, .int .u8 m, .func (.func 46) ⟨[]⟩ ⟨[]⟩, .func (.func 65) ⟨[]⟩ ⟨[]⟩] [] (.tuple ⟨[Unit.enc ((uThen_isc u m).1), .int .u8 ((uThen_isc u m).2)]⟩) [] := by
  exact uThen_isc_p1 u m

/-- (kotatsu/alu.Unit).isc -/
def u_isc (u : Unit) (m : Int) : Unit × Int :=
  (((uThen_isc u m).1), (uThen_isc u m).2)
theorem u_isc_p1 (u : Unit) (m : Int) : FnSpec Try.prog 53 1000 [Unit.enc u, .int .u8 m] [] (.tuple ⟨[Unit.enc ((((uThen_isc u m).1), (uThen_isc u m).2).1), .int .u8 ((((uThen_isc u m).1), (uThen_isc u m).2).2)]⟩) [] := by
  exact fn_of_x hG hM Try.func53 (by kernel_rfl) (by kernel_rfl) 400 [.call [] [] 1000 (.tuple ⟨[Unit.enc ((uThen_isc u m).1), .int .u8 ((uThen_isc u m).2)]⟩) []] (And.intro (uThen_isc_ok u m) trivial) (by kernel_rfl)
theorem u_isc_ok (u : Unit) (m : Int) : FnSpec Try.prog 53 1000 [Unit.enc u, .int .u8 m] [] (.tuple ⟨[Unit.enc ((u_isc u m).1), .int .u8 ((u_isc u m).2)]⟩) [] := by
  exact u_isc_p1 u m

/-- kotatsu/alu.Kind -/
def aKind (op : Int) : Int :=
  if (decide ((op : Int) ≤ 18)) = true then
    1
  else
    if (decide ((op : Int) ≤ 30)) = true then
      2
    else
      if (decide ((op : Int) ≤ 34)) = true then
        3
      else
        if (decide ((op : Int) ≤ 51)) = true then
          4
        else
          if (decide ((op : Int) ≤ 59)) = true then
            5
          else
            if (decide ((op : Int) ≤ 69)) = true then
              6
            else
              0
theorem aKind_p1 (op : Int) (c1 : (decide ((op : Int) ≤ 18)) = true) : FnSpec Try.prog 23 1000 [.int .u8 op] [] (.int .u8 1) [] := by
  exact fn_of_x hG hM Try.func23 (by kernel_rfl) (by kernel_rfl) 400 [.yes] (And.intro c1 trivial) (by kernel_rfl)
theorem aKind_p2 (op : Int) (c1 : (decide ((op : Int) ≤ 18)) = false) (c2 : (decide ((op : Int) ≤ 30)) = true) : FnSpec Try.prog 23 1000 [.int .u8 op] [] (.int .u8 2) [] := by
  exact fn_of_x hG hM Try.func23 (by kernel_rfl) (by kernel_rfl) 400 [.no, .yes] (And.intro c1 (And.intro c2 trivial)) (by kernel_rfl)
theorem aKind_p3 (op : Int) (c1 : (decide ((op : Int) ≤ 18)) = false) (c2 : (decide ((op : Int) ≤ 30)) = false) (c3 : (decide ((op : Int) ≤ 34)) = true) : FnSpec Try.prog 23 1000 [.int .u8 op] [] (.int .u8 3) [] := by
  exact fn_of_x hG hM Try.func23 (by kernel_rfl) (by kernel_rfl) 400 [.no, .no, .yes] (And.intro c1 (And.intro c2 (And.intro c3 trivial))) (by kernel_rfl)
theorem aKind_p4 (op : Int) (c1 : (decide ((op : Int) ≤ 18)) = false) (c2 : (decide ((op : Int) ≤ 30)) = false) (c3 : (decide ((op : Int) ≤ 34)) = false) (c4 : (decide ((op : Int) ≤ 51)) = true) : FnSpec Try.prog 23 1000 [.int .u8 op] [] (.int .u8 4) [] := by
  exact fn_of_x hG hM Try.func23 (by kernel_rfl) (by kernel_rfl) 400 [.no, .no, .no, .yes] (And.intro c1 (And.intro c2 (And.intro c3 (And.intro c4 trivial)))) (by kernel_rfl)
theorem aKind_p5 (op : Int) (c1 : (decide ((op : Int) ≤ 18)) = false) (c2 : (decide ((op : Int) ≤ 30)) = false) (c3 : (decide ((op : Int) ≤ 34)) = false) (c4 : (decide ((op : Int) ≤ 51)) = false) (c5 : (decide ((op : Int) ≤ 59)) = true) : FnSpec Try.prog 23 1000 [.int .u8 op] [] (.int .u8 5) [] := by
  exact fn_of_x hG hM Try.func23 (by kernel_rfl) (by kernel_rfl) 400 [.no, .no, .no, .no, .yes] (And.intro c1 (And.intro c2 (And.intro c3 (And.intro c4 (And.intro c5 trivial))))) (by kernel_rfl)
theorem aKind_p6 (op : Int) (c1 : (decide ((op : Int) ≤ 18)) = false) (c2 : (decide ((op : Int) ≤ 30)) = false) (c3 : (decide ((op : Int) ≤ 34)) = false) (c4 : (decide ((op : Int) ≤ 51)) = false) (c5 : (decide ((op : Int) ≤ 59)) = false) (c6 : (decide ((op : Int) ≤ 69)) = true) : FnSpec Try.prog 23 1000 [.int .u8 op] [] (.int .u8 6) [] := by
  exact fn_of_x hG hM Try.func23 (by kernel_rfl) (by kernel_rfl) 400 [.no, .no, .no, .no, .no, .yes] (And.intro c1 (And.intro c2 (And.intro c3 (And.intro c4 (And.intro c5 (And.intro c6 trivial)))))) (by kernel_rfl)
theorem aKind_p7 (op : Int) (c1 : (decide ((op : Int) ≤ 18)) = false) (c2 : (decide ((op : Int) ≤ 30)) = false) (c3 : (decide ((op : Int) ≤ 34)) = false) (c4 : (decide ((op : Int) ≤ 51)) = false) (c5 : (decide ((op : Int) ≤ 59)) = false) (c6 : (decide ((op : Int) ≤ 69)) = false) : FnSpec Try.prog 23 1000 [.int .u8 op] [] (.int .u8 0) [] := by
  exact fn_of_x hG hM Try.func23 (by kernel_rfl) (by kernel_rfl) 400 [.no, .no, .no, .no, .no, .no] (And.intro c1 (And.intro c2 (And.intro c3 (And.intro c4 (And.intro c5 (And.intro c6 trivial)))))) (by kernel_rfl)
theorem aKind_ok (op : Int) : FnSpec Try.prog 23 1000 [.int .u8 op] [] (.int .u8 (aKind op)) [] := by
  rcases bt (decide ((op : Int) ≤ 18)) with c1 | c1
  ·
    have e : aKind op = 1 := by unfold aKind; rw [if_pos c1]
    rw [e]
    exact aKind_p1 op c1
  ·
    rcases bt (decide ((op : Int) ≤ 30)) with c2 | c2
    ·
      have e : aKind op = 2 := by unfold aKind; rw [if_neg (nt c1), if_pos c2]
      rw [e]
      exact aKind_p2 op c1 c2
    ·
      rcases bt (decide ((op : Int) ≤ 34)) with c3 | c3
      ·
        have e : aKind op = 3 := by unfold aKind; rw [if_neg (nt c1), if_neg (nt c2), if_pos c3]
        rw [e]
        exact aKind_p3 op c1 c2 c3
      ·
        rcases bt (decide ((op : Int) ≤ 51)) with c4 | c4
        ·
          have e : aKind op = 4 := by unfold aKind; rw [if_neg (nt c1), if_neg (nt c2), if_neg (nt c3), if_pos c4]
          rw [e]
          exact aKind_p4 op c1 c2 c3 c4
        ·
          rcases bt (decide ((op : Int) ≤ 59)) with c5 | c5
          ·
            have e : aKind op = 5 := by unfold aKind; rw [if_neg (nt c1), if_neg (nt c2), if_neg (nt c3), if_neg (nt c4), if_pos c5]
            rw [e]
            exact aKind_p5 op c1 c2 c3 c4 c5
          ·
            rcases bt (decide ((op : Int) ≤ 69)) with c6 | c6
            ·
              have e : aKind op = 6 := by unfold aKind; rw [if_neg (nt c1), if_neg (nt c2), if_neg (nt c3), if_neg (nt c4), if_neg (nt c5), if_pos c6]
              rw [e]
              exact aKind_p6 op c1 c2 c3 c4 c5 c6
            ·
              have e : aKind op = 0 := by unfold aKind; rw [if_neg (nt c1), if_neg (nt c2), if_neg (nt c3), if_neg (nt c4), if_neg (nt c5), if_neg (nt c6)]
              rw [e]
              exact aKind_p7 op c1 c2 c3 c4 c5 c6

def readers_post : Heap := [(1000, ⟨[.one (.func (.func 60) ⟨[]⟩ ⟨[]⟩), .one (.func (.func 61) ⟨[]⟩ ⟨[]⟩), .one (.func (.func 62) ⟨[]⟩ ⟨[]⟩), .one (.func (.func 63) ⟨[]⟩ ⟨[]⟩), .one (.func (.func 64) ⟨[]⟩ ⟨[]⟩), .one (.func (.func 65) ⟨[]⟩ ⟨[]⟩), .one (.func (.func 66) ⟨[]⟩ ⟨[]⟩), .one (.func (.func 67) ⟨[]⟩ ⟨[]⟩), .one (.func (.func 68) ⟨[]⟩ ⟨[]⟩), .one (.func (.func 56) ⟨[]⟩ ⟨[]⟩), .one (.func (.func 54) ⟨[]⟩ ⟨[]⟩), .one (.func (.func 55) ⟨[]⟩ ⟨[]⟩), .one (.func (.func 69) ⟨[]⟩ ⟨[]⟩), .one (.func (.func 70) ⟨[]⟩ ⟨[]⟩), .one (.func (.func 71) ⟨[]⟩ ⟨[]⟩), .one (.func (.func 72) ⟨[]⟩ ⟨[]⟩), .one (.func (.func 73) ⟨[]⟩ ⟨[]⟩), .one (.func (.func 74) ⟨[]⟩ ⟨[]⟩), .one (.func (.func 75) ⟨[]⟩ ⟨[]⟩)], 60, false⟩)]
theorem readers_p1  : FnSpec Try.prog 40 1000 [] [] (.slice (some ⟨1000, 0, none⟩) 19 19) readers_post := by
  exact fn_of_x hG hM Try.func40 (by kernel_rfl) (by kernel_rfl) 400 [] trivial (by kernel_rfl)

/-- (kotatsu/alu.Unit).Read -/
def uRead_0 (u : Unit) (m : Int) : Unit :=
  (u_nop u m)
theorem uRead_0_p1 (u : Unit) (m : Int) : FnSpec Try.prog 19 1000 [Unit.enc u, .int .u8 0, .int .u8 m] [] (Unit.enc (u_nop u m)) [] := by
  exact fn_of_x hG hM Try.func19 (by kernel_rfl) (by kernel_rfl) 400 [.call [] [] 1000 (.int .u8 1) [], .no, .call [] [(1000, 1002)] 1000 (.slice (some ⟨1000, 0, none⟩) 19 19) readers_post, .lit 0, .call [] [] 1000 (Unit.enc (u_nop u m)) []] (And.intro (aKind_ok 0) (And.intro (Eq.refl false) (And.intro readers_p1 (And.intro (Eq.refl (0 : Int)) (And.intro (by decide : 0 < 19) (And.intro (u_nop_ok u m) trivial)))))) (by kernel_rfl)
theorem uRead_0_ok (u : Unit) (m : Int) : FnSpec Try.prog 19 1000 [Unit.enc u, .int .u8 0, .int .u8 m] [] (Unit.enc (uRead_0 u m)) [] := by
  exact uRead_0_p1 u m

/-- (kotatsu/alu.Unit).Read -/
def uRead_1 (u : Unit) (m : Int) : Unit :=
  (u_ora u m)
theorem uRead_1_p1 (u : Unit) (m : Int) : FnSpec Try.prog 19 1000 [Unit.enc u, .int .u8 1, .int .u8 m] [] (Unit.enc (u_ora u m)) [] := by
  exact fn_of_x hG hM Try.func19 (by kernel_rfl) (by kernel_rfl) 400 [.call [] [] 1000 (.int .u8 1) [], .no, .call [] [(1000, 1002)] 1000 (.slice (some ⟨1000, 0, none⟩) 19 19) readers_post, .lit 1, .call [] [] 1000 (Unit.enc (u_ora u m)) []] (And.intro (aKind_ok 1) (And.intro (Eq.refl false) (And.intro readers_p1 (And.intro (Eq.refl (1 : Int)) (And.intro (by decide : 1 < 19) (And.intro (u_ora_ok u m) trivial)))))) (by kernel_rfl)
theorem uRead_1_ok (u : Unit) (m : Int) : FnSpec Try.prog 19 1000 [Unit.enc u, .int .u8 1, .int .u8 m] [] (Unit.enc (uRead_1 u m)) [] := by
  exact uRead_1_p1 u m

/-- (kotatsu/alu.Unit).Read -/
def uRead_2 (u : Unit) (m : Int) : Unit :=
  (u_and u m)
theorem uRead_2_p1 (u : Unit) (m : Int) : FnSpec Try.prog 19 1000 [Unit.enc u, .int .u8 2, .int .u8 m] [] (Unit.enc (u_and u m)) [] := by
  exact fn_of_x hG hM Try.func19 (by kernel_rfl) (by kernel_rfl) 400 [.call [] [] 1000 (.int .u8 1) [], .no, .call [] [(1000, 1002)] 1000 (.slice (some ⟨1000, 0, none⟩) 19 19) readers_post, .lit 2, .call [] [] 1000 (Unit.enc (u_and u m)) []] (And.intro (aKind_ok 2) (And.intro (Eq.refl false) (And.intro readers_p1 (And.intro (Eq.refl (2 : Int)) (And.intro (by decide : 2 < 19) (And.intro (u_and_ok u m) trivial)))))) (by kernel_rfl)
theorem uRead_2_ok (u : Unit) (m : Int) : FnSpec Try.prog 19 1000 [Unit.enc u, .int .u8 2, .int .u8 m] [] (Unit.enc (uRead_2 u m)) [] := by
  exact uRead_2_p1 u m

/-- (kotatsu/alu.Unit).Read -/
def uRead_3 (u : Unit) (m : Int) : Unit :=
  (u_eor u m)
theorem uRead_3_p1 (u : Unit) (m : Int) : FnSpec Try.prog 19 1000 [Unit.enc u, .int .u8 3, .int .u8 m] [] (Unit.enc (u_eor u m)) [] := by
  exact fn_of_x hG hM Try.func19 (by kernel_rfl) (by kernel_rfl) 400 [.call [] [] 1000 (.int .u8 1) [], .no, .call [] [(1000, 1002)] 1000 (.slice (some ⟨1000, 0, none⟩) 19 19) readers_post, .lit 3, .call [] [] 1000 (Unit.enc (u_eor u m)) []] (And.intro (aKind_ok 3) (And.intro (Eq.refl false) (And.intro readers_p1 (And.intro (Eq.refl (3 : Int)) (And.intro (by decide : 3 < 19) (And.intro (u_eor_ok u m) trivial)))))) (by kernel_rfl)
theorem uRead_3_ok (u : Unit) (m : Int) : FnSpec Try.prog 19 1000 [Unit.enc u, .int .u8 3, .int .u8 m] [] (Unit.enc (uRead_3 u m)) [] := by
  exact uRead_3_p1 u m

/-- (kotatsu/alu.Unit).Read -/
def uRead_4 (u : Unit) (m : Int) : Unit :=
  (u_adc u m)
theorem uRead_4_p1 (u : Unit) (m : Int) : FnSpec Try.prog 19 1000 [Unit.enc u, .int .u8 4, .int .u8 m] [] (Unit.enc (u_adc u m)) [] := by
  exact fn_of_x hG hM Try.func19 (by kernel_rfl) (by kernel_rfl) 400 [.call [] [] 1000 (.int .u8 1) [], .no, .call [] [(1000, 1002)] 1000 (.slice (some ⟨1000, 0, none⟩) 19 19) readers_post, .lit 4, .call [] [] 1000 (Unit.enc (u_adc u m)) []] (And.intro (aKind_ok 4) (And.intro (Eq.refl false) (And.intro readers_p1 (And.intro (Eq.refl (4 : Int)) (And.intro (by decide : 4 < 19) (And.intro (u_adc_ok u m) trivial)))))) (by kernel_rfl)
theorem uRead_4_ok (u : Unit) (m : Int) : FnSpec Try.prog 19 1000 [Unit.enc u, .int .u8 4, .int .u8 m] [] (Unit.enc (uRead_4 u m)) [] := by
  exact uRead_4_p1 u m

/-- (kotatsu/alu.Unit).Read -/
def uRead_5 (u : Unit) (m : Int) : Unit :=
  (u_sbc u m)
theorem uRead_5_p1 (u : Unit) (m : Int) : FnSpec Try.prog 19 1000 [Unit.enc u, .int .u8 5, .int .u8 m] [] (Unit.enc (u_sbc u m)) [] := by
  exact fn_of_x hG hM Try.func19 (by kernel_rfl) (by kernel_rfl) 400 [.call [] [] 1000 (.int .u8 1) [], .no, .call [] [(1000, 1002)] 1000 (.slice (some ⟨1000, 0, none⟩) 19 19) readers_post, .lit 5, .call [] [] 1000 (Unit.enc (u_sbc u m)) []] (And.intro (aKind_ok 5) (And.intro (Eq.refl false) (And.intro readers_p1 (And.intro (Eq.refl (5 : Int)) (And.intro (by decide : 5 < 19) (And.intro (u_sbc_ok u m) trivial)))))) (by kernel_rfl)
theorem uRead_5_ok (u : Unit) (m : Int) : FnSpec Try.prog 19 1000 [Unit.enc u, .int .u8 5, .int .u8 m] [] (Unit.enc (uRead_5 u m)) [] := by
  exact uRead_5_p1 u m

/-- (kotatsu/alu.Unit).Read -/
def uRead_6 (u : Unit) (m : Int) : Unit :=
  (u_cmp u m)
theorem uRead_6_p1 (u : Unit) (m : Int) : FnSpec Try.prog 19 1000 [Unit.enc u, .int .u8 6, .int .u8 m] [] (Unit.enc (u_cmp u m)) [] := by
  exact fn_of_x hG hM Try.func19 (by kernel_rfl) (by kernel_rfl) 400 [.call [] [] 1000 (.int .u8 1) [], .no, .call [] [(1000, 1002)] 1000 (.slice (some ⟨1000, 0, none⟩) 19 19) readers_post, .lit 6, .call [] [] 1000 (Unit.enc (u_cmp u m)) []] (And.intro (aKind_ok 6) (And.intro (Eq.refl false) (And.intro readers_p1 (And.intro (Eq.refl (6 : Int)) (And.intro (by decide : 6 < 19) (And.intro (u_cmp_ok u m) trivial)))))) (by kernel_rfl)
theorem uRead_6_ok (u : Unit) (m : Int) : FnSpec Try.prog 19 1000 [Unit.enc u, .int .u8 6, .int .u8 m] [] (Unit.enc (uRead_6 u m)) [] := by
  exact uRead_6_p1 u m

/-- (kotatsu/alu.Unit).Read -/
def uRead_7 (u : Unit) (m : Int) : Unit :=
  (u_cpx u m)
theorem uRead_7_p1 (u : Unit) (m : Int) : FnSpec Try.prog 19 1000 [Unit.enc u, .int .u8 7, .int .u8 m] [] (Unit.enc (u_cpx u m)) [] := by
  exact fn_of_x hG hM Try.func19 (by kernel_rfl) (by kernel_rfl) 400 [.call [] [] 1000 (.int .u8 1) [], .no, .call [] [(1000, 1002)] 1000 (.slice (some ⟨1000, 0, none⟩) 19 19) readers_post, .lit 7, .call [] [] 1000 (Unit.enc (u_cpx u m)) []] (And.intro (aKind_ok 7) (And.intro (Eq.refl false) (And.intro readers_p1 (And.intro (Eq.refl (7 : Int)) (And.intro (by decide : 7 < 19) (And.intro (u_cpx_ok u m) trivial)))))) (by kernel_rfl)
theorem uRead_7_ok (u : Unit) (m : Int) : FnSpec Try.prog 19 1000 [Unit.enc u, .int .u8 7, .int .u8 m] [] (Unit.enc (uRead_7 u m)) [] := by
  exact uRead_7_p1 u m

/-- (kotatsu/alu.Unit).Read -/
def uRead_8 (u : Unit) (m : Int) : Unit :=
  (u_cpy u m)
theorem uRead_8_p1 (u : Unit) (m : Int) : FnSpec Try.prog 19 1000 [Unit.enc u, .int .u8 8, .int .u8 m] [] (Unit.enc (u_cpy u m)) [] := by
  exact fn_of_x hG hM Try.func19 (by kernel_rfl) (by kernel_rfl) 400 [.call [] [] 1000 (.int .u8 1) [], .no, .call [] [(1000, 1002)] 1000 (.slice (some ⟨1000, 0, none⟩) 19 19) readers_post, .lit 8, .call [] [] 1000 (Unit.enc (u_cpy u m)) []] (And.intro (aKind_ok 8) (And.intro (Eq.refl false) (And.intro readers_p1 (And.intro (Eq.refl (8 : Int)) (And.intro (by decide : 8 < 19) (And.intro (u_cpy_ok u m) trivial)))))) (by kernel_rfl)
theorem uRead_8_ok (u : Unit) (m : Int) : FnSpec Try.prog 19 1000 [Unit.enc u, .int .u8 8, .int .u8 m] [] (Unit.enc (uRead_8 u m)) [] := by
  exact uRead_8_p1 u m

/-- (kotatsu/alu.Unit).Read -/
def uRead_9 (u : Unit) (m : Int) : Unit :=
  (uLoad u m)
theorem uRead_9_p1 (u : Unit) (m : Int) : FnSpec Try.prog 19 1000 [Unit.enc u, .int .u8 9, .int .u8 m] [] (Unit.enc (uLoad u m)) [] := by
  exact fn_of_x hG hM Try.func19 (by kernel_rfl) (by kernel_rfl) 400 [.call [] [] 1000 (.int .u8 1) [], .no, .call [] [(1000, 1002)] 1000 (.slice (some ⟨1000, 0, none⟩) 19 19) readers_post, .lit 9, .call [] [] 1000 (Unit.enc (uLoad u m)) []] (And.intro (aKind_ok 9) (And.intro (Eq.refl false) (And.intro readers_p1 (And.intro (Eq.refl (9 : Int)) (And.intro (by decide : 9 < 19) (And.intro (uLoad_ok u m) trivial)))))) (by kernel_rfl)
theorem uRead_9_ok (u : Unit) (m : Int) : FnSpec Try.prog 19 1000 [Unit.enc u, .int .u8 9, .int .u8 m] [] (Unit.enc (uRead_9 u m)) [] := by
  exact uRead_9_p1 u m

/-- (kotatsu/alu.Unit).Read -/
def uRead_10 (u : Unit) (m : Int) : Unit :=
  (u_ldx u m)
theorem uRead_10_p1 (u : Unit) (m : Int) : FnSpec Try.prog 19 1000 [Unit.enc u, .int .u8 10, .int .u8 m] [] (Unit.enc (u_ldx u m)) [] := by
  exact fn_of_x hG hM Try.func19 (by kernel_rfl) (by kernel_rfl) 400 [.call [] [] 1000 (.int .u8 1) [], .no, .call [] [(1000, 1002)] 1000 (.slice (some ⟨1000, 0, none⟩) 19 19) readers_post, .lit 10, .call [] [] 1000 (Unit.enc (u_ldx u m)) []] (And.intro (aKind_ok 10) (And.intro (Eq.refl false) (And.intro readers_p1 (And.intro (Eq.refl (10 : Int)) (And.intro (by decide : 10 < 19) (And.intro (u_ldx_ok u m) trivial)))))) (by kernel_rfl)
theorem uRead_10_ok (u : Unit) (m : Int) : FnSpec Try.prog 19 1000 [Unit.enc u, .int .u8 10, .int .u8 m] [] (Unit.enc (uRead_10 u m)) [] := by
  exact uRead_10_p1 u m

/-- (kotatsu/alu.Unit).Read -/
def uRead_11 (u : Unit) (m : Int) : Unit :=
  (u_ldy u m)
theorem uRead_11_p1 (u : Unit) (m : Int) : FnSpec Try.prog 19 1000 [Unit.enc u, .int .u8 11, .int .u8 m] [] (Unit.enc (u_ldy u m)) [] := by
  exact fn_of_x hG hM Try.func19 (by kernel_rfl) (by kernel_rfl) 400 [.call [] [] 1000 (.int .u8 1) [], .no, .call [] [(1000, 1002)] 1000 (.slice (some ⟨1000, 0, none⟩) 19 19) readers_post, .lit 11, .call [] [] 1000 (Unit.enc (u_ldy u m)) []] (And.intro (aKind_ok 11) (And.intro (Eq.refl false) (And.intro readers_p1 (And.intro (Eq.refl (11 : Int)) (And.intro (by decide : 11 < 19) (And.intro (u_ldy_ok u m) trivial)))))) (by kernel_rfl)
theorem uRead_11_ok (u : Unit) (m : Int) : FnSpec Try.prog 19 1000 [Unit.enc u, .int .u8 11, .int .u8 m] [] (Unit.enc (uRead_11 u m)) [] := by
  exact uRead_11_p1 u m

/-- (kotatsu/alu.Unit).Read -/
def uRead_12 (u : Unit) (m : Int) : Unit :=
  (u_bit u m)
theorem uRead_12_p1 (u : Unit) (m : Int) : FnSpec Try.prog 19 1000 [Unit.enc u, .int .u8 12, .int .u8 m] [] (Unit.enc (u_bit u m)) [] := by
  exact fn_of_x hG hM Try.func19 (by kernel_rfl) (by kernel_rfl) 400 [.call [] [] 1000 (.int .u8 1) [], .no, .call [] [(1000, 1002)] 1000 (.slice (some ⟨1000, 0, none⟩) 19 19) readers_post, .lit 12, .call [] [] 1000 (Unit.enc (u_bit u m)) []] (And.intro (aKind_ok 12) (And.intro (Eq.refl false) (And.intro readers_p1 (And.intro (Eq.refl (12 : Int)) (And.intro (by decide : 12 < 19) (And.intro (u_bit_ok u m) trivial)))))) (by kernel_rfl)
theorem uRead_12_ok (u : Unit) (m : Int) : FnSpec Try.prog 19 1000 [Unit.enc u, .int .u8 12, .int .u8 m] [] (Unit.enc (uRead_12 u m)) [] := by
  exact uRead_12_p1 u m

/-- (kotatsu/alu.Unit).Read -/
def uRead_13 (u : Unit) (m : Int) : Unit :=
  (u_lax u m)
theorem uRead_13_p1 (u : Unit) (m : Int) : FnSpec Try.prog 19 1000 [Unit.enc u, .int .u8 13, .int .u8 m] [] (Unit.enc (u_lax u m)) [] := by
  exact fn_of_x hG hM Try.func19 (by kernel_rfl) (by kernel_rfl) 400 [.call [] [] 1000 (.int .u8 1) [], .no, .call [] [(1000, 1002)] 1000 (.slice (some ⟨1000, 0, none⟩) 19 19) readers_post, .lit 13, .call [] [] 1000 (Unit.enc (u_lax u m)) []] (And.intro (aKind_ok 13) (And.intro (Eq.refl false) (And.intro readers_p1 (And.intro (Eq.refl (13 : Int)) (And.intro (by decide : 13 < 19) (And.intro (u_lax_ok u m) trivial)))))) (by kernel_rfl)
theorem uRead_13_ok (u : Unit) (m : Int) : FnSpec Try.prog 19 1000 [Unit.enc u, .int .u8 13, .int .u8 m] [] (Unit.enc (uRead_13 u m)) [] := by
  exact uRead_13_p1 u m

/-- (kotatsu/alu.Unit).Read -/
def uRead_14 (u : Unit) (m : Int) : Unit :=
  (u_anc u m)
theorem uRead_14_p1 (u : Unit) (m : Int) : FnSpec Try.prog 19 1000 [Unit.enc u, .int .u8 14, .int .u8 m] [] (Unit.enc (u_anc u m)) [] := by
  exact fn_of_x hG hM Try.func19 (by kernel_rfl) (by kernel_rfl) 400 [.call [] [] 1000 (.int .u8 1) [], .no, .call [] [(1000, 1002)] 1000 (.slice (some ⟨1000, 0, none⟩) 19 19) readers_post, .lit 14, .call [] [] 1000 (Unit.enc (u_anc u m)) []] (And.intro (aKind_ok 14) (And.intro (Eq.refl false) (And.intro readers_p1 (And.intro (Eq.refl (14 : Int)) (And.intro (by decide : 14 < 19) (And.intro (u_anc_ok u m) trivial)))))) (by kernel_rfl)
theorem uRead_14_ok (u : Unit) (m : Int) : FnSpec Try.prog 19 1000 [Unit.enc u, .int .u8 14, .int .u8 m] [] (Unit.enc (uRead_14 u m)) [] := by
  exact uRead_14_p1 u m

/-- (kotatsu/alu.Unit).Read -/
def uRead_15 (u : Unit) (m : Int) : Unit :=
  (u_alr u m)
theorem uRead_15_p1 (u : Unit) (m : Int) : FnSpec Try.prog 19 1000 [Unit.enc u, .int .u8 15, .int .u8 m] [] (Unit.enc (u_alr u m)) [] := by
  exact fn_of_x hG hM Try.func19 (by kernel_rfl) (by kernel_rfl) 400 [.call [] [] 1000 (.int .u8 1) [], .no, .call [] [(1000, 1002)] 1000 (.slice (some ⟨1000, 0, none⟩) 19 19) readers_post, .lit 15, .call [] [] 1000 (Unit.enc (u_alr u m)) []] (And.intro (aKind_ok 15) (And.intro (Eq.refl false) (And.intro readers_p1 (And.intro (Eq.refl (15 : Int)) (And.intro (by decide : 15 < 19) (And.intro (u_alr_ok u m) trivial)))))) (by kernel_rfl)
theorem uRead_15_ok (u : Unit) (m : Int) : FnSpec Try.prog 19 1000 [Unit.enc u, .int .u8 15, .int .u8 m] [] (Unit.enc (uRead_15 u m)) [] := by
  exact uRead_15_p1 u m

/-- (kotatsu/alu.Unit).Read -/
def uRead_16 (u : Unit) (m : Int) : Unit :=
  (u_arr u m)
theorem uRead_16_p1 (u : Unit) (m : Int) : FnSpec Try.prog 19 1000 [Unit.enc u, .int .u8 16, .int .u8 m] [] (Unit.enc (u_arr u m)) [] := by
  exact fn_of_x hG hM Try.func19 (by kernel_rfl) (by kernel_rfl) 400 [.call [] [] 1000 (.int .u8 1) [], .no, .call [] [(1000, 1002)] 1000 (.slice (some ⟨1000, 0, none⟩) 19 19) readers_post, .lit 16, .call [] [] 1000 (Unit.enc (u_arr u m)) []] (And.intro (aKind_ok 16) (And.intro (Eq.refl false) (And.intro readers_p1 (And.intro (Eq.refl (16 : Int)) (And.intro (by decide : 16 < 19) (And.intro (u_arr_ok u m) trivial)))))) (by kernel_rfl)
theorem uRead_16_ok (u : Unit) (m : Int) : FnSpec Try.prog 19 1000 [Unit.enc u, .int .u8 16, .int .u8 m] [] (Unit.enc (uRead_16 u m)) [] := by
  exact uRead_16_p1 u m

/-- (kotatsu/alu.Unit).Read -/
def uRead_17 (u : Unit) (m : Int) : Unit :=
  (u_axs u m)
theorem uRead_17_p1 (u : Unit) (m : Int) : FnSpec Try.prog 19 1000 [Unit.enc u, .int .u8 17, .int .u8 m] [] (Unit.enc (u_axs u m)) [] := by
  exact fn_of_x hG hM Try.func19 (by kernel_rfl) (by kernel_rfl) 400 [.call [] [] 1000 (.int .u8 1) [], .no, .call [] [(1000, 1002)] 1000 (.slice (some ⟨1000, 0, none⟩) 19 19) readers_post, .lit 17, .call [] [] 1000 (Unit.enc (u_axs u m)) []] (And.intro (aKind_ok 17) (And.intro (Eq.refl false) (And.intro readers_p1 (And.intro (Eq.refl (17 : Int)) (And.intro (by decide : 17 < 19) (And.intro (u_axs_ok u m) trivial)))))) (by kernel_rfl)
theorem uRead_17_ok (u : Unit) (m : Int) : FnSpec Try.prog 19 1000 [Unit.enc u, .int .u8 17, .int .u8 m] [] (Unit.enc (uRead_17 u m)) [] := by
  exact uRead_17_p1 u m

/-- (kotatsu/alu.Unit).Read -/
def uRead_18 (u : Unit) (m : Int) : Unit :=
  (u_las u m)
theorem uRead_18_p1 (u : Unit) (m : Int) : FnSpec Try.prog 19 1000 [Unit.enc u, .int .u8 18, .int .u8 m] [] (Unit.enc (u_las u m)) [] := by
  exact fn_of_x hG hM Try.func19 (by kernel_rfl) (by kernel_rfl) 400 [.call [] [] 1000 (.int .u8 1) [], .no, .call [] [(1000, 1002)] 1000 (.slice (some ⟨1000, 0, none⟩) 19 19) readers_post, .lit 18, .call [] [] 1000 (Unit.enc (u_las u m)) []] (And.intro (aKind_ok 18) (And.intro (Eq.refl false) (And.intro readers_p1 (And.intro (Eq.refl (18 : Int)) (And.intro (by decide : 18 < 19) (And.intro (u_las_ok u m) trivial)))))) (by kernel_rfl)
theorem uRead_18_ok (u : Unit) (m : Int) : FnSpec Try.prog 19 1000 [Unit.enc u, .int .u8 18, .int .u8 m] [] (Unit.enc (uRead_18 u m)) [] := by
  exact uRead_18_p1 u m

/-- (kotatsu/alu.Unit).Read -/
def uRead_else (u : Unit) (op : Int) (m : Int) : Unit :=
  u
theorem uRead_else_p1 (u : Unit) (op : Int) (m : Int) (h : (((aKind op) : Int) != 1) = true) : FnSpec Try.prog 19 1000 [Unit.enc u, .int .u8 op, .int .u8 m] [] (Unit.enc u) [] := by
  exact fn_of_x hG hM Try.func19 (by kernel_rfl) (by kernel_rfl) 400 [.call [] [] 1000 (.int .u8 (aKind op)) [], .yes] (And.intro (aKind_ok op) (And.intro h trivial)) (by kernel_rfl)
theorem uRead_else_ok (u : Unit) (op : Int) (m : Int) (h : (((aKind op) : Int) != 1) = true) : FnSpec Try.prog 19 1000 [Unit.enc u, .int .u8 op, .int .u8 m] [] (Unit.enc (uRead_else u op m)) [] := by
  exact uRead_else_p1 u op m h

end Go.Proofs.Ytfjeifmenlnkkaa
