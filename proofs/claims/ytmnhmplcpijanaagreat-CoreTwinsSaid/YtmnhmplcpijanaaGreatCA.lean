/-
  What the processor reckons, of each operation. Written by gen_core.py. No condition.
-/
import Derived.Test.YtmnhmplcpijanaaGreatVS
import Derived.Test.YtmnhmplcpijanaaGreatVR
import Derived.Test.YtmnhmplcpijanaaGreatVP
import Derived.Test.YtmnhmplcpijanaaGreatVT
import Derived.Test.YtmnhmplcpijanaaGreatVY
import Derived.Test.YtmnhmplcpijanaaGreatRows
namespace Go.Proofs.YtmnhmplcpijanaaGreat
open Go VX
set_option linter.unusedVariables false
set_option linter.unusedSimpArgs false
set_option maxRecDepth 100000

theorem hG : Tryz.prog.globals.size ≤ 1000 := of_decide_eq_true (by kernel_rfl)
theorem hM : Tryz.prog.follows .mixedOrders = true := by kernel_rfl
theorem bt (b : Bool) : b = true ∨ b = false := by cases b <;> simp
theorem nt {b : Bool} (h : b = false) : ¬ b = true := by rw [h]; decide
theorem nf {b : Bool} (h : b = false) : (!b) = true := by rw [h]; rfl

structure Un where
  A : Int
  X : Int
  Y : Int
  S : Int
  P : Int
def Un.enc (s : Un) : Value := .agg ⟨[.int .u8 s.A, .int .u8 s.X, .int .u8 s.Y, .int .u8 s.S, .int .u8 s.P]⟩
def Un.blk (s : Un) : Blk := ⟨[.one (.int .u8 s.A), .one (.int .u8 s.X), .one (.int .u8 s.Y), .one (.int .u8 s.S), .one (.int .u8 s.P)], 24, false⟩
def Un.cells (s : Un) : List Value := [.int .u8 s.A, .int .u8 s.X, .int .u8 s.Y, .int .u8 s.S, .int .u8 s.P]
structure Un.ok (s : Un) : Prop where
  A : rng 256 s.A
  X : rng 256 s.X
  Y : rng 256 s.Y
  S : rng 256 s.S
  P : rng 256 s.P

/-- kotatsu/alu.Kind -/
def aKind (op : Int) : Int :=
  if (decide ((op : Int) ≤ 18)) = true then
    1
  else
    if (decide ((op : Int) ≤ 30)) = true then
      2
    else
      if (decide ((op : Int) ≤ 34)) = true then
        3
      else
        if (decide ((op : Int) ≤ 51)) = true then
          4
        else
          if (decide ((op : Int) ≤ 59)) = true then
            5
          else
            if (decide ((op : Int) ≤ 69)) = true then
              6
            else
              0
theorem aKind_ok (op : Int) : FnSpec Tryz.prog 15 1000 [.int .u8 op] [] (.int .u8 (aKind op)) [] := by
  unfold aKind
  rcases bt (decide ((op : Int) ≤ 18)) with c1 | c1
  · rw [if_pos c1]
    exact fn_of_x hG hM Tryz.func15 (by kernel_rfl) (by kernel_rfl) 400 [.yes] (J c1 trivial) (by kernel_rfl)
  · rw [if_neg (nt c1)]
    rcases bt (decide ((op : Int) ≤ 30)) with c2 | c2
    · rw [if_pos c2]
      exact fn_of_x hG hM Tryz.func15 (by kernel_rfl) (by kernel_rfl) 400 [.no, .yes] (J c1 (J c2 trivial)) (by kernel_rfl)
    · rw [if_neg (nt c2)]
      rcases bt (decide ((op : Int) ≤ 34)) with c3 | c3
      · rw [if_pos c3]
        exact fn_of_x hG hM Tryz.func15 (by kernel_rfl) (by kernel_rfl) 400 [.no, .no, .yes] (J c1 (J c2 (J c3 trivial))) (by kernel_rfl)
      · rw [if_neg (nt c3)]
        rcases bt (decide ((op : Int) ≤ 51)) with c4 | c4
        · rw [if_pos c4]
          exact fn_of_x hG hM Tryz.func15 (by kernel_rfl) (by kernel_rfl) 400 [.no, .no, .no, .yes] (J c1 (J c2 (J c3 (J c4 trivial)))) (by kernel_rfl)
        · rw [if_neg (nt c4)]
          rcases bt (decide ((op : Int) ≤ 59)) with c5 | c5
          · rw [if_pos c5]
            exact fn_of_x hG hM Tryz.func15 (by kernel_rfl) (by kernel_rfl) 400 [.no, .no, .no, .no, .yes] (J c1 (J c2 (J c3 (J c4 (J c5 trivial))))) (by kernel_rfl)
          · rw [if_neg (nt c5)]
            rcases bt (decide ((op : Int) ≤ 69)) with c6 | c6
            · rw [if_pos c6]
              exact fn_of_x hG hM Tryz.func15 (by kernel_rfl) (by kernel_rfl) 400 [.no, .no, .no, .no, .no, .yes] (J c1 (J c2 (J c3 (J c4 (J c5 (J c6 trivial)))))) (by kernel_rfl)
            · rw [if_neg (nt c6)]
              exact fn_of_x hG hM Tryz.func15 (by kernel_rfl) (by kernel_rfl) 400 [.no, .no, .no, .no, .no, .no] (J c1 (J c2 (J c3 (J c4 (J c5 (J c6 trivial)))))) (by kernel_rfl)

theorem aKind_w (op : Int) (w_op : rng 256 op) : rng 256 (aKind op) := by
  unfold aKind
  rcases bt (decide ((op : Int) ≤ 18)) with c1 | c1
  · rw [if_pos c1]
    exact (by decide : rng 256 1)
  · rw [if_neg (nt c1)]
    rcases bt (decide ((op : Int) ≤ 30)) with c2 | c2
    · rw [if_pos c2]
      exact (by decide : rng 256 2)
    · rw [if_neg (nt c2)]
      rcases bt (decide ((op : Int) ≤ 34)) with c3 | c3
      · rw [if_pos c3]
        exact (by decide : rng 256 3)
      · rw [if_neg (nt c3)]
        rcases bt (decide ((op : Int) ≤ 51)) with c4 | c4
        · rw [if_pos c4]
          exact (by decide : rng 256 4)
        · rw [if_neg (nt c4)]
          rcases bt (decide ((op : Int) ≤ 59)) with c5 | c5
          · rw [if_pos c5]
            exact (by decide : rng 256 5)
          · rw [if_neg (nt c5)]
            rcases bt (decide ((op : Int) ≤ 69)) with c6 | c6
            · rw [if_pos c6]
              exact (by decide : rng 256 6)
            · rw [if_neg (nt c6)]
              exact (by decide : rng 256 0)

/-- a piece of (kotatsu/alu.Unit).Flag -/
def uFlag_J1 (bit : Int) (on : Bool) (xd : Un) : Un :=
  if on = true then
    ({ xd with P := (bOr .u8 xd.P bit) } : Un)
  else
    xd
def uFlag_J1_T (bit : Int) (on : Bool) (xd : Un) : Tm := [(1, .int .u8 bit), (3, .pointer (some ⟨1000, 0, none⟩)), (6, .pointer (some ⟨1001, 0, none⟩)), (12, .bool on)]
def uFlag_J1_H (bit : Int) (on : Bool) (xd : Un) : Heap := [(1000, Un.blk xd)]
def uFlag_J1_T1 (bit : Int) (on : Bool) (xd : Un) (r_ : Un) : Tm := [(3, .pointer (some ⟨1000, 0, none⟩)), (6, .pointer (some ⟨1001, 0, none⟩))]
def uFlag_J1_H1 (bit : Int) (on : Bool) (xd : Un) (r_ : Un) : Heap := [(1000, Un.blk r_)]
theorem uFlag_J1_p1 (bit : Int) (on : Bool) (xd : Un) (d1 : on = true) : Runs Tryz.prog 19 (bodyOf Tryz.f61 [1, 1, 0, 1]) (uFlag_J1_T bit on xd) (uFlag_J1_H bit on xd) 1002 .normal (uFlag_J1_T1 bit on xd ({ xd with P := (bOr .u8 xd.P bit) } : Un)) (uFlag_J1_H1 bit on xd ({ xd with P := (bOr .u8 xd.P bit) } : Un)) 1002 := by
  exact runs_of_x hG hM 400 [.yes] (J d1 trivial) (by kernel_rfl)
theorem uFlag_J1_p2 (bit : Int) (on : Bool) (xd : Un) (d1 : on = false) : Runs Tryz.prog 19 (bodyOf Tryz.f61 [1, 1, 0, 1]) (uFlag_J1_T bit on xd) (uFlag_J1_H bit on xd) 1002 .normal (uFlag_J1_T1 bit on xd xd) (uFlag_J1_H1 bit on xd xd) 1002 := by
  exact runs_of_x hG hM 400 [.no] (J d1 trivial) (by kernel_rfl)
theorem uFlag_J1_runs (bit : Int) (on : Bool) (xd : Un) : Runs Tryz.prog 19 (bodyOf Tryz.f61 [1, 1, 0, 1]) (uFlag_J1_T bit on xd) (uFlag_J1_H bit on xd) 1002 .normal (uFlag_J1_T1 bit on xd (uFlag_J1 bit on xd)) (uFlag_J1_H1 bit on xd (uFlag_J1 bit on xd)) 1002 := by
  rcases bt on with d1 | d1
  ·
    rw [show uFlag_J1 bit on xd = ({ xd with P := (bOr .u8 xd.P bit) } : Un) from by unfold uFlag_J1; rw [if_pos d1]]
    exact uFlag_J1_p1 bit on xd d1
  ·
    rw [show uFlag_J1 bit on xd = xd from by unfold uFlag_J1; rw [if_neg (nt d1)]]
    exact uFlag_J1_p2 bit on xd d1
theorem uFlag_J1_w (bit : Int) (on : Bool) (xd : Un) (v1d : Un.ok xd) : Un.ok (uFlag_J1 bit on xd) := by
  rcases bt on with d1 | d1
  ·
    rw [show uFlag_J1 bit on xd = ({ xd with P := (bOr .u8 xd.P bit) } : Un) from by unfold uFlag_J1; rw [if_pos d1]]
    exact (⟨v1d.A, v1d.X, v1d.Y, v1d.S, (rng_bOr_u8 xd.P bit)⟩ : Un.ok ({ xd with P := (bOr .u8 xd.P bit) } : Un))
  ·
    rw [show uFlag_J1 bit on xd = xd from by unfold uFlag_J1; rw [if_neg (nt d1)]]
    exact v1d

/-- (kotatsu/alu.Unit).Flag -/
def uFlag (u : Un) (bit : Int) (on : Bool) : Un :=
  (uFlag_J1 bit on ({ u with P := (bAndNot .u8 u.P bit) } : Un))
theorem uFlag_ok (u : Un) (bit : Int) (on : Bool) : FnSpec Tryz.prog 61 1000 [Un.enc u, .int .u8 bit, .bool on] [] (Un.enc (uFlag u bit on)) [] := by
  unfold uFlag
  exact fn_of_x hG hM Tryz.func61 (by kernel_rfl) (by kernel_rfl) 400 [.segk 2 0 [1, 3, 6, 12] [1000] .normal (uFlag_J1_T1 bit on ({ u with P := (bAndNot .u8 u.P bit) } : Un) (uFlag_J1 bit on ({ u with P := (bAndNot .u8 u.P bit) } : Un))) (uFlag_J1_H1 bit on ({ u with P := (bAndNot .u8 u.P bit) } : Un) (uFlag_J1 bit on ({ u with P := (bAndNot .u8 u.P bit) } : Un))) 1002] (J (uFlag_J1_runs bit on ({ u with P := (bAndNot .u8 u.P bit) } : Un)) trivial) (by kernel_rfl)

theorem uFlag_w (u : Un) (bit : Int) (on : Bool) (w_u : Un.ok u) (w_bit : rng 256 bit) : Un.ok (uFlag u bit on) := by
  unfold uFlag
  exact (uFlag_J1_w bit on ({ u with P := (bAndNot .u8 u.P bit) } : Un) (⟨w_u.A, w_u.X, w_u.Y, w_u.S, (rng_bAndNot_u8 u.P bit)⟩ : Un.ok ({ u with P := (bAndNot .u8 u.P bit) } : Un)))

/-- (kotatsu/alu.Unit).sign -/
def uSign (u : Un) (m : Int) : Un :=
  (uFlag (uFlag u 128 (((bAnd .u8 m 128) : Int) != 0)) 2 ((m : Int) == 0))
theorem uSign_ok (u : Un) (m : Int) : FnSpec Tryz.prog 152 1000 [Un.enc u, .int .u8 m] [] (Un.enc (uSign u m)) [] := by
  unfold uSign
  exact fn_of_x hG hM Tryz.func152 (by kernel_rfl) (by kernel_rfl) 400 [.call [] [] 1000 (Un.enc (uFlag u 128 (((bAnd .u8 m 128) : Int) != 0))) [], .call [] [] 1000 (Un.enc (uFlag (uFlag u 128 (((bAnd .u8 m 128) : Int) != 0)) 2 ((m : Int) == 0))) []] (J (uFlag_ok u 128 (((bAnd .u8 m 128) : Int) != 0)) (J (uFlag_ok (uFlag u 128 (((bAnd .u8 m 128) : Int) != 0)) 2 ((m : Int) == 0)) trivial)) (by kernel_rfl)

theorem uSign_w (u : Un) (m : Int) (w_u : Un.ok u) (w_m : rng 256 m) : Un.ok (uSign u m) := by
  unfold uSign
  exact (uFlag_w (uFlag u 128 (((bAnd .u8 m 128) : Int) != 0)) 2 ((m : Int) == 0) (uFlag_w u 128 (((bAnd .u8 m 128) : Int) != 0) w_u (by decide : rng 256 128)) (by decide : rng 256 2))

/-- (kotatsu/alu.Unit).load -/
def uLoad (u : Un) (m : Int) : Un :=
  (uSign ({ u with A := m } : Un) m)
theorem uLoad_ok (u : Un) (m : Int) : FnSpec Tryz.prog 138 1000 [Un.enc u, .int .u8 m] [] (Un.enc (uLoad u m)) [] := by
  unfold uLoad
  exact fn_of_x hG hM Tryz.func138 (by kernel_rfl) (by kernel_rfl) 400 [.call [] [] 1000 (Un.enc (uSign ({ u with A := m } : Un) m)) []] (J (uSign_ok ({ u with A := m } : Un) m) trivial) (by kernel_rfl)

theorem uLoad_w (u : Un) (m : Int) (w_u : Un.ok u) (w_m : rng 256 m) : Un.ok (uLoad u m) := by
  unfold uLoad
  exact (uSign_w ({ u with A := m } : Un) m (⟨w_m, w_u.X, w_u.Y, w_u.S, w_u.P⟩ : Un.ok ({ u with A := m } : Un)) w_m)

/-- (kotatsu/alu.Unit).shifted -/
def uShifted (u : Un) (m : Int) (out : Bool) : Un × Int :=
  ((uSign (uFlag u 1 out) m), m)
theorem uShifted_ok (u : Un) (m : Int) (out : Bool) : FnSpec Tryz.prog 153 1000 [Un.enc u, .int .u8 m, .bool out] [] (.tuple ⟨[Un.enc ((uShifted u m out).1), .int .u8 ((uShifted u m out).2)]⟩) [] := by
  unfold uShifted
  exact fn_of_x hG hM Tryz.func153 (by kernel_rfl) (by kernel_rfl) 400 [.call [] [] 1000 (Un.enc (uFlag u 1 out)) [], .call [] [] 1000 (Un.enc (uSign (uFlag u 1 out) m)) []] (J (uFlag_ok u 1 out) (J (uSign_ok (uFlag u 1 out) m) trivial)) (by kernel_rfl)

theorem uShifted_w1 (u : Un) (m : Int) (out : Bool) (w_u : Un.ok u) (w_m : rng 256 m) : Un.ok (uShifted u m out).1 := by
  unfold uShifted
  exact (uSign_w (uFlag u 1 out) m (uFlag_w u 1 out w_u (by decide : rng 256 1)) w_m)

theorem uShifted_w2 (u : Un) (m : Int) (out : Bool) (w_u : Un.ok u) (w_m : rng 256 m) : rng 256 (uShifted u m out).2 := by
  unfold uShifted
  exact w_m

/-- (kotatsu/alu.Unit).asl -/
def uAsl (u : Un) (m : Int) : Un × Int :=
  ((uShifted u (bShl .u8 m 1) (((bAnd .u8 m 128) : Int) != 0)).1, (uShifted u (bShl .u8 m 1) (((bAnd .u8 m 128) : Int) != 0)).2)
theorem uAsl_ok (u : Un) (m : Int) : FnSpec Tryz.prog 139 1000 [Un.enc u, .int .u8 m] [] (.tuple ⟨[Un.enc ((uAsl u m).1), .int .u8 ((uAsl u m).2)]⟩) [] := by
  unfold uAsl
  exact fn_of_x hG hM Tryz.func139 (by kernel_rfl) (by kernel_rfl) 400 [.call [] [] 1000 (.tuple ⟨[Un.enc ((uShifted u (bShl .u8 m 1) (((bAnd .u8 m 128) : Int) != 0)).1), .int .u8 ((uShifted u (bShl .u8 m 1) (((bAnd .u8 m 128) : Int) != 0)).2)]⟩) []] (J (by decide : (0 : Int) ≤ 1) (J (uShifted_ok u (bShl .u8 m 1) (((bAnd .u8 m 128) : Int) != 0)) trivial)) (by kernel_rfl)

theorem uAsl_w1 (u : Un) (m : Int) (w_u : Un.ok u) (w_m : rng 256 m) : Un.ok (uAsl u m).1 := by
  unfold uAsl
  exact (uShifted_w1 u (bShl .u8 m 1) (((bAnd .u8 m 128) : Int) != 0) w_u (rng_bShl_u8 m 1))

theorem uAsl_w2 (u : Un) (m : Int) (w_u : Un.ok u) (w_m : rng 256 m) : rng 256 (uAsl u m).2 := by
  unfold uAsl
  exact (uShifted_w2 u (bShl .u8 m 1) (((bAnd .u8 m 128) : Int) != 0) w_u (rng_bShl_u8 m 1))

/-- (kotatsu/alu.Unit).lsr -/
def uLsr (u : Un) (m : Int) : Un × Int :=
  ((uShifted u (bShr .u8 m 1) (((bAnd .u8 m 1) : Int) != 0)).1, (uShifted u (bShr .u8 m 1) (((bAnd .u8 m 1) : Int) != 0)).2)
theorem uLsr_ok (u : Un) (m : Int) : FnSpec Tryz.prog 140 1000 [Un.enc u, .int .u8 m] [] (.tuple ⟨[Un.enc ((uLsr u m).1), .int .u8 ((uLsr u m).2)]⟩) [] := by
  unfold uLsr
  exact fn_of_x hG hM Tryz.func140 (by kernel_rfl) (by kernel_rfl) 400 [.call [] [] 1000 (.tuple ⟨[Un.enc ((uShifted u (bShr .u8 m 1) (((bAnd .u8 m 1) : Int) != 0)).1), .int .u8 ((uShifted u (bShr .u8 m 1) (((bAnd .u8 m 1) : Int) != 0)).2)]⟩) []] (J (by decide : (0 : Int) ≤ 1) (J (uShifted_ok u (bShr .u8 m 1) (((bAnd .u8 m 1) : Int) != 0)) trivial)) (by kernel_rfl)

theorem uLsr_w1 (u : Un) (m : Int) (w_u : Un.ok u) (w_m : rng 256 m) : Un.ok (uLsr u m).1 := by
  unfold uLsr
  exact (uShifted_w1 u (bShr .u8 m 1) (((bAnd .u8 m 1) : Int) != 0) w_u (rng_bShr w_m .u8 1))

theorem uLsr_w2 (u : Un) (m : Int) (w_u : Un.ok u) (w_m : rng 256 m) : rng 256 (uLsr u m).2 := by
  unfold uLsr
  exact (uShifted_w2 u (bShr .u8 m 1) (((bAnd .u8 m 1) : Int) != 0) w_u (rng_bShr w_m .u8 1))

/-- (kotatsu/alu.Unit).rol -/
def uRol (u : Un) (m : Int) : Un × Int :=
  ((uShifted u (bOr .u8 (bShl .u8 m 1) (bAnd .u8 u.P 1)) (((bAnd .u8 m 128) : Int) != 0)).1, (uShifted u (bOr .u8 (bShl .u8 m 1) (bAnd .u8 u.P 1)) (((bAnd .u8 m 128) : Int) != 0)).2)
theorem uRol_ok (u : Un) (m : Int) : FnSpec Tryz.prog 141 1000 [Un.enc u, .int .u8 m] [] (.tuple ⟨[Un.enc ((uRol u m).1), .int .u8 ((uRol u m).2)]⟩) [] := by
  unfold uRol
  exact fn_of_x hG hM Tryz.func141 (by kernel_rfl) (by kernel_rfl) 400 [.call [] [] 1000 (.tuple ⟨[Un.enc ((uShifted u (bOr .u8 (bShl .u8 m 1) (bAnd .u8 u.P 1)) (((bAnd .u8 m 128) : Int) != 0)).1), .int .u8 ((uShifted u (bOr .u8 (bShl .u8 m 1) (bAnd .u8 u.P 1)) (((bAnd .u8 m 128) : Int) != 0)).2)]⟩) []] (J (by decide : (0 : Int) ≤ 1) (J (uShifted_ok u (bOr .u8 (bShl .u8 m 1) (bAnd .u8 u.P 1)) (((bAnd .u8 m 128) : Int) != 0)) trivial)) (by kernel_rfl)

theorem uRol_w1 (u : Un) (m : Int) (w_u : Un.ok u) (w_m : rng 256 m) : Un.ok (uRol u m).1 := by
  unfold uRol
  exact (uShifted_w1 u (bOr .u8 (bShl .u8 m 1) (bAnd .u8 u.P 1)) (((bAnd .u8 m 128) : Int) != 0) w_u (rng_bOr_u8 (bShl .u8 m 1) (bAnd .u8 u.P 1)))

theorem uRol_w2 (u : Un) (m : Int) (w_u : Un.ok u) (w_m : rng 256 m) : rng 256 (uRol u m).2 := by
  unfold uRol
  exact (uShifted_w2 u (bOr .u8 (bShl .u8 m 1) (bAnd .u8 u.P 1)) (((bAnd .u8 m 128) : Int) != 0) w_u (rng_bOr_u8 (bShl .u8 m 1) (bAnd .u8 u.P 1)))

/-- (kotatsu/alu.Unit).ror -/
def uRor (u : Un) (m : Int) : Un × Int :=
  ((uShifted u (bOr .u8 (bShr .u8 m 1) (bShl .u8 (bAnd .u8 u.P 1) 7)) (((bAnd .u8 m 1) : Int) != 0)).1, (uShifted u (bOr .u8 (bShr .u8 m 1) (bShl .u8 (bAnd .u8 u.P 1) 7)) (((bAnd .u8 m 1) : Int) != 0)).2)
theorem uRor_ok (u : Un) (m : Int) : FnSpec Tryz.prog 142 1000 [Un.enc u, .int .u8 m] [] (.tuple ⟨[Un.enc ((uRor u m).1), .int .u8 ((uRor u m).2)]⟩) [] := by
  unfold uRor
  exact fn_of_x hG hM Tryz.func142 (by kernel_rfl) (by kernel_rfl) 400 [.call [] [] 1000 (.tuple ⟨[Un.enc ((uShifted u (bOr .u8 (bShr .u8 m 1) (bShl .u8 (bAnd .u8 u.P 1) 7)) (((bAnd .u8 m 1) : Int) != 0)).1), .int .u8 ((uShifted u (bOr .u8 (bShr .u8 m 1) (bShl .u8 (bAnd .u8 u.P 1) 7)) (((bAnd .u8 m 1) : Int) != 0)).2)]⟩) []] (J (by decide : (0 : Int) ≤ 1) (J (by decide : (0 : Int) ≤ 7) (J (uShifted_ok u (bOr .u8 (bShr .u8 m 1) (bShl .u8 (bAnd .u8 u.P 1) 7)) (((bAnd .u8 m 1) : Int) != 0)) trivial))) (by kernel_rfl)

theorem uRor_w1 (u : Un) (m : Int) (w_u : Un.ok u) (w_m : rng 256 m) : Un.ok (uRor u m).1 := by
  unfold uRor
  exact (uShifted_w1 u (bOr .u8 (bShr .u8 m 1) (bShl .u8 (bAnd .u8 u.P 1) 7)) (((bAnd .u8 m 1) : Int) != 0) w_u (rng_bOr_u8 (bShr .u8 m 1) (bShl .u8 (bAnd .u8 u.P 1) 7)))

theorem uRor_w2 (u : Un) (m : Int) (w_u : Un.ok u) (w_m : rng 256 m) : rng 256 (uRor u m).2 := by
  unfold uRor
  exact (uShifted_w2 u (bOr .u8 (bShr .u8 m 1) (bShl .u8 (bAnd .u8 u.P 1) 7)) (((bAnd .u8 m 1) : Int) != 0) w_u (rng_bOr_u8 (bShr .u8 m 1) (bShl .u8 (bAnd .u8 u.P 1) 7)))

/-- (kotatsu/alu.Unit).inc -/
def uInc (u : Un) (m : Int) : Un × Int :=
  ((uSign u (IntKind.u8.wrap (m + 1))), (IntKind.u8.wrap (m + 1)))
theorem uInc_ok (u : Un) (m : Int) : FnSpec Tryz.prog 143 1000 [Un.enc u, .int .u8 m] [] (.tuple ⟨[Un.enc ((uInc u m).1), .int .u8 ((uInc u m).2)]⟩) [] := by
  unfold uInc
  exact fn_of_x hG hM Tryz.func143 (by kernel_rfl) (by kernel_rfl) 400 [.call [] [] 1000 (Un.enc (uSign u (IntKind.u8.wrap (m + 1)))) []] (J (uSign_ok u (IntKind.u8.wrap (m + 1))) trivial) (by kernel_rfl)

theorem uInc_w1 (u : Un) (m : Int) (w_u : Un.ok u) (w_m : rng 256 m) : Un.ok (uInc u m).1 := by
  unfold uInc
  exact (uSign_w u (IntKind.u8.wrap (m + 1)) w_u (rng_wrap_u8 (m + 1)))

theorem uInc_w2 (u : Un) (m : Int) (w_u : Un.ok u) (w_m : rng 256 m) : rng 256 (uInc u m).2 := by
  unfold uInc
  exact (rng_wrap_u8 (m + 1))

/-- (kotatsu/alu.Unit).dec -/
def uDec (u : Un) (m : Int) : Un × Int :=
  ((uSign u (IntKind.u8.wrap (m - 1))), (IntKind.u8.wrap (m - 1)))
theorem uDec_ok (u : Un) (m : Int) : FnSpec Tryz.prog 144 1000 [Un.enc u, .int .u8 m] [] (.tuple ⟨[Un.enc ((uDec u m).1), .int .u8 ((uDec u m).2)]⟩) [] := by
  unfold uDec
  exact fn_of_x hG hM Tryz.func144 (by kernel_rfl) (by kernel_rfl) 400 [.call [] [] 1000 (Un.enc (uSign u (IntKind.u8.wrap (m - 1)))) []] (J (uSign_ok u (IntKind.u8.wrap (m - 1))) trivial) (by kernel_rfl)

theorem uDec_w1 (u : Un) (m : Int) (w_u : Un.ok u) (w_m : rng 256 m) : Un.ok (uDec u m).1 := by
  unfold uDec
  exact (uSign_w u (IntKind.u8.wrap (m - 1)) w_u (rng_wrap_u8 (m - 1)))

theorem uDec_w2 (u : Un) (m : Int) (w_u : Un.ok u) (w_m : rng 256 m) : rng 256 (uDec u m).2 := by
  unfold uDec
  exact (rng_wrap_u8 (m - 1))

/-- (kotatsu/alu.Unit).ldx -/
def uLdx (u : Un) (m : Int) : Un :=
  (uSign ({ u with X := m } : Un) m)
theorem uLdx_ok (u : Un) (m : Int) : FnSpec Tryz.prog 136 1000 [Un.enc u, .int .u8 m] [] (Un.enc (uLdx u m)) [] := by
  unfold uLdx
  exact fn_of_x hG hM Tryz.func136 (by kernel_rfl) (by kernel_rfl) 400 [.call [] [] 1000 (Un.enc (uSign ({ u with X := m } : Un) m)) []] (J (uSign_ok ({ u with X := m } : Un) m) trivial) (by kernel_rfl)

theorem uLdx_w (u : Un) (m : Int) (w_u : Un.ok u) (w_m : rng 256 m) : Un.ok (uLdx u m) := by
  unfold uLdx
  exact (uSign_w ({ u with X := m } : Un) m (⟨w_u.A, w_m, w_u.Y, w_u.S, w_u.P⟩ : Un.ok ({ u with X := m } : Un)) w_m)

/-- (kotatsu/alu.Unit).ldy -/
def uLdy (u : Un) (m : Int) : Un :=
  (uSign ({ u with Y := m } : Un) m)
theorem uLdy_ok (u : Un) (m : Int) : FnSpec Tryz.prog 137 1000 [Un.enc u, .int .u8 m] [] (Un.enc (uLdy u m)) [] := by
  unfold uLdy
  exact fn_of_x hG hM Tryz.func137 (by kernel_rfl) (by kernel_rfl) 400 [.call [] [] 1000 (Un.enc (uSign ({ u with Y := m } : Un) m)) []] (J (uSign_ok ({ u with Y := m } : Un) m) trivial) (by kernel_rfl)

theorem uLdy_w (u : Un) (m : Int) (w_u : Un.ok u) (w_m : rng 256 m) : Un.ok (uLdy u m) := by
  unfold uLdy
  exact (uSign_w ({ u with Y := m } : Un) m (⟨w_u.A, w_u.X, w_m, w_u.S, w_u.P⟩ : Un.ok ({ u with Y := m } : Un)) w_m)

/-- (kotatsu/alu.Unit).nop -/
def uNop (u : Un) (m : Int) : Un :=
  u
theorem uNop_ok (u : Un) (m : Int) : FnSpec Tryz.prog 161 1000 [Un.enc u, .int .u8 m] [] (Un.enc (uNop u m)) [] := by
  unfold uNop
  exact fn_of_x hG hM Tryz.func161 (by kernel_rfl) (by kernel_rfl) 400 [] trivial (by kernel_rfl)

theorem uNop_w (u : Un) (m : Int) (w_u : Un.ok u) (w_m : rng 256 m) : Un.ok (uNop u m) := by
  unfold uNop
  exact w_u

/-- (kotatsu/alu.Unit).ora -/
def uOra (u : Un) (m : Int) : Un :=
  (uLoad u (bOr .u8 u.A m))
theorem uOra_ok (u : Un) (m : Int) : FnSpec Tryz.prog 155 1000 [Un.enc u, .int .u8 m] [] (Un.enc (uOra u m)) [] := by
  unfold uOra
  exact fn_of_x hG hM Tryz.func155 (by kernel_rfl) (by kernel_rfl) 400 [.call [] [] 1000 (Un.enc (uLoad u (bOr .u8 u.A m))) []] (J (uLoad_ok u (bOr .u8 u.A m)) trivial) (by kernel_rfl)

theorem uOra_w (u : Un) (m : Int) (w_u : Un.ok u) (w_m : rng 256 m) : Un.ok (uOra u m) := by
  unfold uOra
  exact (uLoad_w u (bOr .u8 u.A m) w_u (rng_bOr_u8 u.A m))

/-- (kotatsu/alu.Unit).and -/
def uAnd (u : Un) (m : Int) : Un :=
  (uLoad u (bAnd .u8 u.A m))
theorem uAnd_ok (u : Un) (m : Int) : FnSpec Tryz.prog 156 1000 [Un.enc u, .int .u8 m] [] (Un.enc (uAnd u m)) [] := by
  unfold uAnd
  exact fn_of_x hG hM Tryz.func156 (by kernel_rfl) (by kernel_rfl) 400 [.call [] [] 1000 (Un.enc (uLoad u (bAnd .u8 u.A m))) []] (J (uLoad_ok u (bAnd .u8 u.A m)) trivial) (by kernel_rfl)

theorem uAnd_w (u : Un) (m : Int) (w_u : Un.ok u) (w_m : rng 256 m) : Un.ok (uAnd u m) := by
  unfold uAnd
  exact (uLoad_w u (bAnd .u8 u.A m) w_u (rng_bAnd_u8 u.A m))

/-- (kotatsu/alu.Unit).eor -/
def uEor (u : Un) (m : Int) : Un :=
  (uLoad u (bXor .u8 u.A m))
theorem uEor_ok (u : Un) (m : Int) : FnSpec Tryz.prog 157 1000 [Un.enc u, .int .u8 m] [] (Un.enc (uEor u m)) [] := by
  unfold uEor
  exact fn_of_x hG hM Tryz.func157 (by kernel_rfl) (by kernel_rfl) 400 [.call [] [] 1000 (Un.enc (uLoad u (bXor .u8 u.A m))) []] (J (uLoad_ok u (bXor .u8 u.A m)) trivial) (by kernel_rfl)

theorem uEor_w (u : Un) (m : Int) (w_u : Un.ok u) (w_m : rng 256 m) : Un.ok (uEor u m) := by
  unfold uEor
  exact (uLoad_w u (bXor .u8 u.A m) w_u (rng_bXor_u8 u.A m))

/-- (kotatsu/alu.Unit).adc -/
def uAdc (u : Un) (m : Int) : Un :=
  (uLoad (uFlag (uFlag u 1 (decide (((IntKind.u16.wrap ((IntKind.u16.wrap ((IntKind.u16.wrap u.A) + (IntKind.u16.wrap m))) + (IntKind.u16.wrap (bAnd .u8 u.P 1)))) : Int) > 255))) 64 (((bAnd .u8 (bAnd .u8 (bXor .u8 u.A (IntKind.u8.wrap (IntKind.u16.wrap ((IntKind.u16.wrap ((IntKind.u16.wrap u.A) + (IntKind.u16.wrap m))) + (IntKind.u16.wrap (bAnd .u8 u.P 1)))))) (bXor .u8 m (IntKind.u8.wrap (IntKind.u16.wrap ((IntKind.u16.wrap ((IntKind.u16.wrap u.A) + (IntKind.u16.wrap m))) + (IntKind.u16.wrap (bAnd .u8 u.P 1))))))) 128) : Int) != 0)) (IntKind.u8.wrap (IntKind.u16.wrap ((IntKind.u16.wrap ((IntKind.u16.wrap u.A) + (IntKind.u16.wrap m))) + (IntKind.u16.wrap (bAnd .u8 u.P 1))))))
theorem uAdc_ok (u : Un) (m : Int) : FnSpec Tryz.prog 158 1000 [Un.enc u, .int .u8 m] [] (Un.enc (uAdc u m)) [] := by
  unfold uAdc
  exact fn_of_x hG hM Tryz.func158 (by kernel_rfl) (by kernel_rfl) 400 [.call [] [] 1000 (Un.enc (uFlag u 1 (decide (((IntKind.u16.wrap ((IntKind.u16.wrap ((IntKind.u16.wrap u.A) + (IntKind.u16.wrap m))) + (IntKind.u16.wrap (bAnd .u8 u.P 1)))) : Int) > 255)))) [], .call [] [] 1000 (Un.enc (uFlag (uFlag u 1 (decide (((IntKind.u16.wrap ((IntKind.u16.wrap ((IntKind.u16.wrap u.A) + (IntKind.u16.wrap m))) + (IntKind.u16.wrap (bAnd .u8 u.P 1)))) : Int) > 255))) 64 (((bAnd .u8 (bAnd .u8 (bXor .u8 u.A (IntKind.u8.wrap (IntKind.u16.wrap ((IntKind.u16.wrap ((IntKind.u16.wrap u.A) + (IntKind.u16.wrap m))) + (IntKind.u16.wrap (bAnd .u8 u.P 1)))))) (bXor .u8 m (IntKind.u8.wrap (IntKind.u16.wrap ((IntKind.u16.wrap ((IntKind.u16.wrap u.A) + (IntKind.u16.wrap m))) + (IntKind.u16.wrap (bAnd .u8 u.P 1))))))) 128) : Int) != 0))) [], .call [] [] 1000 (Un.enc (uLoad (uFlag (uFlag u 1 (decide (((IntKind.u16.wrap ((IntKind.u16.wrap ((IntKind.u16.wrap u.A) + (IntKind.u16.wrap m))) + (IntKind.u16.wrap (bAnd .u8 u.P 1)))) : Int) > 255))) 64 (((bAnd .u8 (bAnd .u8 (bXor .u8 u.A (IntKind.u8.wrap (IntKind.u16.wrap ((IntKind.u16.wrap ((IntKind.u16.wrap u.A) + (IntKind.u16.wrap m))) + (IntKind.u16.wrap (bAnd .u8 u.P 1)))))) (bXor .u8 m (IntKind.u8.wrap (IntKind.u16.wrap ((IntKind.u16.wrap ((IntKind.u16.wrap u.A) + (IntKind.u16.wrap m))) + (IntKind.u16.wrap (bAnd .u8 u.P 1))))))) 128) : Int) != 0)) (IntKind.u8.wrap (IntKind.u16.wrap ((IntKind.u16.wrap ((IntKind.u16.wrap u.A) + (IntKind.u16.wrap m))) + (IntKind.u16.wrap (bAnd .u8 u.P 1))))))) []] (J (uFlag_ok u 1 (decide (((IntKind.u16.wrap ((IntKind.u16.wrap ((IntKind.u16.wrap u.A) + (IntKind.u16.wrap m))) + (IntKind.u16.wrap (bAnd .u8 u.P 1)))) : Int) > 255))) (J (uFlag_ok (uFlag u 1 (decide (((IntKind.u16.wrap ((IntKind.u16.wrap ((IntKind.u16.wrap u.A) + (IntKind.u16.wrap m))) + (IntKind.u16.wrap (bAnd .u8 u.P 1)))) : Int) > 255))) 64 (((bAnd .u8 (bAnd .u8 (bXor .u8 u.A (IntKind.u8.wrap (IntKind.u16.wrap ((IntKind.u16.wrap ((IntKind.u16.wrap u.A) + (IntKind.u16.wrap m))) + (IntKind.u16.wrap (bAnd .u8 u.P 1)))))) (bXor .u8 m (IntKind.u8.wrap (IntKind.u16.wrap ((IntKind.u16.wrap ((IntKind.u16.wrap u.A) + (IntKind.u16.wrap m))) + (IntKind.u16.wrap (bAnd .u8 u.P 1))))))) 128) : Int) != 0)) (J (uLoad_ok (uFlag (uFlag u 1 (decide (((IntKind.u16.wrap ((IntKind.u16.wrap ((IntKind.u16.wrap u.A) + (IntKind.u16.wrap m))) + (IntKind.u16.wrap (bAnd .u8 u.P 1)))) : Int) > 255))) 64 (((bAnd .u8 (bAnd .u8 (bXor .u8 u.A (IntKind.u8.wrap (IntKind.u16.wrap ((IntKind.u16.wrap ((IntKind.u16.wrap u.A) + (IntKind.u16.wrap m))) + (IntKind.u16.wrap (bAnd .u8 u.P 1)))))) (bXor .u8 m (IntKind.u8.wrap (IntKind.u16.wrap ((IntKind.u16.wrap ((IntKind.u16.wrap u.A) + (IntKind.u16.wrap m))) + (IntKind.u16.wrap (bAnd .u8 u.P 1))))))) 128) : Int) != 0)) (IntKind.u8.wrap (IntKind.u16.wrap ((IntKind.u16.wrap ((IntKind.u16.wrap u.A) + (IntKind.u16.wrap m))) + (IntKind.u16.wrap (bAnd .u8 u.P 1)))))) trivial))) (by kernel_rfl)

theorem uAdc_w (u : Un) (m : Int) (w_u : Un.ok u) (w_m : rng 256 m) : Un.ok (uAdc u m) := by
  unfold uAdc
  exact (uLoad_w (uFlag (uFlag u 1 (decide (((IntKind.u16.wrap ((IntKind.u16.wrap ((IntKind.u16.wrap u.A) + (IntKind.u16.wrap m))) + (IntKind.u16.wrap (bAnd .u8 u.P 1)))) : Int) > 255))) 64 (((bAnd .u8 (bAnd .u8 (bXor .u8 u.A (IntKind.u8.wrap (IntKind.u16.wrap ((IntKind.u16.wrap ((IntKind.u16.wrap u.A) + (IntKind.u16.wrap m))) + (IntKind.u16.wrap (bAnd .u8 u.P 1)))))) (bXor .u8 m (IntKind.u8.wrap (IntKind.u16.wrap ((IntKind.u16.wrap ((IntKind.u16.wrap u.A) + (IntKind.u16.wrap m))) + (IntKind.u16.wrap (bAnd .u8 u.P 1))))))) 128) : Int) != 0)) (IntKind.u8.wrap (IntKind.u16.wrap ((IntKind.u16.wrap ((IntKind.u16.wrap u.A) + (IntKind.u16.wrap m))) + (IntKind.u16.wrap (bAnd .u8 u.P 1))))) (uFlag_w (uFlag u 1 (decide (((IntKind.u16.wrap ((IntKind.u16.wrap ((IntKind.u16.wrap u.A) + (IntKind.u16.wrap m))) + (IntKind.u16.wrap (bAnd .u8 u.P 1)))) : Int) > 255))) 64 (((bAnd .u8 (bAnd .u8 (bXor .u8 u.A (IntKind.u8.wrap (IntKind.u16.wrap ((IntKind.u16.wrap ((IntKind.u16.wrap u.A) + (IntKind.u16.wrap m))) + (IntKind.u16.wrap (bAnd .u8 u.P 1)))))) (bXor .u8 m (IntKind.u8.wrap (IntKind.u16.wrap ((IntKind.u16.wrap ((IntKind.u16.wrap u.A) + (IntKind.u16.wrap m))) + (IntKind.u16.wrap (bAnd .u8 u.P 1))))))) 128) : Int) != 0) (uFlag_w u 1 (decide (((IntKind.u16.wrap ((IntKind.u16.wrap ((IntKind.u16.wrap u.A) + (IntKind.u16.wrap m))) + (IntKind.u16.wrap (bAnd .u8 u.P 1)))) : Int) > 255)) w_u (by decide : rng 256 1)) (by decide : rng 256 64)) (rng_wrap_u8 (IntKind.u16.wrap ((IntKind.u16.wrap ((IntKind.u16.wrap u.A) + (IntKind.u16.wrap m))) + (IntKind.u16.wrap (bAnd .u8 u.P 1))))))

/-- (kotatsu/alu.Unit).sbc -/
def uSbc (u : Un) (m : Int) : Un :=
  (uAdc u (bXor .u8 255 m))
theorem uSbc_ok (u : Un) (m : Int) : FnSpec Tryz.prog 160 1000 [Un.enc u, .int .u8 m] [] (Un.enc (uSbc u m)) [] := by
  unfold uSbc
  exact fn_of_x hG hM Tryz.func160 (by kernel_rfl) (by kernel_rfl) 400 [.call [] [] 1000 (Un.enc (uAdc u (bXor .u8 255 m))) []] (J (uAdc_ok u (bXor .u8 255 m)) trivial) (by kernel_rfl)

theorem uSbc_w (u : Un) (m : Int) (w_u : Un.ok u) (w_m : rng 256 m) : Un.ok (uSbc u m) := by
  unfold uSbc
  exact (uAdc_w u (bXor .u8 255 m) w_u (rng_bXor_u8 255 m))

/-- (kotatsu/alu.Unit).compare -/
def uCompare (u : Un) (r : Int) (m : Int) : Un :=
  (uSign (uFlag u 1 (decide ((r : Int) ≥ m))) (IntKind.u8.wrap (r - m)))
theorem uCompare_ok (u : Un) (r : Int) (m : Int) : FnSpec Tryz.prog 171 1000 [Un.enc u, .int .u8 r, .int .u8 m] [] (Un.enc (uCompare u r m)) [] := by
  unfold uCompare
  exact fn_of_x hG hM Tryz.func171 (by kernel_rfl) (by kernel_rfl) 400 [.call [] [] 1000 (Un.enc (uFlag u 1 (decide ((r : Int) ≥ m)))) [], .call [] [] 1000 (Un.enc (uSign (uFlag u 1 (decide ((r : Int) ≥ m))) (IntKind.u8.wrap (r - m)))) []] (J (uFlag_ok u 1 (decide ((r : Int) ≥ m))) (J (uSign_ok (uFlag u 1 (decide ((r : Int) ≥ m))) (IntKind.u8.wrap (r - m))) trivial)) (by kernel_rfl)

theorem uCompare_w (u : Un) (r : Int) (m : Int) (w_u : Un.ok u) (w_r : rng 256 r) (w_m : rng 256 m) : Un.ok (uCompare u r m) := by
  unfold uCompare
  exact (uSign_w (uFlag u 1 (decide ((r : Int) ≥ m))) (IntKind.u8.wrap (r - m)) (uFlag_w u 1 (decide ((r : Int) ≥ m)) w_u (by decide : rng 256 1)) (rng_wrap_u8 (r - m)))

/-- (kotatsu/alu.Unit).cmp -/
def uCmp (u : Un) (m : Int) : Un :=
  (uCompare u u.A m)
theorem uCmp_ok (u : Un) (m : Int) : FnSpec Tryz.prog 159 1000 [Un.enc u, .int .u8 m] [] (Un.enc (uCmp u m)) [] := by
  unfold uCmp
  exact fn_of_x hG hM Tryz.func159 (by kernel_rfl) (by kernel_rfl) 400 [.call [] [] 1000 (Un.enc (uCompare u u.A m)) []] (J (uCompare_ok u u.A m) trivial) (by kernel_rfl)

theorem uCmp_w (u : Un) (m : Int) (w_u : Un.ok u) (w_m : rng 256 m) : Un.ok (uCmp u m) := by
  unfold uCmp
  exact (uCompare_w u u.A m w_u w_u.A w_m)

/-- (kotatsu/alu.Unit).cpx -/
def uCpx (u : Un) (m : Int) : Un :=
  (uCompare u u.X m)
theorem uCpx_ok (u : Un) (m : Int) : FnSpec Tryz.prog 162 1000 [Un.enc u, .int .u8 m] [] (Un.enc (uCpx u m)) [] := by
  unfold uCpx
  exact fn_of_x hG hM Tryz.func162 (by kernel_rfl) (by kernel_rfl) 400 [.call [] [] 1000 (Un.enc (uCompare u u.X m)) []] (J (uCompare_ok u u.X m) trivial) (by kernel_rfl)

theorem uCpx_w (u : Un) (m : Int) (w_u : Un.ok u) (w_m : rng 256 m) : Un.ok (uCpx u m) := by
  unfold uCpx
  exact (uCompare_w u u.X m w_u w_u.X w_m)

/-- (kotatsu/alu.Unit).cpy -/
def uCpy (u : Un) (m : Int) : Un :=
  (uCompare u u.Y m)
theorem uCpy_ok (u : Un) (m : Int) : FnSpec Tryz.prog 163 1000 [Un.enc u, .int .u8 m] [] (Un.enc (uCpy u m)) [] := by
  unfold uCpy
  exact fn_of_x hG hM Tryz.func163 (by kernel_rfl) (by kernel_rfl) 400 [.call [] [] 1000 (Un.enc (uCompare u u.Y m)) []] (J (uCompare_ok u u.Y m) trivial) (by kernel_rfl)

theorem uCpy_w (u : Un) (m : Int) (w_u : Un.ok u) (w_m : rng 256 m) : Un.ok (uCpy u m) := by
  unfold uCpy
  exact (uCompare_w u u.Y m w_u w_u.Y w_m)

/-- (kotatsu/alu.Unit).bit -/
def uBit (u : Un) (m : Int) : Un :=
  (uFlag (uFlag (uFlag u 128 (((bAnd .u8 m 128) : Int) != 0)) 64 (((bAnd .u8 m 64) : Int) != 0)) 2 (((bAnd .u8 u.A m) : Int) == 0))
theorem uBit_ok (u : Un) (m : Int) : FnSpec Tryz.prog 164 1000 [Un.enc u, .int .u8 m] [] (Un.enc (uBit u m)) [] := by
  unfold uBit
  exact fn_of_x hG hM Tryz.func164 (by kernel_rfl) (by kernel_rfl) 400 [.call [] [] 1000 (Un.enc (uFlag u 128 (((bAnd .u8 m 128) : Int) != 0))) [], .call [] [] 1000 (Un.enc (uFlag (uFlag u 128 (((bAnd .u8 m 128) : Int) != 0)) 64 (((bAnd .u8 m 64) : Int) != 0))) [], .call [] [] 1000 (Un.enc (uFlag (uFlag (uFlag u 128 (((bAnd .u8 m 128) : Int) != 0)) 64 (((bAnd .u8 m 64) : Int) != 0)) 2 (((bAnd .u8 u.A m) : Int) == 0))) []] (J (uFlag_ok u 128 (((bAnd .u8 m 128) : Int) != 0)) (J (uFlag_ok (uFlag u 128 (((bAnd .u8 m 128) : Int) != 0)) 64 (((bAnd .u8 m 64) : Int) != 0)) (J (uFlag_ok (uFlag (uFlag u 128 (((bAnd .u8 m 128) : Int) != 0)) 64 (((bAnd .u8 m 64) : Int) != 0)) 2 (((bAnd .u8 u.A m) : Int) == 0)) trivial))) (by kernel_rfl)

theorem uBit_w (u : Un) (m : Int) (w_u : Un.ok u) (w_m : rng 256 m) : Un.ok (uBit u m) := by
  unfold uBit
  exact (uFlag_w (uFlag (uFlag u 128 (((bAnd .u8 m 128) : Int) != 0)) 64 (((bAnd .u8 m 64) : Int) != 0)) 2 (((bAnd .u8 u.A m) : Int) == 0) (uFlag_w (uFlag u 128 (((bAnd .u8 m 128) : Int) != 0)) 64 (((bAnd .u8 m 64) : Int) != 0) (uFlag_w u 128 (((bAnd .u8 m 128) : Int) != 0) w_u (by decide : rng 256 128)) (by decide : rng 256 64)) (by decide : rng 256 2))

/-- (kotatsu/alu.Unit).lax -/
def uLax (u : Un) (m : Int) : Un :=
  (uLoad ({ u with X := m } : Un) m)
theorem uLax_ok (u : Un) (m : Int) : FnSpec Tryz.prog 165 1000 [Un.enc u, .int .u8 m] [] (Un.enc (uLax u m)) [] := by
  unfold uLax
  exact fn_of_x hG hM Tryz.func165 (by kernel_rfl) (by kernel_rfl) 400 [.call [] [] 1000 (Un.enc (uLoad ({ u with X := m } : Un) m)) []] (J (uLoad_ok ({ u with X := m } : Un) m) trivial) (by kernel_rfl)

theorem uLax_w (u : Un) (m : Int) (w_u : Un.ok u) (w_m : rng 256 m) : Un.ok (uLax u m) := by
  unfold uLax
  exact (uLoad_w ({ u with X := m } : Un) m (⟨w_u.A, w_m, w_u.Y, w_u.S, w_u.P⟩ : Un.ok ({ u with X := m } : Un)) w_m)

/-- (kotatsu/alu.Unit).anc -/
def uAnc (u : Un) (m : Int) : Un :=
  (uFlag (uAnd u m) 1 (((bAnd .u8 ((uAnd u m).A) 128) : Int) != 0))
theorem uAnc_ok (u : Un) (m : Int) : FnSpec Tryz.prog 166 1000 [Un.enc u, .int .u8 m] [] (Un.enc (uAnc u m)) [] := by
  unfold uAnc
  exact fn_of_x hG hM Tryz.func166 (by kernel_rfl) (by kernel_rfl) 400 [.call [] [] 1000 (Un.enc (uAnd u m)) [], .call [] [] 1000 (Un.enc (uFlag (uAnd u m) 1 (((bAnd .u8 ((uAnd u m).A) 128) : Int) != 0))) []] (J (uAnd_ok u m) (J (uFlag_ok (uAnd u m) 1 (((bAnd .u8 ((uAnd u m).A) 128) : Int) != 0)) trivial)) (by kernel_rfl)

theorem uAnc_w (u : Un) (m : Int) (w_u : Un.ok u) (w_m : rng 256 m) : Un.ok (uAnc u m) := by
  unfold uAnc
  exact (uFlag_w (uAnd u m) 1 (((bAnd .u8 ((uAnd u m).A) 128) : Int) != 0) (uAnd_w u m w_u w_m) (by decide : rng 256 1))

/-- (kotatsu/alu.Unit).alr -/
def uAlr (u : Un) (m : Int) : Un :=
  ({ ((uLsr (uAnd u m) (bAnd .u8 u.A m)).1) with A := (uLsr (uAnd u m) (bAnd .u8 u.A m)).2 } : Un)
theorem uAlr_ok (u : Un) (m : Int) : FnSpec Tryz.prog 167 1000 [Un.enc u, .int .u8 m] [] (Un.enc (uAlr u m)) [] := by
  unfold uAlr
  exact fn_of_x hG hM Tryz.func167 (by kernel_rfl) (by kernel_rfl) 400 [.call [] [] 1000 (Un.enc (uAnd u m)) [], .call [] [] 1000 (.tuple ⟨[Un.enc ((uLsr (uAnd u m) (bAnd .u8 u.A m)).1), .int .u8 ((uLsr (uAnd u m) (bAnd .u8 u.A m)).2)]⟩) []] (J (uAnd_ok u m) (J (uLsr_ok (uAnd u m) (bAnd .u8 u.A m)) trivial)) (by kernel_rfl)

theorem uAlr_w (u : Un) (m : Int) (w_u : Un.ok u) (w_m : rng 256 m) : Un.ok (uAlr u m) := by
  unfold uAlr
  exact (⟨(uLsr_w2 (uAnd u m) (bAnd .u8 u.A m) (uAnd_w u m w_u w_m) (rng_bAnd_u8 u.A m)), (uLsr_w1 (uAnd u m) (bAnd .u8 u.A m) (uAnd_w u m w_u w_m) (rng_bAnd_u8 u.A m)).X, (uLsr_w1 (uAnd u m) (bAnd .u8 u.A m) (uAnd_w u m w_u w_m) (rng_bAnd_u8 u.A m)).Y, (uLsr_w1 (uAnd u m) (bAnd .u8 u.A m) (uAnd_w u m w_u w_m) (rng_bAnd_u8 u.A m)).S, (uLsr_w1 (uAnd u m) (bAnd .u8 u.A m) (uAnd_w u m w_u w_m) (rng_bAnd_u8 u.A m)).P⟩ : Un.ok ({ ((uLsr (uAnd u m) (bAnd .u8 u.A m)).1) with A := (uLsr (uAnd u m) (bAnd .u8 u.A m)).2 } : Un))

/-- (kotatsu/alu.Unit).arr -/
def uArr (u : Un) (m : Int) : Un :=
  (uFlag (uFlag (uLoad u (bOr .u8 (bShr .u8 (bAnd .u8 u.A m) 1) (bShl .u8 (bAnd .u8 u.P 1) 7))) 1 (((bAnd .u8 (bOr .u8 (bShr .u8 (bAnd .u8 u.A m) 1) (bShl .u8 (bAnd .u8 u.P 1) 7)) 64) : Int) != 0)) 64 (((bAnd .u8 (bXor .u8 (bShr .u8 (bOr .u8 (bShr .u8 (bAnd .u8 u.A m) 1) (bShl .u8 (bAnd .u8 u.P 1) 7)) 1) (bOr .u8 (bShr .u8 (bAnd .u8 u.A m) 1) (bShl .u8 (bAnd .u8 u.P 1) 7))) 32) : Int) != 0))
theorem uArr_ok (u : Un) (m : Int) : FnSpec Tryz.prog 168 1000 [Un.enc u, .int .u8 m] [] (Un.enc (uArr u m)) [] := by
  unfold uArr
  exact fn_of_x hG hM Tryz.func168 (by kernel_rfl) (by kernel_rfl) 400 [.call [] [] 1000 (Un.enc (uLoad u (bOr .u8 (bShr .u8 (bAnd .u8 u.A m) 1) (bShl .u8 (bAnd .u8 u.P 1) 7)))) [], .call [] [] 1000 (Un.enc (uFlag (uLoad u (bOr .u8 (bShr .u8 (bAnd .u8 u.A m) 1) (bShl .u8 (bAnd .u8 u.P 1) 7))) 1 (((bAnd .u8 (bOr .u8 (bShr .u8 (bAnd .u8 u.A m) 1) (bShl .u8 (bAnd .u8 u.P 1) 7)) 64) : Int) != 0))) [], .call [] [] 1000 (Un.enc (uFlag (uFlag (uLoad u (bOr .u8 (bShr .u8 (bAnd .u8 u.A m) 1) (bShl .u8 (bAnd .u8 u.P 1) 7))) 1 (((bAnd .u8 (bOr .u8 (bShr .u8 (bAnd .u8 u.A m) 1) (bShl .u8 (bAnd .u8 u.P 1) 7)) 64) : Int) != 0)) 64 (((bAnd .u8 (bXor .u8 (bShr .u8 (bOr .u8 (bShr .u8 (bAnd .u8 u.A m) 1) (bShl .u8 (bAnd .u8 u.P 1) 7)) 1) (bOr .u8 (bShr .u8 (bAnd .u8 u.A m) 1) (bShl .u8 (bAnd .u8 u.P 1) 7))) 32) : Int) != 0))) []] (J (by decide : (0 : Int) ≤ 1) (J (by decide : (0 : Int) ≤ 7) (J (uLoad_ok u (bOr .u8 (bShr .u8 (bAnd .u8 u.A m) 1) (bShl .u8 (bAnd .u8 u.P 1) 7))) (J (uFlag_ok (uLoad u (bOr .u8 (bShr .u8 (bAnd .u8 u.A m) 1) (bShl .u8 (bAnd .u8 u.P 1) 7))) 1 (((bAnd .u8 (bOr .u8 (bShr .u8 (bAnd .u8 u.A m) 1) (bShl .u8 (bAnd .u8 u.P 1) 7)) 64) : Int) != 0)) (J (by decide : (0 : Int) ≤ 1) (J (uFlag_ok (uFlag (uLoad u (bOr .u8 (bShr .u8 (bAnd .u8 u.A m) 1) (bShl .u8 (bAnd .u8 u.P 1) 7))) 1 (((bAnd .u8 (bOr .u8 (bShr .u8 (bAnd .u8 u.A m) 1) (bShl .u8 (bAnd .u8 u.P 1) 7)) 64) : Int) != 0)) 64 (((bAnd .u8 (bXor .u8 (bShr .u8 (bOr .u8 (bShr .u8 (bAnd .u8 u.A m) 1) (bShl .u8 (bAnd .u8 u.P 1) 7)) 1) (bOr .u8 (bShr .u8 (bAnd .u8 u.A m) 1) (bShl .u8 (bAnd .u8 u.P 1) 7))) 32) : Int) != 0)) trivial)))))) (by kernel_rfl)

theorem uArr_w (u : Un) (m : Int) (w_u : Un.ok u) (w_m : rng 256 m) : Un.ok (uArr u m) := by
  unfold uArr
  exact (uFlag_w (uFlag (uLoad u (bOr .u8 (bShr .u8 (bAnd .u8 u.A m) 1) (bShl .u8 (bAnd .u8 u.P 1) 7))) 1 (((bAnd .u8 (bOr .u8 (bShr .u8 (bAnd .u8 u.A m) 1) (bShl .u8 (bAnd .u8 u.P 1) 7)) 64) : Int) != 0)) 64 (((bAnd .u8 (bXor .u8 (bShr .u8 (bOr .u8 (bShr .u8 (bAnd .u8 u.A m) 1) (bShl .u8 (bAnd .u8 u.P 1) 7)) 1) (bOr .u8 (bShr .u8 (bAnd .u8 u.A m) 1) (bShl .u8 (bAnd .u8 u.P 1) 7))) 32) : Int) != 0) (uFlag_w (uLoad u (bOr .u8 (bShr .u8 (bAnd .u8 u.A m) 1) (bShl .u8 (bAnd .u8 u.P 1) 7))) 1 (((bAnd .u8 (bOr .u8 (bShr .u8 (bAnd .u8 u.A m) 1) (bShl .u8 (bAnd .u8 u.P 1) 7)) 64) : Int) != 0) (uLoad_w u (bOr .u8 (bShr .u8 (bAnd .u8 u.A m) 1) (bShl .u8 (bAnd .u8 u.P 1) 7)) w_u (rng_bOr_u8 (bShr .u8 (bAnd .u8 u.A m) 1) (bShl .u8 (bAnd .u8 u.P 1) 7))) (by decide : rng 256 1)) (by decide : rng 256 64))

/-- (kotatsu/alu.Unit).axs -/
def uAxs (u : Un) (m : Int) : Un :=
  (uLdx (uCompare u (bAnd .u8 u.A u.X) m) (IntKind.u8.wrap ((bAnd .u8 u.A u.X) - m)))
theorem uAxs_ok (u : Un) (m : Int) : FnSpec Tryz.prog 169 1000 [Un.enc u, .int .u8 m] [] (Un.enc (uAxs u m)) [] := by
  unfold uAxs
  exact fn_of_x hG hM Tryz.func169 (by kernel_rfl) (by kernel_rfl) 400 [.call [] [] 1000 (Un.enc (uCompare u (bAnd .u8 u.A u.X) m)) [], .call [] [] 1000 (Un.enc (uLdx (uCompare u (bAnd .u8 u.A u.X) m) (IntKind.u8.wrap ((bAnd .u8 u.A u.X) - m)))) []] (J (uCompare_ok u (bAnd .u8 u.A u.X) m) (J (uLdx_ok (uCompare u (bAnd .u8 u.A u.X) m) (IntKind.u8.wrap ((bAnd .u8 u.A u.X) - m))) trivial)) (by kernel_rfl)

theorem uAxs_w (u : Un) (m : Int) (w_u : Un.ok u) (w_m : rng 256 m) : Un.ok (uAxs u m) := by
  unfold uAxs
  exact (uLdx_w (uCompare u (bAnd .u8 u.A u.X) m) (IntKind.u8.wrap ((bAnd .u8 u.A u.X) - m)) (uCompare_w u (bAnd .u8 u.A u.X) m w_u (rng_bAnd_u8 u.A u.X) w_m) (rng_wrap_u8 ((bAnd .u8 u.A u.X) - m)))

/-- (kotatsu/alu.Unit).las -/
def uLas (u : Un) (m : Int) : Un :=
  (uLax ({ u with S := (bAnd .u8 u.S m) } : Un) (bAnd .u8 u.S m))
theorem uLas_ok (u : Un) (m : Int) : FnSpec Tryz.prog 170 1000 [Un.enc u, .int .u8 m] [] (Un.enc (uLas u m)) [] := by
  unfold uLas
  exact fn_of_x hG hM Tryz.func170 (by kernel_rfl) (by kernel_rfl) 400 [.call [] [] 1000 (Un.enc (uLax ({ u with S := (bAnd .u8 u.S m) } : Un) (bAnd .u8 u.S m))) []] (J (uLax_ok ({ u with S := (bAnd .u8 u.S m) } : Un) (bAnd .u8 u.S m)) trivial) (by kernel_rfl)

theorem uLas_w (u : Un) (m : Int) (w_u : Un.ok u) (w_m : rng 256 m) : Un.ok (uLas u m) := by
  unfold uLas
  exact (uLax_w ({ u with S := (bAnd .u8 u.S m) } : Un) (bAnd .u8 u.S m) (⟨w_u.A, w_u.X, w_u.Y, (rng_bAnd_u8 u.S m), w_u.P⟩ : Un.ok ({ u with S := (bAnd .u8 u.S m) } : Un)) (rng_bAnd_u8 u.S m))

/-- (kotatsu/alu.Unit).then -/
def uThenSlo (u : Un) (m : Int) : Un × Int :=
  ((uOra ((uAsl u m).1) ((uAsl u m).2)), (uAsl u m).2)
theorem uThenSlo_ok (u : Un) (m : Int) : FnSpec Tryz.prog 154 1000 [Un.enc u, .int .u8 m, .func (.func 139) ⟨[]⟩ ⟨[]⟩, .func (.func 155) ⟨[]⟩ ⟨[]⟩] [] (.tuple ⟨[Un.enc ((uThenSlo u m).1), .int .u8 ((uThenSlo u m).2)]⟩) [] := by
  unfold uThenSlo
  exact fn_of_x hG hM Tryz.func154 (by kernel_rfl) (by kernel_rfl) 400 [.call [] [] 1000 (.tuple ⟨[Un.enc ((uAsl u m).1), .int .u8 ((uAsl u m).2)]⟩) [], .call [] [] 1000 (Un.enc (uOra ((uAsl u m).1) ((uAsl u m).2))) []] (J (uAsl_ok u m) (J (uOra_ok ((uAsl u m).1) ((uAsl u m).2)) trivial)) (by kernel_rfl)

theorem uThenSlo_w1 (u : Un) (m : Int) (w_u : Un.ok u) (w_m : rng 256 m) : Un.ok (uThenSlo u m).1 := by
  unfold uThenSlo
  exact (uOra_w ((uAsl u m).1) ((uAsl u m).2) (uAsl_w1 u m w_u w_m) (uAsl_w2 u m w_u w_m))

theorem uThenSlo_w2 (u : Un) (m : Int) (w_u : Un.ok u) (w_m : rng 256 m) : rng 256 (uThenSlo u m).2 := by
  unfold uThenSlo
  exact (uAsl_w2 u m w_u w_m)

/-- (kotatsu/alu.Unit).slo -/
def uSlo (u : Un) (m : Int) : Un × Int :=
  ((uThenSlo u m).1, (uThenSlo u m).2)
theorem uSlo_ok (u : Un) (m : Int) : FnSpec Tryz.prog 145 1000 [Un.enc u, .int .u8 m] [] (.tuple ⟨[Un.enc ((uSlo u m).1), .int .u8 ((uSlo u m).2)]⟩) [] := by
  unfold uSlo
  exact fn_of_x hG hM Tryz.func145 (by kernel_rfl) (by kernel_rfl) 400 [.call [] [] 1000 (.tuple ⟨[Un.enc ((uThenSlo u m).1), .int .u8 ((uThenSlo u m).2)]⟩) []] (J (uThenSlo_ok u m) trivial) (by kernel_rfl)

theorem uSlo_w1 (u : Un) (m : Int) (w_u : Un.ok u) (w_m : rng 256 m) : Un.ok (uSlo u m).1 := by
  unfold uSlo
  exact (uThenSlo_w1 u m w_u w_m)

theorem uSlo_w2 (u : Un) (m : Int) (w_u : Un.ok u) (w_m : rng 256 m) : rng 256 (uSlo u m).2 := by
  unfold uSlo
  exact (uThenSlo_w2 u m w_u w_m)

/-- (kotatsu/alu.Unit).then -/
def uThenRla (u : Un) (m : Int) : Un × Int :=
  ((uAnd ((uRol u m).1) ((uRol u m).2)), (uRol u m).2)
theorem uThenRla_ok (u : Un) (m : Int) : FnSpec Tryz.prog 154 1000 [Un.enc u, .int .u8 m, .func (.func 141) ⟨[]⟩ ⟨[]⟩, .func (.func 156) ⟨[]⟩ ⟨[]⟩] [] (.tuple ⟨[Un.enc ((uThenRla u m).1), .int .u8 ((uThenRla u m).2)]⟩) [] := by
  unfold uThenRla
  exact fn_of_x hG hM Tryz.func154 (by kernel_rfl) (by kernel_rfl) 400 [.call [] [] 1000 (.tuple ⟨[Un.enc ((uRol u m).1), .int .u8 ((uRol u m).2)]⟩) [], .call [] [] 1000 (Un.enc (uAnd ((uRol u m).1) ((uRol u m).2))) []] (J (uRol_ok u m) (J (uAnd_ok ((uRol u m).1) ((uRol u m).2)) trivial)) (by kernel_rfl)

theorem uThenRla_w1 (u : Un) (m : Int) (w_u : Un.ok u) (w_m : rng 256 m) : Un.ok (uThenRla u m).1 := by
  unfold uThenRla
  exact (uAnd_w ((uRol u m).1) ((uRol u m).2) (uRol_w1 u m w_u w_m) (uRol_w2 u m w_u w_m))

theorem uThenRla_w2 (u : Un) (m : Int) (w_u : Un.ok u) (w_m : rng 256 m) : rng 256 (uThenRla u m).2 := by
  unfold uThenRla
  exact (uRol_w2 u m w_u w_m)

/-- (kotatsu/alu.Unit).rla -/
def uRla (u : Un) (m : Int) : Un × Int :=
  ((uThenRla u m).1, (uThenRla u m).2)
theorem uRla_ok (u : Un) (m : Int) : FnSpec Tryz.prog 146 1000 [Un.enc u, .int .u8 m] [] (.tuple ⟨[Un.enc ((uRla u m).1), .int .u8 ((uRla u m).2)]⟩) [] := by
  unfold uRla
  exact fn_of_x hG hM Tryz.func146 (by kernel_rfl) (by kernel_rfl) 400 [.call [] [] 1000 (.tuple ⟨[Un.enc ((uThenRla u m).1), .int .u8 ((uThenRla u m).2)]⟩) []] (J (uThenRla_ok u m) trivial) (by kernel_rfl)

theorem uRla_w1 (u : Un) (m : Int) (w_u : Un.ok u) (w_m : rng 256 m) : Un.ok (uRla u m).1 := by
  unfold uRla
  exact (uThenRla_w1 u m w_u w_m)

theorem uRla_w2 (u : Un) (m : Int) (w_u : Un.ok u) (w_m : rng 256 m) : rng 256 (uRla u m).2 := by
  unfold uRla
  exact (uThenRla_w2 u m w_u w_m)

/-- (kotatsu/alu.Unit).then -/
def uThenSre (u : Un) (m : Int) : Un × Int :=
  ((uEor ((uLsr u m).1) ((uLsr u m).2)), (uLsr u m).2)
theorem uThenSre_ok (u : Un) (m : Int) : FnSpec Tryz.prog 154 1000 [Un.enc u, .int .u8 m, .func (.func 140) ⟨[]⟩ ⟨[]⟩, .func (.func 157) ⟨[]⟩ ⟨[]⟩] [] (.tuple ⟨[Un.enc ((uThenSre u m).1), .int .u8 ((uThenSre u m).2)]⟩) [] := by
  unfold uThenSre
  exact fn_of_x hG hM Tryz.func154 (by kernel_rfl) (by kernel_rfl) 400 [.call [] [] 1000 (.tuple ⟨[Un.enc ((uLsr u m).1), .int .u8 ((uLsr u m).2)]⟩) [], .call [] [] 1000 (Un.enc (uEor ((uLsr u m).1) ((uLsr u m).2))) []] (J (uLsr_ok u m) (J (uEor_ok ((uLsr u m).1) ((uLsr u m).2)) trivial)) (by kernel_rfl)

theorem uThenSre_w1 (u : Un) (m : Int) (w_u : Un.ok u) (w_m : rng 256 m) : Un.ok (uThenSre u m).1 := by
  unfold uThenSre
  exact (uEor_w ((uLsr u m).1) ((uLsr u m).2) (uLsr_w1 u m w_u w_m) (uLsr_w2 u m w_u w_m))

theorem uThenSre_w2 (u : Un) (m : Int) (w_u : Un.ok u) (w_m : rng 256 m) : rng 256 (uThenSre u m).2 := by
  unfold uThenSre
  exact (uLsr_w2 u m w_u w_m)

/-- (kotatsu/alu.Unit).sre -/
def uSre (u : Un) (m : Int) : Un × Int :=
  ((uThenSre u m).1, (uThenSre u m).2)
theorem uSre_ok (u : Un) (m : Int) : FnSpec Tryz.prog 147 1000 [Un.enc u, .int .u8 m] [] (.tuple ⟨[Un.enc ((uSre u m).1), .int .u8 ((uSre u m).2)]⟩) [] := by
  unfold uSre
  exact fn_of_x hG hM Tryz.func147 (by kernel_rfl) (by kernel_rfl) 400 [.call [] [] 1000 (.tuple ⟨[Un.enc ((uThenSre u m).1), .int .u8 ((uThenSre u m).2)]⟩) []] (J (uThenSre_ok u m) trivial) (by kernel_rfl)

theorem uSre_w1 (u : Un) (m : Int) (w_u : Un.ok u) (w_m : rng 256 m) : Un.ok (uSre u m).1 := by
  unfold uSre
  exact (uThenSre_w1 u m w_u w_m)

theorem uSre_w2 (u : Un) (m : Int) (w_u : Un.ok u) (w_m : rng 256 m) : rng 256 (uSre u m).2 := by
  unfold uSre
  exact (uThenSre_w2 u m w_u w_m)

/-- (kotatsu/alu.Unit).then -/
def uThenRra (u : Un) (m : Int) : Un × Int :=
  ((uAdc ((uRor u m).1) ((uRor u m).2)), (uRor u m).2)
theorem uThenRra_ok (u : Un) (m : Int) : FnSpec Tryz.prog 154 1000 [Un.enc u, .int .u8 m, .func (.func 142) ⟨[]⟩ ⟨[]⟩, .func (.func 158) ⟨[]⟩ ⟨[]⟩] [] (.tuple ⟨[Un.enc ((uThenRra u m).1), .int .u8 ((uThenRra u m).2)]⟩) [] := by
  unfold uThenRra
  exact fn_of_x hG hM Tryz.func154 (by kernel_rfl) (by kernel_rfl) 400 [.call [] [] 1000 (.tuple ⟨[Un.enc ((uRor u m).1), .int .u8 ((uRor u m).2)]⟩) [], .call [] [] 1000 (Un.enc (uAdc ((uRor u m).1) ((uRor u m).2))) []] (J (uRor_ok u m) (J (uAdc_ok ((uRor u m).1) ((uRor u m).2)) trivial)) (by kernel_rfl)

theorem uThenRra_w1 (u : Un) (m : Int) (w_u : Un.ok u) (w_m : rng 256 m) : Un.ok (uThenRra u m).1 := by
  unfold uThenRra
  exact (uAdc_w ((uRor u m).1) ((uRor u m).2) (uRor_w1 u m w_u w_m) (uRor_w2 u m w_u w_m))

theorem uThenRra_w2 (u : Un) (m : Int) (w_u : Un.ok u) (w_m : rng 256 m) : rng 256 (uThenRra u m).2 := by
  unfold uThenRra
  exact (uRor_w2 u m w_u w_m)

/-- (kotatsu/alu.Unit).rra -/
def uRra (u : Un) (m : Int) : Un × Int :=
  ((uThenRra u m).1, (uThenRra u m).2)
theorem uRra_ok (u : Un) (m : Int) : FnSpec Tryz.prog 148 1000 [Un.enc u, .int .u8 m] [] (.tuple ⟨[Un.enc ((uRra u m).1), .int .u8 ((uRra u m).2)]⟩) [] := by
  unfold uRra
  exact fn_of_x hG hM Tryz.func148 (by kernel_rfl) (by kernel_rfl) 400 [.call [] [] 1000 (.tuple ⟨[Un.enc ((uThenRra u m).1), .int .u8 ((uThenRra u m).2)]⟩) []] (J (uThenRra_ok u m) trivial) (by kernel_rfl)

theorem uRra_w1 (u : Un) (m : Int) (w_u : Un.ok u) (w_m : rng 256 m) : Un.ok (uRra u m).1 := by
  unfold uRra
  exact (uThenRra_w1 u m w_u w_m)

theorem uRra_w2 (u : Un) (m : Int) (w_u : Un.ok u) (w_m : rng 256 m) : rng 256 (uRra u m).2 := by
  unfold uRra
  exact (uThenRra_w2 u m w_u w_m)

/-- (kotatsu/alu.Unit).then -/
def uThenDcp (u : Un) (m : Int) : Un × Int :=
  ((uCmp ((uDec u m).1) ((uDec u m).2)), (uDec u m).2)
theorem uThenDcp_ok (u : Un) (m : Int) : FnSpec Tryz.prog 154 1000 [Un.enc u, .int .u8 m, .func (.func 144) ⟨[]⟩ ⟨[]⟩, .func (.func 159) ⟨[]⟩ ⟨[]⟩] [] (.tuple ⟨[Un.enc ((uThenDcp u m).1), .int .u8 ((uThenDcp u m).2)]⟩) [] := by
  unfold uThenDcp
  exact fn_of_x hG hM Tryz.func154 (by kernel_rfl) (by kernel_rfl) 400 [.call [] [] 1000 (.tuple ⟨[Un.enc ((uDec u m).1), .int .u8 ((uDec u m).2)]⟩) [], .call [] [] 1000 (Un.enc (uCmp ((uDec u m).1) ((uDec u m).2))) []] (J (uDec_ok u m) (J (uCmp_ok ((uDec u m).1) ((uDec u m).2)) trivial)) (by kernel_rfl)

theorem uThenDcp_w1 (u : Un) (m : Int) (w_u : Un.ok u) (w_m : rng 256 m) : Un.ok (uThenDcp u m).1 := by
  unfold uThenDcp
  exact (uCmp_w ((uDec u m).1) ((uDec u m).2) (uDec_w1 u m w_u w_m) (uDec_w2 u m w_u w_m))

theorem uThenDcp_w2 (u : Un) (m : Int) (w_u : Un.ok u) (w_m : rng 256 m) : rng 256 (uThenDcp u m).2 := by
  unfold uThenDcp
  exact (uDec_w2 u m w_u w_m)

/-- (kotatsu/alu.Unit).dcp -/
def uDcp (u : Un) (m : Int) : Un × Int :=
  ((uThenDcp u m).1, (uThenDcp u m).2)
theorem uDcp_ok (u : Un) (m : Int) : FnSpec Tryz.prog 149 1000 [Un.enc u, .int .u8 m] [] (.tuple ⟨[Un.enc ((uDcp u m).1), .int .u8 ((uDcp u m).2)]⟩) [] := by
  unfold uDcp
  exact fn_of_x hG hM Tryz.func149 (by kernel_rfl) (by kernel_rfl) 400 [.call [] [] 1000 (.tuple ⟨[Un.enc ((uThenDcp u m).1), .int .u8 ((uThenDcp u m).2)]⟩) []] (J (uThenDcp_ok u m) trivial) (by kernel_rfl)

theorem uDcp_w1 (u : Un) (m : Int) (w_u : Un.ok u) (w_m : rng 256 m) : Un.ok (uDcp u m).1 := by
  unfold uDcp
  exact (uThenDcp_w1 u m w_u w_m)

theorem uDcp_w2 (u : Un) (m : Int) (w_u : Un.ok u) (w_m : rng 256 m) : rng 256 (uDcp u m).2 := by
  unfold uDcp
  exact (uThenDcp_w2 u m w_u w_m)

/-- (kotatsu/alu.Unit).then -/
def uThenIsc (u : Un) (m : Int) : Un × Int :=
  ((uSbc ((uInc u m).1) ((uInc u m).2)), (uInc u m).2)
theorem uThenIsc_ok (u : Un) (m : Int) : FnSpec Tryz.prog 154 1000 [Un.enc u, .int .u8 m, .func (.func 143) ⟨[]⟩ ⟨[]⟩, .func (.func 160) ⟨[]⟩ ⟨[]⟩] [] (.tuple ⟨[Un.enc ((uThenIsc u m).1), .int .u8 ((uThenIsc u m).2)]⟩) [] := by
  unfold uThenIsc
  exact fn_of_x hG hM Tryz.func154 (by kernel_rfl) (by kernel_rfl) 400 [.call [] [] 1000 (.tuple ⟨[Un.enc ((uInc u m).1), .int .u8 ((uInc u m).2)]⟩) [], .call [] [] 1000 (Un.enc (uSbc ((uInc u m).1) ((uInc u m).2))) []] (J (uInc_ok u m) (J (uSbc_ok ((uInc u m).1) ((uInc u m).2)) trivial)) (by kernel_rfl)

theorem uThenIsc_w1 (u : Un) (m : Int) (w_u : Un.ok u) (w_m : rng 256 m) : Un.ok (uThenIsc u m).1 := by
  unfold uThenIsc
  exact (uSbc_w ((uInc u m).1) ((uInc u m).2) (uInc_w1 u m w_u w_m) (uInc_w2 u m w_u w_m))

theorem uThenIsc_w2 (u : Un) (m : Int) (w_u : Un.ok u) (w_m : rng 256 m) : rng 256 (uThenIsc u m).2 := by
  unfold uThenIsc
  exact (uInc_w2 u m w_u w_m)

/-- (kotatsu/alu.Unit).isc -/
def uIsc (u : Un) (m : Int) : Un × Int :=
  ((uThenIsc u m).1, (uThenIsc u m).2)
theorem uIsc_ok (u : Un) (m : Int) : FnSpec Tryz.prog 150 1000 [Un.enc u, .int .u8 m] [] (.tuple ⟨[Un.enc ((uIsc u m).1), .int .u8 ((uIsc u m).2)]⟩) [] := by
  unfold uIsc
  exact fn_of_x hG hM Tryz.func150 (by kernel_rfl) (by kernel_rfl) 400 [.call [] [] 1000 (.tuple ⟨[Un.enc ((uThenIsc u m).1), .int .u8 ((uThenIsc u m).2)]⟩) []] (J (uThenIsc_ok u m) trivial) (by kernel_rfl)

theorem uIsc_w1 (u : Un) (m : Int) (w_u : Un.ok u) (w_m : rng 256 m) : Un.ok (uIsc u m).1 := by
  unfold uIsc
  exact (uThenIsc_w1 u m w_u w_m)

theorem uIsc_w2 (u : Un) (m : Int) (w_u : Un.ok u) (w_m : rng 256 m) : rng 256 (uIsc u m).2 := by
  unfold uIsc
  exact (uThenIsc_w2 u m w_u w_m)

theorem uReaders_p1  : FnSpec Tryz.prog 151 1000 [] [] (.func (.yield 1) ⟨[.func (.func 161) ⟨[]⟩ ⟨[]⟩, .func (.func 155) ⟨[]⟩ ⟨[]⟩, .func (.func 156) ⟨[]⟩ ⟨[]⟩, .func (.func 157) ⟨[]⟩ ⟨[]⟩, .func (.func 158) ⟨[]⟩ ⟨[]⟩, .func (.func 160) ⟨[]⟩ ⟨[]⟩, .func (.func 159) ⟨[]⟩ ⟨[]⟩, .func (.func 162) ⟨[]⟩ ⟨[]⟩, .func (.func 163) ⟨[]⟩ ⟨[]⟩, .func (.func 138) ⟨[]⟩ ⟨[]⟩, .func (.func 136) ⟨[]⟩ ⟨[]⟩, .func (.func 137) ⟨[]⟩ ⟨[]⟩, .func (.func 164) ⟨[]⟩ ⟨[]⟩, .func (.func 165) ⟨[]⟩ ⟨[]⟩, .func (.func 166) ⟨[]⟩ ⟨[]⟩, .func (.func 167) ⟨[]⟩ ⟨[]⟩, .func (.func 168) ⟨[]⟩ ⟨[]⟩, .func (.func 169) ⟨[]⟩ ⟨[]⟩, .func (.func 170) ⟨[]⟩ ⟨[]⟩]⟩ ⟨[.bool true]⟩) [] := by
  exact fn_of_f hG hM Tryz.func151 (by kernel_rfl) (by kernel_rfl) 400 [] [1000] trivial (by kernel_rfl)

/-- (kotatsu/alu.Unit).Read -/
def uRead_0 (u : Un) (m : Int) : Un :=
  (uNop u m)
theorem uRead_0_ok (u : Un) (m : Int) : FnSpec Tryz.prog 132 1000 [Un.enc u, .int .u8 0, .int .u8 m] [] (Un.enc (uRead_0 u m)) [] := by
  unfold uRead_0
  exact fn_of_x hG hM Tryz.func132 (by kernel_rfl) (by kernel_rfl) 400 [.call [] [] 1000 (.int .u8 1) [], .no, .call [] [] 1000 (.func (.yield 1) ⟨[.func (.func 161) ⟨[]⟩ ⟨[]⟩, .func (.func 155) ⟨[]⟩ ⟨[]⟩, .func (.func 156) ⟨[]⟩ ⟨[]⟩, .func (.func 157) ⟨[]⟩ ⟨[]⟩, .func (.func 158) ⟨[]⟩ ⟨[]⟩, .func (.func 160) ⟨[]⟩ ⟨[]⟩, .func (.func 159) ⟨[]⟩ ⟨[]⟩, .func (.func 162) ⟨[]⟩ ⟨[]⟩, .func (.func 163) ⟨[]⟩ ⟨[]⟩, .func (.func 138) ⟨[]⟩ ⟨[]⟩, .func (.func 136) ⟨[]⟩ ⟨[]⟩, .func (.func 137) ⟨[]⟩ ⟨[]⟩, .func (.func 164) ⟨[]⟩ ⟨[]⟩, .func (.func 165) ⟨[]⟩ ⟨[]⟩, .func (.func 166) ⟨[]⟩ ⟨[]⟩, .func (.func 167) ⟨[]⟩ ⟨[]⟩, .func (.func 168) ⟨[]⟩ ⟨[]⟩, .func (.func 169) ⟨[]⟩ ⟨[]⟩, .func (.func 170) ⟨[]⟩ ⟨[]⟩]⟩ ⟨[.bool true]⟩) [], .lit 0, .call [] [] 1000 (Un.enc (uNop u m)) []] (J (aKind_ok 0) (J (Eq.refl false) (J (uReaders_p1) (J (Eq.refl true) (J (Eq.refl (0 : Int)) (J (uNop_ok u m) trivial)))))) (by kernel_rfl)

theorem uRead_0_w (u : Un) (m : Int) (w_u : Un.ok u) (w_m : rng 256 m) : Un.ok (uRead_0 u m) := by
  unfold uRead_0
  exact (uNop_w u m w_u w_m)

/-- (kotatsu/alu.Unit).Read -/
def uRead_1 (u : Un) (m : Int) : Un :=
  (uOra u m)
theorem uRead_1_ok (u : Un) (m : Int) : FnSpec Tryz.prog 132 1000 [Un.enc u, .int .u8 1, .int .u8 m] [] (Un.enc (uRead_1 u m)) [] := by
  unfold uRead_1
  exact fn_of_x hG hM Tryz.func132 (by kernel_rfl) (by kernel_rfl) 400 [.call [] [] 1000 (.int .u8 1) [], .no, .call [] [] 1000 (.func (.yield 1) ⟨[.func (.func 161) ⟨[]⟩ ⟨[]⟩, .func (.func 155) ⟨[]⟩ ⟨[]⟩, .func (.func 156) ⟨[]⟩ ⟨[]⟩, .func (.func 157) ⟨[]⟩ ⟨[]⟩, .func (.func 158) ⟨[]⟩ ⟨[]⟩, .func (.func 160) ⟨[]⟩ ⟨[]⟩, .func (.func 159) ⟨[]⟩ ⟨[]⟩, .func (.func 162) ⟨[]⟩ ⟨[]⟩, .func (.func 163) ⟨[]⟩ ⟨[]⟩, .func (.func 138) ⟨[]⟩ ⟨[]⟩, .func (.func 136) ⟨[]⟩ ⟨[]⟩, .func (.func 137) ⟨[]⟩ ⟨[]⟩, .func (.func 164) ⟨[]⟩ ⟨[]⟩, .func (.func 165) ⟨[]⟩ ⟨[]⟩, .func (.func 166) ⟨[]⟩ ⟨[]⟩, .func (.func 167) ⟨[]⟩ ⟨[]⟩, .func (.func 168) ⟨[]⟩ ⟨[]⟩, .func (.func 169) ⟨[]⟩ ⟨[]⟩, .func (.func 170) ⟨[]⟩ ⟨[]⟩]⟩ ⟨[.bool true]⟩) [], .lit 1, .call [] [] 1000 (Un.enc (uOra u m)) []] (J (aKind_ok 1) (J (Eq.refl false) (J (uReaders_p1) (J (Eq.refl true) (J (Eq.refl (1 : Int)) (J (uOra_ok u m) trivial)))))) (by kernel_rfl)

theorem uRead_1_w (u : Un) (m : Int) (w_u : Un.ok u) (w_m : rng 256 m) : Un.ok (uRead_1 u m) := by
  unfold uRead_1
  exact (uOra_w u m w_u w_m)

/-- (kotatsu/alu.Unit).Read -/
def uRead_2 (u : Un) (m : Int) : Un :=
  (uAnd u m)
theorem uRead_2_ok (u : Un) (m : Int) : FnSpec Tryz.prog 132 1000 [Un.enc u, .int .u8 2, .int .u8 m] [] (Un.enc (uRead_2 u m)) [] := by
  unfold uRead_2
  exact fn_of_x hG hM Tryz.func132 (by kernel_rfl) (by kernel_rfl) 400 [.call [] [] 1000 (.int .u8 1) [], .no, .call [] [] 1000 (.func (.yield 1) ⟨[.func (.func 161) ⟨[]⟩ ⟨[]⟩, .func (.func 155) ⟨[]⟩ ⟨[]⟩, .func (.func 156) ⟨[]⟩ ⟨[]⟩, .func (.func 157) ⟨[]⟩ ⟨[]⟩, .func (.func 158) ⟨[]⟩ ⟨[]⟩, .func (.func 160) ⟨[]⟩ ⟨[]⟩, .func (.func 159) ⟨[]⟩ ⟨[]⟩, .func (.func 162) ⟨[]⟩ ⟨[]⟩, .func (.func 163) ⟨[]⟩ ⟨[]⟩, .func (.func 138) ⟨[]⟩ ⟨[]⟩, .func (.func 136) ⟨[]⟩ ⟨[]⟩, .func (.func 137) ⟨[]⟩ ⟨[]⟩, .func (.func 164) ⟨[]⟩ ⟨[]⟩, .func (.func 165) ⟨[]⟩ ⟨[]⟩, .func (.func 166) ⟨[]⟩ ⟨[]⟩, .func (.func 167) ⟨[]⟩ ⟨[]⟩, .func (.func 168) ⟨[]⟩ ⟨[]⟩, .func (.func 169) ⟨[]⟩ ⟨[]⟩, .func (.func 170) ⟨[]⟩ ⟨[]⟩]⟩ ⟨[.bool true]⟩) [], .lit 2, .call [] [] 1000 (Un.enc (uAnd u m)) []] (J (aKind_ok 2) (J (Eq.refl false) (J (uReaders_p1) (J (Eq.refl true) (J (Eq.refl (2 : Int)) (J (uAnd_ok u m) trivial)))))) (by kernel_rfl)

theorem uRead_2_w (u : Un) (m : Int) (w_u : Un.ok u) (w_m : rng 256 m) : Un.ok (uRead_2 u m) := by
  unfold uRead_2
  exact (uAnd_w u m w_u w_m)

/-- (kotatsu/alu.Unit).Read -/
def uRead_3 (u : Un) (m : Int) : Un :=
  (uEor u m)
theorem uRead_3_ok (u : Un) (m : Int) : FnSpec Tryz.prog 132 1000 [Un.enc u, .int .u8 3, .int .u8 m] [] (Un.enc (uRead_3 u m)) [] := by
  unfold uRead_3
  exact fn_of_x hG hM Tryz.func132 (by kernel_rfl) (by kernel_rfl) 400 [.call [] [] 1000 (.int .u8 1) [], .no, .call [] [] 1000 (.func (.yield 1) ⟨[.func (.func 161) ⟨[]⟩ ⟨[]⟩, .func (.func 155) ⟨[]⟩ ⟨[]⟩, .func (.func 156) ⟨[]⟩ ⟨[]⟩, .func (.func 157) ⟨[]⟩ ⟨[]⟩, .func (.func 158) ⟨[]⟩ ⟨[]⟩, .func (.func 160) ⟨[]⟩ ⟨[]⟩, .func (.func 159) ⟨[]⟩ ⟨[]⟩, .func (.func 162) ⟨[]⟩ ⟨[]⟩, .func (.func 163) ⟨[]⟩ ⟨[]⟩, .func (.func 138) ⟨[]⟩ ⟨[]⟩, .func (.func 136) ⟨[]⟩ ⟨[]⟩, .func (.func 137) ⟨[]⟩ ⟨[]⟩, .func (.func 164) ⟨[]⟩ ⟨[]⟩, .func (.func 165) ⟨[]⟩ ⟨[]⟩, .func (.func 166) ⟨[]⟩ ⟨[]⟩, .func (.func 167) ⟨[]⟩ ⟨[]⟩, .func (.func 168) ⟨[]⟩ ⟨[]⟩, .func (.func 169) ⟨[]⟩ ⟨[]⟩, .func (.func 170) ⟨[]⟩ ⟨[]⟩]⟩ ⟨[.bool true]⟩) [], .lit 3, .call [] [] 1000 (Un.enc (uEor u m)) []] (J (aKind_ok 3) (J (Eq.refl false) (J (uReaders_p1) (J (Eq.refl true) (J (Eq.refl (3 : Int)) (J (uEor_ok u m) trivial)))))) (by kernel_rfl)

theorem uRead_3_w (u : Un) (m : Int) (w_u : Un.ok u) (w_m : rng 256 m) : Un.ok (uRead_3 u m) := by
  unfold uRead_3
  exact (uEor_w u m w_u w_m)

/-- (kotatsu/alu.Unit).Read -/
def uRead_4 (u : Un) (m : Int) : Un :=
  (uAdc u m)
theorem uRead_4_ok (u : Un) (m : Int) : FnSpec Tryz.prog 132 1000 [Un.enc u, .int .u8 4, .int .u8 m] [] (Un.enc (uRead_4 u m)) [] := by
  unfold uRead_4
  exact fn_of_x hG hM Tryz.func132 (by kernel_rfl) (by kernel_rfl) 400 [.call [] [] 1000 (.int .u8 1) [], .no, .call [] [] 1000 (.func (.yield 1) ⟨[.func (.func 161) ⟨[]⟩ ⟨[]⟩, .func (.func 155) ⟨[]⟩ ⟨[]⟩, .func (.func 156) ⟨[]⟩ ⟨[]⟩, .func (.func 157) ⟨[]⟩ ⟨[]⟩, .func (.func 158) ⟨[]⟩ ⟨[]⟩, .func (.func 160) ⟨[]⟩ ⟨[]⟩, .func (.func 159) ⟨[]⟩ ⟨[]⟩, .func (.func 162) ⟨[]⟩ ⟨[]⟩, .func (.func 163) ⟨[]⟩ ⟨[]⟩, .func (.func 138) ⟨[]⟩ ⟨[]⟩, .func (.func 136) ⟨[]⟩ ⟨[]⟩, .func (.func 137) ⟨[]⟩ ⟨[]⟩, .func (.func 164) ⟨[]⟩ ⟨[]⟩, .func (.func 165) ⟨[]⟩ ⟨[]⟩, .func (.func 166) ⟨[]⟩ ⟨[]⟩, .func (.func 167) ⟨[]⟩ ⟨[]⟩, .func (.func 168) ⟨[]⟩ ⟨[]⟩, .func (.func 169) ⟨[]⟩ ⟨[]⟩, .func (.func 170) ⟨[]⟩ ⟨[]⟩]⟩ ⟨[.bool true]⟩) [], .lit 4, .call [] [] 1000 (Un.enc (uAdc u m)) []] (J (aKind_ok 4) (J (Eq.refl false) (J (uReaders_p1) (J (Eq.refl true) (J (Eq.refl (4 : Int)) (J (uAdc_ok u m) trivial)))))) (by kernel_rfl)

theorem uRead_4_w (u : Un) (m : Int) (w_u : Un.ok u) (w_m : rng 256 m) : Un.ok (uRead_4 u m) := by
  unfold uRead_4
  exact (uAdc_w u m w_u w_m)

/-- (kotatsu/alu.Unit).Read -/
def uRead_5 (u : Un) (m : Int) : Un :=
  (uSbc u m)
theorem uRead_5_ok (u : Un) (m : Int) : FnSpec Tryz.prog 132 1000 [Un.enc u, .int .u8 5, .int .u8 m] [] (Un.enc (uRead_5 u m)) [] := by
  unfold uRead_5
  exact fn_of_x hG hM Tryz.func132 (by kernel_rfl) (by kernel_rfl) 400 [.call [] [] 1000 (.int .u8 1) [], .no, .call [] [] 1000 (.func (.yield 1) ⟨[.func (.func 161) ⟨[]⟩ ⟨[]⟩, .func (.func 155) ⟨[]⟩ ⟨[]⟩, .func (.func 156) ⟨[]⟩ ⟨[]⟩, .func (.func 157) ⟨[]⟩ ⟨[]⟩, .func (.func 158) ⟨[]⟩ ⟨[]⟩, .func (.func 160) ⟨[]⟩ ⟨[]⟩, .func (.func 159) ⟨[]⟩ ⟨[]⟩, .func (.func 162) ⟨[]⟩ ⟨[]⟩, .func (.func 163) ⟨[]⟩ ⟨[]⟩, .func (.func 138) ⟨[]⟩ ⟨[]⟩, .func (.func 136) ⟨[]⟩ ⟨[]⟩, .func (.func 137) ⟨[]⟩ ⟨[]⟩, .func (.func 164) ⟨[]⟩ ⟨[]⟩, .func (.func 165) ⟨[]⟩ ⟨[]⟩, .func (.func 166) ⟨[]⟩ ⟨[]⟩, .func (.func 167) ⟨[]⟩ ⟨[]⟩, .func (.func 168) ⟨[]⟩ ⟨[]⟩, .func (.func 169) ⟨[]⟩ ⟨[]⟩, .func (.func 170) ⟨[]⟩ ⟨[]⟩]⟩ ⟨[.bool true]⟩) [], .lit 5, .call [] [] 1000 (Un.enc (uSbc u m)) []] (J (aKind_ok 5) (J (Eq.refl false) (J (uReaders_p1) (J (Eq.refl true) (J (Eq.refl (5 : Int)) (J (uSbc_ok u m) trivial)))))) (by kernel_rfl)

theorem uRead_5_w (u : Un) (m : Int) (w_u : Un.ok u) (w_m : rng 256 m) : Un.ok (uRead_5 u m) := by
  unfold uRead_5
  exact (uSbc_w u m w_u w_m)

/-- (kotatsu/alu.Unit).Read -/
def uRead_6 (u : Un) (m : Int) : Un :=
  (uCmp u m)
theorem uRead_6_ok (u : Un) (m : Int) : FnSpec Tryz.prog 132 1000 [Un.enc u, .int .u8 6, .int .u8 m] [] (Un.enc (uRead_6 u m)) [] := by
  unfold uRead_6
  exact fn_of_x hG hM Tryz.func132 (by kernel_rfl) (by kernel_rfl) 400 [.call [] [] 1000 (.int .u8 1) [], .no, .call [] [] 1000 (.func (.yield 1) ⟨[.func (.func 161) ⟨[]⟩ ⟨[]⟩, .func (.func 155) ⟨[]⟩ ⟨[]⟩, .func (.func 156) ⟨[]⟩ ⟨[]⟩, .func (.func 157) ⟨[]⟩ ⟨[]⟩, .func (.func 158) ⟨[]⟩ ⟨[]⟩, .func (.func 160) ⟨[]⟩ ⟨[]⟩, .func (.func 159) ⟨[]⟩ ⟨[]⟩, .func (.func 162) ⟨[]⟩ ⟨[]⟩, .func (.func 163) ⟨[]⟩ ⟨[]⟩, .func (.func 138) ⟨[]⟩ ⟨[]⟩, .func (.func 136) ⟨[]⟩ ⟨[]⟩, .func (.func 137) ⟨[]⟩ ⟨[]⟩, .func (.func 164) ⟨[]⟩ ⟨[]⟩, .func (.func 165) ⟨[]⟩ ⟨[]⟩, .func (.func 166) ⟨[]⟩ ⟨[]⟩, .func (.func 167) ⟨[]⟩ ⟨[]⟩, .func (.func 168) ⟨[]⟩ ⟨[]⟩, .func (.func 169) ⟨[]⟩ ⟨[]⟩, .func (.func 170) ⟨[]⟩ ⟨[]⟩]⟩ ⟨[.bool true]⟩) [], .lit 6, .call [] [] 1000 (Un.enc (uCmp u m)) []] (J (aKind_ok 6) (J (Eq.refl false) (J (uReaders_p1) (J (Eq.refl true) (J (Eq.refl (6 : Int)) (J (uCmp_ok u m) trivial)))))) (by kernel_rfl)

theorem uRead_6_w (u : Un) (m : Int) (w_u : Un.ok u) (w_m : rng 256 m) : Un.ok (uRead_6 u m) := by
  unfold uRead_6
  exact (uCmp_w u m w_u w_m)

/-- (kotatsu/alu.Unit).Read -/
def uRead_7 (u : Un) (m : Int) : Un :=
  (uCpx u m)
theorem uRead_7_ok (u : Un) (m : Int) : FnSpec Tryz.prog 132 1000 [Un.enc u, .int .u8 7, .int .u8 m] [] (Un.enc (uRead_7 u m)) [] := by
  unfold uRead_7
  exact fn_of_x hG hM Tryz.func132 (by kernel_rfl) (by kernel_rfl) 400 [.call [] [] 1000 (.int .u8 1) [], .no, .call [] [] 1000 (.func (.yield 1) ⟨[.func (.func 161) ⟨[]⟩ ⟨[]⟩, .func (.func 155) ⟨[]⟩ ⟨[]⟩, .func (.func 156) ⟨[]⟩ ⟨[]⟩, .func (.func 157) ⟨[]⟩ ⟨[]⟩, .func (.func 158) ⟨[]⟩ ⟨[]⟩, .func (.func 160) ⟨[]⟩ ⟨[]⟩, .func (.func 159) ⟨[]⟩ ⟨[]⟩, .func (.func 162) ⟨[]⟩ ⟨[]⟩, .func (.func 163) ⟨[]⟩ ⟨[]⟩, .func (.func 138) ⟨[]⟩ ⟨[]⟩, .func (.func 136) ⟨[]⟩ ⟨[]⟩, .func (.func 137) ⟨[]⟩ ⟨[]⟩, .func (.func 164) ⟨[]⟩ ⟨[]⟩, .func (.func 165) ⟨[]⟩ ⟨[]⟩, .func (.func 166) ⟨[]⟩ ⟨[]⟩, .func (.func 167) ⟨[]⟩ ⟨[]⟩, .func (.func 168) ⟨[]⟩ ⟨[]⟩, .func (.func 169) ⟨[]⟩ ⟨[]⟩, .func (.func 170) ⟨[]⟩ ⟨[]⟩]⟩ ⟨[.bool true]⟩) [], .lit 7, .call [] [] 1000 (Un.enc (uCpx u m)) []] (J (aKind_ok 7) (J (Eq.refl false) (J (uReaders_p1) (J (Eq.refl true) (J (Eq.refl (7 : Int)) (J (uCpx_ok u m) trivial)))))) (by kernel_rfl)

theorem uRead_7_w (u : Un) (m : Int) (w_u : Un.ok u) (w_m : rng 256 m) : Un.ok (uRead_7 u m) := by
  unfold uRead_7
  exact (uCpx_w u m w_u w_m)

/-- (kotatsu/alu.Unit).Read -/
def uRead_8 (u : Un) (m : Int) : Un :=
  (uCpy u m)
theorem uRead_8_ok (u : Un) (m : Int) : FnSpec Tryz.prog 132 1000 [Un.enc u, .int .u8 8, .int .u8 m] [] (Un.enc (uRead_8 u m)) [] := by
  unfold uRead_8
  exact fn_of_x hG hM Tryz.func132 (by kernel_rfl) (by kernel_rfl) 400 [.call [] [] 1000 (.int .u8 1) [], .no, .call [] [] 1000 (.func (.yield 1) ⟨[.func (.func 161) ⟨[]⟩ ⟨[]⟩, .func (.func 155) ⟨[]⟩ ⟨[]⟩, .func (.func 156) ⟨[]⟩ ⟨[]⟩, .func (.func 157) ⟨[]⟩ ⟨[]⟩, .func (.func 158) ⟨[]⟩ ⟨[]⟩, .func (.func 160) ⟨[]⟩ ⟨[]⟩, .func (.func 159) ⟨[]⟩ ⟨[]⟩, .func (.func 162) ⟨[]⟩ ⟨[]⟩, .func (.func 163) ⟨[]⟩ ⟨[]⟩, .func (.func 138) ⟨[]⟩ ⟨[]⟩, .func (.func 136) ⟨[]⟩ ⟨[]⟩, .func (.func 137) ⟨[]⟩ ⟨[]⟩, .func (.func 164) ⟨[]⟩ ⟨[]⟩, .func (.func 165) ⟨[]⟩ ⟨[]⟩, .func (.func 166) ⟨[]⟩ ⟨[]⟩, .func (.func 167) ⟨[]⟩ ⟨[]⟩, .func (.func 168) ⟨[]⟩ ⟨[]⟩, .func (.func 169) ⟨[]⟩ ⟨[]⟩, .func (.func 170) ⟨[]⟩ ⟨[]⟩]⟩ ⟨[.bool true]⟩) [], .lit 8, .call [] [] 1000 (Un.enc (uCpy u m)) []] (J (aKind_ok 8) (J (Eq.refl false) (J (uReaders_p1) (J (Eq.refl true) (J (Eq.refl (8 : Int)) (J (uCpy_ok u m) trivial)))))) (by kernel_rfl)

theorem uRead_8_w (u : Un) (m : Int) (w_u : Un.ok u) (w_m : rng 256 m) : Un.ok (uRead_8 u m) := by
  unfold uRead_8
  exact (uCpy_w u m w_u w_m)

/-- (kotatsu/alu.Unit).Read -/
def uRead_9 (u : Un) (m : Int) : Un :=
  (uLoad u m)
theorem uRead_9_ok (u : Un) (m : Int) : FnSpec Tryz.prog 132 1000 [Un.enc u, .int .u8 9, .int .u8 m] [] (Un.enc (uRead_9 u m)) [] := by
  unfold uRead_9
  exact fn_of_x hG hM Tryz.func132 (by kernel_rfl) (by kernel_rfl) 400 [.call [] [] 1000 (.int .u8 1) [], .no, .call [] [] 1000 (.func (.yield 1) ⟨[.func (.func 161) ⟨[]⟩ ⟨[]⟩, .func (.func 155) ⟨[]⟩ ⟨[]⟩, .func (.func 156) ⟨[]⟩ ⟨[]⟩, .func (.func 157) ⟨[]⟩ ⟨[]⟩, .func (.func 158) ⟨[]⟩ ⟨[]⟩, .func (.func 160) ⟨[]⟩ ⟨[]⟩, .func (.func 159) ⟨[]⟩ ⟨[]⟩, .func (.func 162) ⟨[]⟩ ⟨[]⟩, .func (.func 163) ⟨[]⟩ ⟨[]⟩, .func (.func 138) ⟨[]⟩ ⟨[]⟩, .func (.func 136) ⟨[]⟩ ⟨[]⟩, .func (.func 137) ⟨[]⟩ ⟨[]⟩, .func (.func 164) ⟨[]⟩ ⟨[]⟩, .func (.func 165) ⟨[]⟩ ⟨[]⟩, .func (.func 166) ⟨[]⟩ ⟨[]⟩, .func (.func 167) ⟨[]⟩ ⟨[]⟩, .func (.func 168) ⟨[]⟩ ⟨[]⟩, .func (.func 169) ⟨[]⟩ ⟨[]⟩, .func (.func 170) ⟨[]⟩ ⟨[]⟩]⟩ ⟨[.bool true]⟩) [], .lit 9, .call [] [] 1000 (Un.enc (uLoad u m)) []] (J (aKind_ok 9) (J (Eq.refl false) (J (uReaders_p1) (J (Eq.refl true) (J (Eq.refl (9 : Int)) (J (uLoad_ok u m) trivial)))))) (by kernel_rfl)

theorem uRead_9_w (u : Un) (m : Int) (w_u : Un.ok u) (w_m : rng 256 m) : Un.ok (uRead_9 u m) := by
  unfold uRead_9
  exact (uLoad_w u m w_u w_m)

/-- (kotatsu/alu.Unit).Read -/
def uRead_10 (u : Un) (m : Int) : Un :=
  (uLdx u m)
theorem uRead_10_ok (u : Un) (m : Int) : FnSpec Tryz.prog 132 1000 [Un.enc u, .int .u8 10, .int .u8 m] [] (Un.enc (uRead_10 u m)) [] := by
  unfold uRead_10
  exact fn_of_x hG hM Tryz.func132 (by kernel_rfl) (by kernel_rfl) 400 [.call [] [] 1000 (.int .u8 1) [], .no, .call [] [] 1000 (.func (.yield 1) ⟨[.func (.func 161) ⟨[]⟩ ⟨[]⟩, .func (.func 155) ⟨[]⟩ ⟨[]⟩, .func (.func 156) ⟨[]⟩ ⟨[]⟩, .func (.func 157) ⟨[]⟩ ⟨[]⟩, .func (.func 158) ⟨[]⟩ ⟨[]⟩, .func (.func 160) ⟨[]⟩ ⟨[]⟩, .func (.func 159) ⟨[]⟩ ⟨[]⟩, .func (.func 162) ⟨[]⟩ ⟨[]⟩, .func (.func 163) ⟨[]⟩ ⟨[]⟩, .func (.func 138) ⟨[]⟩ ⟨[]⟩, .func (.func 136) ⟨[]⟩ ⟨[]⟩, .func (.func 137) ⟨[]⟩ ⟨[]⟩, .func (.func 164) ⟨[]⟩ ⟨[]⟩, .func (.func 165) ⟨[]⟩ ⟨[]⟩, .func (.func 166) ⟨[]⟩ ⟨[]⟩, .func (.func 167) ⟨[]⟩ ⟨[]⟩, .func (.func 168) ⟨[]⟩ ⟨[]⟩, .func (.func 169) ⟨[]⟩ ⟨[]⟩, .func (.func 170) ⟨[]⟩ ⟨[]⟩]⟩ ⟨[.bool true]⟩) [], .lit 10, .call [] [] 1000 (Un.enc (uLdx u m)) []] (J (aKind_ok 10) (J (Eq.refl false) (J (uReaders_p1) (J (Eq.refl true) (J (Eq.refl (10 : Int)) (J (uLdx_ok u m) trivial)))))) (by kernel_rfl)

theorem uRead_10_w (u : Un) (m : Int) (w_u : Un.ok u) (w_m : rng 256 m) : Un.ok (uRead_10 u m) := by
  unfold uRead_10
  exact (uLdx_w u m w_u w_m)

/-- (kotatsu/alu.Unit).Read -/
def uRead_11 (u : Un) (m : Int) : Un :=
  (uLdy u m)
theorem uRead_11_ok (u : Un) (m : Int) : FnSpec Tryz.prog 132 1000 [Un.enc u, .int .u8 11, .int .u8 m] [] (Un.enc (uRead_11 u m)) [] := by
  unfold uRead_11
  exact fn_of_x hG hM Tryz.func132 (by kernel_rfl) (by kernel_rfl) 400 [.call [] [] 1000 (.int .u8 1) [], .no, .call [] [] 1000 (.func (.yield 1) ⟨[.func (.func 161) ⟨[]⟩ ⟨[]⟩, .func (.func 155) ⟨[]⟩ ⟨[]⟩, .func (.func 156) ⟨[]⟩ ⟨[]⟩, .func (.func 157) ⟨[]⟩ ⟨[]⟩, .func (.func 158) ⟨[]⟩ ⟨[]⟩, .func (.func 160) ⟨[]⟩ ⟨[]⟩, .func (.func 159) ⟨[]⟩ ⟨[]⟩, .func (.func 162) ⟨[]⟩ ⟨[]⟩, .func (.func 163) ⟨[]⟩ ⟨[]⟩, .func (.func 138) ⟨[]⟩ ⟨[]⟩, .func (.func 136) ⟨[]⟩ ⟨[]⟩, .func (.func 137) ⟨[]⟩ ⟨[]⟩, .func (.func 164) ⟨[]⟩ ⟨[]⟩, .func (.func 165) ⟨[]⟩ ⟨[]⟩, .func (.func 166) ⟨[]⟩ ⟨[]⟩, .func (.func 167) ⟨[]⟩ ⟨[]⟩, .func (.func 168) ⟨[]⟩ ⟨[]⟩, .func (.func 169) ⟨[]⟩ ⟨[]⟩, .func (.func 170) ⟨[]⟩ ⟨[]⟩]⟩ ⟨[.bool true]⟩) [], .lit 11, .call [] [] 1000 (Un.enc (uLdy u m)) []] (J (aKind_ok 11) (J (Eq.refl false) (J (uReaders_p1) (J (Eq.refl true) (J (Eq.refl (11 : Int)) (J (uLdy_ok u m) trivial)))))) (by kernel_rfl)

theorem uRead_11_w (u : Un) (m : Int) (w_u : Un.ok u) (w_m : rng 256 m) : Un.ok (uRead_11 u m) := by
  unfold uRead_11
  exact (uLdy_w u m w_u w_m)

/-- (kotatsu/alu.Unit).Read -/
def uRead_12 (u : Un) (m : Int) : Un :=
  (uBit u m)
theorem uRead_12_ok (u : Un) (m : Int) : FnSpec Tryz.prog 132 1000 [Un.enc u, .int .u8 12, .int .u8 m] [] (Un.enc (uRead_12 u m)) [] := by
  unfold uRead_12
  exact fn_of_x hG hM Tryz.func132 (by kernel_rfl) (by kernel_rfl) 400 [.call [] [] 1000 (.int .u8 1) [], .no, .call [] [] 1000 (.func (.yield 1) ⟨[.func (.func 161) ⟨[]⟩ ⟨[]⟩, .func (.func 155) ⟨[]⟩ ⟨[]⟩, .func (.func 156) ⟨[]⟩ ⟨[]⟩, .func (.func 157) ⟨[]⟩ ⟨[]⟩, .func (.func 158) ⟨[]⟩ ⟨[]⟩, .func (.func 160) ⟨[]⟩ ⟨[]⟩, .func (.func 159) ⟨[]⟩ ⟨[]⟩, .func (.func 162) ⟨[]⟩ ⟨[]⟩, .func (.func 163) ⟨[]⟩ ⟨[]⟩, .func (.func 138) ⟨[]⟩ ⟨[]⟩, .func (.func 136) ⟨[]⟩ ⟨[]⟩, .func (.func 137) ⟨[]⟩ ⟨[]⟩, .func (.func 164) ⟨[]⟩ ⟨[]⟩, .func (.func 165) ⟨[]⟩ ⟨[]⟩, .func (.func 166) ⟨[]⟩ ⟨[]⟩, .func (.func 167) ⟨[]⟩ ⟨[]⟩, .func (.func 168) ⟨[]⟩ ⟨[]⟩, .func (.func 169) ⟨[]⟩ ⟨[]⟩, .func (.func 170) ⟨[]⟩ ⟨[]⟩]⟩ ⟨[.bool true]⟩) [], .lit 12, .call [] [] 1000 (Un.enc (uBit u m)) []] (J (aKind_ok 12) (J (Eq.refl false) (J (uReaders_p1) (J (Eq.refl true) (J (Eq.refl (12 : Int)) (J (uBit_ok u m) trivial)))))) (by kernel_rfl)

theorem uRead_12_w (u : Un) (m : Int) (w_u : Un.ok u) (w_m : rng 256 m) : Un.ok (uRead_12 u m) := by
  unfold uRead_12
  exact (uBit_w u m w_u w_m)

/-- (kotatsu/alu.Unit).Read -/
def uRead_13 (u : Un) (m : Int) : Un :=
  (uLax u m)
theorem uRead_13_ok (u : Un) (m : Int) : FnSpec Tryz.prog 132 1000 [Un.enc u, .int .u8 13, .int .u8 m] [] (Un.enc (uRead_13 u m)) [] := by
  unfold uRead_13
  exact fn_of_x hG hM Tryz.func132 (by kernel_rfl) (by kernel_rfl) 400 [.call [] [] 1000 (.int .u8 1) [], .no, .call [] [] 1000 (.func (.yield 1) ⟨[.func (.func 161) ⟨[]⟩ ⟨[]⟩, .func (.func 155) ⟨[]⟩ ⟨[]⟩, .func (.func 156) ⟨[]⟩ ⟨[]⟩, .func (.func 157) ⟨[]⟩ ⟨[]⟩, .func (.func 158) ⟨[]⟩ ⟨[]⟩, .func (.func 160) ⟨[]⟩ ⟨[]⟩, .func (.func 159) ⟨[]⟩ ⟨[]⟩, .func (.func 162) ⟨[]⟩ ⟨[]⟩, .func (.func 163) ⟨[]⟩ ⟨[]⟩, .func (.func 138) ⟨[]⟩ ⟨[]⟩, .func (.func 136) ⟨[]⟩ ⟨[]⟩, .func (.func 137) ⟨[]⟩ ⟨[]⟩, .func (.func 164) ⟨[]⟩ ⟨[]⟩, .func (.func 165) ⟨[]⟩ ⟨[]⟩, .func (.func 166) ⟨[]⟩ ⟨[]⟩, .func (.func 167) ⟨[]⟩ ⟨[]⟩, .func (.func 168) ⟨[]⟩ ⟨[]⟩, .func (.func 169) ⟨[]⟩ ⟨[]⟩, .func (.func 170) ⟨[]⟩ ⟨[]⟩]⟩ ⟨[.bool true]⟩) [], .lit 13, .call [] [] 1000 (Un.enc (uLax u m)) []] (J (aKind_ok 13) (J (Eq.refl false) (J (uReaders_p1) (J (Eq.refl true) (J (Eq.refl (13 : Int)) (J (uLax_ok u m) trivial)))))) (by kernel_rfl)

theorem uRead_13_w (u : Un) (m : Int) (w_u : Un.ok u) (w_m : rng 256 m) : Un.ok (uRead_13 u m) := by
  unfold uRead_13
  exact (uLax_w u m w_u w_m)

/-- (kotatsu/alu.Unit).Read -/
def uRead_14 (u : Un) (m : Int) : Un :=
  (uAnc u m)
theorem uRead_14_ok (u : Un) (m : Int) : FnSpec Tryz.prog 132 1000 [Un.enc u, .int .u8 14, .int .u8 m] [] (Un.enc (uRead_14 u m)) [] := by
  unfold uRead_14
  exact fn_of_x hG hM Tryz.func132 (by kernel_rfl) (by kernel_rfl) 400 [.call [] [] 1000 (.int .u8 1) [], .no, .call [] [] 1000 (.func (.yield 1) ⟨[.func (.func 161) ⟨[]⟩ ⟨[]⟩, .func (.func 155) ⟨[]⟩ ⟨[]⟩, .func (.func 156) ⟨[]⟩ ⟨[]⟩, .func (.func 157) ⟨[]⟩ ⟨[]⟩, .func (.func 158) ⟨[]⟩ ⟨[]⟩, .func (.func 160) ⟨[]⟩ ⟨[]⟩, .func (.func 159) ⟨[]⟩ ⟨[]⟩, .func (.func 162) ⟨[]⟩ ⟨[]⟩, .func (.func 163) ⟨[]⟩ ⟨[]⟩, .func (.func 138) ⟨[]⟩ ⟨[]⟩, .func (.func 136) ⟨[]⟩ ⟨[]⟩, .func (.func 137) ⟨[]⟩ ⟨[]⟩, .func (.func 164) ⟨[]⟩ ⟨[]⟩, .func (.func 165) ⟨[]⟩ ⟨[]⟩, .func (.func 166) ⟨[]⟩ ⟨[]⟩, .func (.func 167) ⟨[]⟩ ⟨[]⟩, .func (.func 168) ⟨[]⟩ ⟨[]⟩, .func (.func 169) ⟨[]⟩ ⟨[]⟩, .func (.func 170) ⟨[]⟩ ⟨[]⟩]⟩ ⟨[.bool true]⟩) [], .lit 14, .call [] [] 1000 (Un.enc (uAnc u m)) []] (J (aKind_ok 14) (J (Eq.refl false) (J (uReaders_p1) (J (Eq.refl true) (J (Eq.refl (14 : Int)) (J (uAnc_ok u m) trivial)))))) (by kernel_rfl)

theorem uRead_14_w (u : Un) (m : Int) (w_u : Un.ok u) (w_m : rng 256 m) : Un.ok (uRead_14 u m) := by
  unfold uRead_14
  exact (uAnc_w u m w_u w_m)

/-- (kotatsu/alu.Unit).Read -/
def uRead_15 (u : Un) (m : Int) : Un :=
  (uAlr u m)
theorem uRead_15_ok (u : Un) (m : Int) : FnSpec Tryz.prog 132 1000 [Un.enc u, .int .u8 15, .int .u8 m] [] (Un.enc (uRead_15 u m)) [] := by
  unfold uRead_15
  exact fn_of_x hG hM Tryz.func132 (by kernel_rfl) (by kernel_rfl) 400 [.call [] [] 1000 (.int .u8 1) [], .no, .call [] [] 1000 (.func (.yield 1) ⟨[.func (.func 161) ⟨[]⟩ ⟨[]⟩, .func (.func 155) ⟨[]⟩ ⟨[]⟩, .func (.func 156) ⟨[]⟩ ⟨[]⟩, .func (.func 157) ⟨[]⟩ ⟨[]⟩, .func (.func 158) ⟨[]⟩ ⟨[]⟩, .func (.func 160) ⟨[]⟩ ⟨[]⟩, .func (.func 159) ⟨[]⟩ ⟨[]⟩, .func (.func 162) ⟨[]⟩ ⟨[]⟩, .func (.func 163) ⟨[]⟩ ⟨[]⟩, .func (.func 138) ⟨[]⟩ ⟨[]⟩, .func (.func 136) ⟨[]⟩ ⟨[]⟩, .func (.func 137) ⟨[]⟩ ⟨[]⟩, .func (.func 164) ⟨[]⟩ ⟨[]⟩, .func (.func 165) ⟨[]⟩ ⟨[]⟩, .func (.func 166) ⟨[]⟩ ⟨[]⟩, .func (.func 167) ⟨[]⟩ ⟨[]⟩, .func (.func 168) ⟨[]⟩ ⟨[]⟩, .func (.func 169) ⟨[]⟩ ⟨[]⟩, .func (.func 170) ⟨[]⟩ ⟨[]⟩]⟩ ⟨[.bool true]⟩) [], .lit 15, .call [] [] 1000 (Un.enc (uAlr u m)) []] (J (aKind_ok 15) (J (Eq.refl false) (J (uReaders_p1) (J (Eq.refl true) (J (Eq.refl (15 : Int)) (J (uAlr_ok u m) trivial)))))) (by kernel_rfl)

theorem uRead_15_w (u : Un) (m : Int) (w_u : Un.ok u) (w_m : rng 256 m) : Un.ok (uRead_15 u m) := by
  unfold uRead_15
  exact (uAlr_w u m w_u w_m)

/-- (kotatsu/alu.Unit).Read -/
def uRead_16 (u : Un) (m : Int) : Un :=
  (uArr u m)
theorem uRead_16_ok (u : Un) (m : Int) : FnSpec Tryz.prog 132 1000 [Un.enc u, .int .u8 16, .int .u8 m] [] (Un.enc (uRead_16 u m)) [] := by
  unfold uRead_16
  exact fn_of_x hG hM Tryz.func132 (by kernel_rfl) (by kernel_rfl) 400 [.call [] [] 1000 (.int .u8 1) [], .no, .call [] [] 1000 (.func (.yield 1) ⟨[.func (.func 161) ⟨[]⟩ ⟨[]⟩, .func (.func 155) ⟨[]⟩ ⟨[]⟩, .func (.func 156) ⟨[]⟩ ⟨[]⟩, .func (.func 157) ⟨[]⟩ ⟨[]⟩, .func (.func 158) ⟨[]⟩ ⟨[]⟩, .func (.func 160) ⟨[]⟩ ⟨[]⟩, .func (.func 159) ⟨[]⟩ ⟨[]⟩, .func (.func 162) ⟨[]⟩ ⟨[]⟩, .func (.func 163) ⟨[]⟩ ⟨[]⟩, .func (.func 138) ⟨[]⟩ ⟨[]⟩, .func (.func 136) ⟨[]⟩ ⟨[]⟩, .func (.func 137) ⟨[]⟩ ⟨[]⟩, .func (.func 164) ⟨[]⟩ ⟨[]⟩, .func (.func 165) ⟨[]⟩ ⟨[]⟩, .func (.func 166) ⟨[]⟩ ⟨[]⟩, .func (.func 167) ⟨[]⟩ ⟨[]⟩, .func (.func 168) ⟨[]⟩ ⟨[]⟩, .func (.func 169) ⟨[]⟩ ⟨[]⟩, .func (.func 170) ⟨[]⟩ ⟨[]⟩]⟩ ⟨[.bool true]⟩) [], .lit 16, .call [] [] 1000 (Un.enc (uArr u m)) []] (J (aKind_ok 16) (J (Eq.refl false) (J (uReaders_p1) (J (Eq.refl true) (J (Eq.refl (16 : Int)) (J (uArr_ok u m) trivial)))))) (by kernel_rfl)

theorem uRead_16_w (u : Un) (m : Int) (w_u : Un.ok u) (w_m : rng 256 m) : Un.ok (uRead_16 u m) := by
  unfold uRead_16
  exact (uArr_w u m w_u w_m)

/-- (kotatsu/alu.Unit).Read -/
def uRead_17 (u : Un) (m : Int) : Un :=
  (uAxs u m)
theorem uRead_17_ok (u : Un) (m : Int) : FnSpec Tryz.prog 132 1000 [Un.enc u, .int .u8 17, .int .u8 m] [] (Un.enc (uRead_17 u m)) [] := by
  unfold uRead_17
  exact fn_of_x hG hM Tryz.func132 (by kernel_rfl) (by kernel_rfl) 400 [.call [] [] 1000 (.int .u8 1) [], .no, .call [] [] 1000 (.func (.yield 1) ⟨[.func (.func 161) ⟨[]⟩ ⟨[]⟩, .func (.func 155) ⟨[]⟩ ⟨[]⟩, .func (.func 156) ⟨[]⟩ ⟨[]⟩, .func (.func 157) ⟨[]⟩ ⟨[]⟩, .func (.func 158) ⟨[]⟩ ⟨[]⟩, .func (.func 160) ⟨[]⟩ ⟨[]⟩, .func (.func 159) ⟨[]⟩ ⟨[]⟩, .func (.func 162) ⟨[]⟩ ⟨[]⟩, .func (.func 163) ⟨[]⟩ ⟨[]⟩, .func (.func 138) ⟨[]⟩ ⟨[]⟩, .func (.func 136) ⟨[]⟩ ⟨[]⟩, .func (.func 137) ⟨[]⟩ ⟨[]⟩, .func (.func 164) ⟨[]⟩ ⟨[]⟩, .func (.func 165) ⟨[]⟩ ⟨[]⟩, .func (.func 166) ⟨[]⟩ ⟨[]⟩, .func (.func 167) ⟨[]⟩ ⟨[]⟩, .func (.func 168) ⟨[]⟩ ⟨[]⟩, .func (.func 169) ⟨[]⟩ ⟨[]⟩, .func (.func 170) ⟨[]⟩ ⟨[]⟩]⟩ ⟨[.bool true]⟩) [], .lit 17, .call [] [] 1000 (Un.enc (uAxs u m)) []] (J (aKind_ok 17) (J (Eq.refl false) (J (uReaders_p1) (J (Eq.refl true) (J (Eq.refl (17 : Int)) (J (uAxs_ok u m) trivial)))))) (by kernel_rfl)

theorem uRead_17_w (u : Un) (m : Int) (w_u : Un.ok u) (w_m : rng 256 m) : Un.ok (uRead_17 u m) := by
  unfold uRead_17
  exact (uAxs_w u m w_u w_m)

/-- (kotatsu/alu.Unit).Read -/
def uRead_18 (u : Un) (m : Int) : Un :=
  (uLas u m)
theorem uRead_18_ok (u : Un) (m : Int) : FnSpec Tryz.prog 132 1000 [Un.enc u, .int .u8 18, .int .u8 m] [] (Un.enc (uRead_18 u m)) [] := by
  unfold uRead_18
  exact fn_of_x hG hM Tryz.func132 (by kernel_rfl) (by kernel_rfl) 400 [.call [] [] 1000 (.int .u8 1) [], .no, .call [] [] 1000 (.func (.yield 1) ⟨[.func (.func 161) ⟨[]⟩ ⟨[]⟩, .func (.func 155) ⟨[]⟩ ⟨[]⟩, .func (.func 156) ⟨[]⟩ ⟨[]⟩, .func (.func 157) ⟨[]⟩ ⟨[]⟩, .func (.func 158) ⟨[]⟩ ⟨[]⟩, .func (.func 160) ⟨[]⟩ ⟨[]⟩, .func (.func 159) ⟨[]⟩ ⟨[]⟩, .func (.func 162) ⟨[]⟩ ⟨[]⟩, .func (.func 163) ⟨[]⟩ ⟨[]⟩, .func (.func 138) ⟨[]⟩ ⟨[]⟩, .func (.func 136) ⟨[]⟩ ⟨[]⟩, .func (.func 137) ⟨[]⟩ ⟨[]⟩, .func (.func 164) ⟨[]⟩ ⟨[]⟩, .func (.func 165) ⟨[]⟩ ⟨[]⟩, .func (.func 166) ⟨[]⟩ ⟨[]⟩, .func (.func 167) ⟨[]⟩ ⟨[]⟩, .func (.func 168) ⟨[]⟩ ⟨[]⟩, .func (.func 169) ⟨[]⟩ ⟨[]⟩, .func (.func 170) ⟨[]⟩ ⟨[]⟩]⟩ ⟨[.bool true]⟩) [], .lit 18, .call [] [] 1000 (Un.enc (uLas u m)) []] (J (aKind_ok 18) (J (Eq.refl false) (J (uReaders_p1) (J (Eq.refl true) (J (Eq.refl (18 : Int)) (J (uLas_ok u m) trivial)))))) (by kernel_rfl)

theorem uRead_18_w (u : Un) (m : Int) (w_u : Un.ok u) (w_m : rng 256 m) : Un.ok (uRead_18 u m) := by
  unfold uRead_18
  exact (uLas_w u m w_u w_m)

/-- (kotatsu/alu.Unit).Change -/
def uChange_19 (u : Un) (m : Int) : Un × Int :=
  ((uAsl u m).1, (uAsl u m).2)
theorem uChange_19_ok (u : Un) (m : Int) : FnSpec Tryz.prog 131 1000 [Un.enc u, .int .u8 19, .int .u8 m] [] (.tuple ⟨[Un.enc ((uChange_19 u m).1), .int .u8 ((uChange_19 u m).2)]⟩) [] := by
  unfold uChange_19
  exact fn_of_x hG hM Tryz.func131 (by kernel_rfl) (by kernel_rfl) 400 [.call [] [] 1000 (.int .u8 2) [], .no, .lit 0, .call [] [] 1000 (.tuple ⟨[Un.enc ((uAsl u m).1), .int .u8 ((uAsl u m).2)]⟩) []] (J (aKind_ok 19) (J (Eq.refl false) (J (Eq.refl (0 : Int)) (J (by decide : 0 < 12) (J (uAsl_ok u m) trivial))))) (by kernel_rfl)

theorem uChange_19_w1 (u : Un) (m : Int) (w_u : Un.ok u) (w_m : rng 256 m) : Un.ok (uChange_19 u m).1 := by
  unfold uChange_19
  exact (uAsl_w1 u m w_u w_m)

theorem uChange_19_w2 (u : Un) (m : Int) (w_u : Un.ok u) (w_m : rng 256 m) : rng 256 (uChange_19 u m).2 := by
  unfold uChange_19
  exact (uAsl_w2 u m w_u w_m)

/-- (kotatsu/alu.Unit).Change -/
def uChange_20 (u : Un) (m : Int) : Un × Int :=
  ((uLsr u m).1, (uLsr u m).2)
theorem uChange_20_ok (u : Un) (m : Int) : FnSpec Tryz.prog 131 1000 [Un.enc u, .int .u8 20, .int .u8 m] [] (.tuple ⟨[Un.enc ((uChange_20 u m).1), .int .u8 ((uChange_20 u m).2)]⟩) [] := by
  unfold uChange_20
  exact fn_of_x hG hM Tryz.func131 (by kernel_rfl) (by kernel_rfl) 400 [.call [] [] 1000 (.int .u8 2) [], .no, .lit 1, .call [] [] 1000 (.tuple ⟨[Un.enc ((uLsr u m).1), .int .u8 ((uLsr u m).2)]⟩) []] (J (aKind_ok 20) (J (Eq.refl false) (J (Eq.refl (1 : Int)) (J (by decide : 1 < 12) (J (uLsr_ok u m) trivial))))) (by kernel_rfl)

theorem uChange_20_w1 (u : Un) (m : Int) (w_u : Un.ok u) (w_m : rng 256 m) : Un.ok (uChange_20 u m).1 := by
  unfold uChange_20
  exact (uLsr_w1 u m w_u w_m)

theorem uChange_20_w2 (u : Un) (m : Int) (w_u : Un.ok u) (w_m : rng 256 m) : rng 256 (uChange_20 u m).2 := by
  unfold uChange_20
  exact (uLsr_w2 u m w_u w_m)

/-- (kotatsu/alu.Unit).Change -/
def uChange_21 (u : Un) (m : Int) : Un × Int :=
  ((uRol u m).1, (uRol u m).2)
theorem uChange_21_ok (u : Un) (m : Int) : FnSpec Tryz.prog 131 1000 [Un.enc u, .int .u8 21, .int .u8 m] [] (.tuple ⟨[Un.enc ((uChange_21 u m).1), .int .u8 ((uChange_21 u m).2)]⟩) [] := by
  unfold uChange_21
  exact fn_of_x hG hM Tryz.func131 (by kernel_rfl) (by kernel_rfl) 400 [.call [] [] 1000 (.int .u8 2) [], .no, .lit 2, .call [] [] 1000 (.tuple ⟨[Un.enc ((uRol u m).1), .int .u8 ((uRol u m).2)]⟩) []] (J (aKind_ok 21) (J (Eq.refl false) (J (Eq.refl (2 : Int)) (J (by decide : 2 < 12) (J (uRol_ok u m) trivial))))) (by kernel_rfl)

theorem uChange_21_w1 (u : Un) (m : Int) (w_u : Un.ok u) (w_m : rng 256 m) : Un.ok (uChange_21 u m).1 := by
  unfold uChange_21
  exact (uRol_w1 u m w_u w_m)

theorem uChange_21_w2 (u : Un) (m : Int) (w_u : Un.ok u) (w_m : rng 256 m) : rng 256 (uChange_21 u m).2 := by
  unfold uChange_21
  exact (uRol_w2 u m w_u w_m)

/-- (kotatsu/alu.Unit).Change -/
def uChange_22 (u : Un) (m : Int) : Un × Int :=
  ((uRor u m).1, (uRor u m).2)
theorem uChange_22_ok (u : Un) (m : Int) : FnSpec Tryz.prog 131 1000 [Un.enc u, .int .u8 22, .int .u8 m] [] (.tuple ⟨[Un.enc ((uChange_22 u m).1), .int .u8 ((uChange_22 u m).2)]⟩) [] := by
  unfold uChange_22
  exact fn_of_x hG hM Tryz.func131 (by kernel_rfl) (by kernel_rfl) 400 [.call [] [] 1000 (.int .u8 2) [], .no, .lit 3, .call [] [] 1000 (.tuple ⟨[Un.enc ((uRor u m).1), .int .u8 ((uRor u m).2)]⟩) []] (J (aKind_ok 22) (J (Eq.refl false) (J (Eq.refl (3 : Int)) (J (by decide : 3 < 12) (J (uRor_ok u m) trivial))))) (by kernel_rfl)

theorem uChange_22_w1 (u : Un) (m : Int) (w_u : Un.ok u) (w_m : rng 256 m) : Un.ok (uChange_22 u m).1 := by
  unfold uChange_22
  exact (uRor_w1 u m w_u w_m)

theorem uChange_22_w2 (u : Un) (m : Int) (w_u : Un.ok u) (w_m : rng 256 m) : rng 256 (uChange_22 u m).2 := by
  unfold uChange_22
  exact (uRor_w2 u m w_u w_m)

/-- (kotatsu/alu.Unit).Change -/
def uChange_23 (u : Un) (m : Int) : Un × Int :=
  ((uInc u m).1, (uInc u m).2)
theorem uChange_23_ok (u : Un) (m : Int) : FnSpec Tryz.prog 131 1000 [Un.enc u, .int .u8 23, .int .u8 m] [] (.tuple ⟨[Un.enc ((uChange_23 u m).1), .int .u8 ((uChange_23 u m).2)]⟩) [] := by
  unfold uChange_23
  exact fn_of_x hG hM Tryz.func131 (by kernel_rfl) (by kernel_rfl) 400 [.call [] [] 1000 (.int .u8 2) [], .no, .lit 4, .call [] [] 1000 (.tuple ⟨[Un.enc ((uInc u m).1), .int .u8 ((uInc u m).2)]⟩) []] (J (aKind_ok 23) (J (Eq.refl false) (J (Eq.refl (4 : Int)) (J (by decide : 4 < 12) (J (uInc_ok u m) trivial))))) (by kernel_rfl)

theorem uChange_23_w1 (u : Un) (m : Int) (w_u : Un.ok u) (w_m : rng 256 m) : Un.ok (uChange_23 u m).1 := by
  unfold uChange_23
  exact (uInc_w1 u m w_u w_m)

theorem uChange_23_w2 (u : Un) (m : Int) (w_u : Un.ok u) (w_m : rng 256 m) : rng 256 (uChange_23 u m).2 := by
  unfold uChange_23
  exact (uInc_w2 u m w_u w_m)

/-- (kotatsu/alu.Unit).Change -/
def uChange_24 (u : Un) (m : Int) : Un × Int :=
  ((uDec u m).1, (uDec u m).2)
theorem uChange_24_ok (u : Un) (m : Int) : FnSpec Tryz.prog 131 1000 [Un.enc u, .int .u8 24, .int .u8 m] [] (.tuple ⟨[Un.enc ((uChange_24 u m).1), .int .u8 ((uChange_24 u m).2)]⟩) [] := by
  unfold uChange_24
  exact fn_of_x hG hM Tryz.func131 (by kernel_rfl) (by kernel_rfl) 400 [.call [] [] 1000 (.int .u8 2) [], .no, .lit 5, .call [] [] 1000 (.tuple ⟨[Un.enc ((uDec u m).1), .int .u8 ((uDec u m).2)]⟩) []] (J (aKind_ok 24) (J (Eq.refl false) (J (Eq.refl (5 : Int)) (J (by decide : 5 < 12) (J (uDec_ok u m) trivial))))) (by kernel_rfl)

theorem uChange_24_w1 (u : Un) (m : Int) (w_u : Un.ok u) (w_m : rng 256 m) : Un.ok (uChange_24 u m).1 := by
  unfold uChange_24
  exact (uDec_w1 u m w_u w_m)

theorem uChange_24_w2 (u : Un) (m : Int) (w_u : Un.ok u) (w_m : rng 256 m) : rng 256 (uChange_24 u m).2 := by
  unfold uChange_24
  exact (uDec_w2 u m w_u w_m)

/-- (kotatsu/alu.Unit).Change -/
def uChange_25 (u : Un) (m : Int) : Un × Int :=
  ((uSlo u m).1, (uSlo u m).2)
theorem uChange_25_ok (u : Un) (m : Int) : FnSpec Tryz.prog 131 1000 [Un.enc u, .int .u8 25, .int .u8 m] [] (.tuple ⟨[Un.enc ((uChange_25 u m).1), .int .u8 ((uChange_25 u m).2)]⟩) [] := by
  unfold uChange_25
  exact fn_of_x hG hM Tryz.func131 (by kernel_rfl) (by kernel_rfl) 400 [.call [] [] 1000 (.int .u8 2) [], .no, .lit 6, .call [] [] 1000 (.tuple ⟨[Un.enc ((uSlo u m).1), .int .u8 ((uSlo u m).2)]⟩) []] (J (aKind_ok 25) (J (Eq.refl false) (J (Eq.refl (6 : Int)) (J (by decide : 6 < 12) (J (uSlo_ok u m) trivial))))) (by kernel_rfl)

theorem uChange_25_w1 (u : Un) (m : Int) (w_u : Un.ok u) (w_m : rng 256 m) : Un.ok (uChange_25 u m).1 := by
  unfold uChange_25
  exact (uSlo_w1 u m w_u w_m)

theorem uChange_25_w2 (u : Un) (m : Int) (w_u : Un.ok u) (w_m : rng 256 m) : rng 256 (uChange_25 u m).2 := by
  unfold uChange_25
  exact (uSlo_w2 u m w_u w_m)

/-- (kotatsu/alu.Unit).Change -/
def uChange_26 (u : Un) (m : Int) : Un × Int :=
  ((uRla u m).1, (uRla u m).2)
theorem uChange_26_ok (u : Un) (m : Int) : FnSpec Tryz.prog 131 1000 [Un.enc u, .int .u8 26, .int .u8 m] [] (.tuple ⟨[Un.enc ((uChange_26 u m).1), .int .u8 ((uChange_26 u m).2)]⟩) [] := by
  unfold uChange_26
  exact fn_of_x hG hM Tryz.func131 (by kernel_rfl) (by kernel_rfl) 400 [.call [] [] 1000 (.int .u8 2) [], .no, .lit 7, .call [] [] 1000 (.tuple ⟨[Un.enc ((uRla u m).1), .int .u8 ((uRla u m).2)]⟩) []] (J (aKind_ok 26) (J (Eq.refl false) (J (Eq.refl (7 : Int)) (J (by decide : 7 < 12) (J (uRla_ok u m) trivial))))) (by kernel_rfl)

theorem uChange_26_w1 (u : Un) (m : Int) (w_u : Un.ok u) (w_m : rng 256 m) : Un.ok (uChange_26 u m).1 := by
  unfold uChange_26
  exact (uRla_w1 u m w_u w_m)

theorem uChange_26_w2 (u : Un) (m : Int) (w_u : Un.ok u) (w_m : rng 256 m) : rng 256 (uChange_26 u m).2 := by
  unfold uChange_26
  exact (uRla_w2 u m w_u w_m)

/-- (kotatsu/alu.Unit).Change -/
def uChange_27 (u : Un) (m : Int) : Un × Int :=
  ((uSre u m).1, (uSre u m).2)
theorem uChange_27_ok (u : Un) (m : Int) : FnSpec Tryz.prog 131 1000 [Un.enc u, .int .u8 27, .int .u8 m] [] (.tuple ⟨[Un.enc ((uChange_27 u m).1), .int .u8 ((uChange_27 u m).2)]⟩) [] := by
  unfold uChange_27
  exact fn_of_x hG hM Tryz.func131 (by kernel_rfl) (by kernel_rfl) 400 [.call [] [] 1000 (.int .u8 2) [], .no, .lit 8, .call [] [] 1000 (.tuple ⟨[Un.enc ((uSre u m).1), .int .u8 ((uSre u m).2)]⟩) []] (J (aKind_ok 27) (J (Eq.refl false) (J (Eq.refl (8 : Int)) (J (by decide : 8 < 12) (J (uSre_ok u m) trivial))))) (by kernel_rfl)

theorem uChange_27_w1 (u : Un) (m : Int) (w_u : Un.ok u) (w_m : rng 256 m) : Un.ok (uChange_27 u m).1 := by
  unfold uChange_27
  exact (uSre_w1 u m w_u w_m)

theorem uChange_27_w2 (u : Un) (m : Int) (w_u : Un.ok u) (w_m : rng 256 m) : rng 256 (uChange_27 u m).2 := by
  unfold uChange_27
  exact (uSre_w2 u m w_u w_m)

/-- (kotatsu/alu.Unit).Change -/
def uChange_28 (u : Un) (m : Int) : Un × Int :=
  ((uRra u m).1, (uRra u m).2)
theorem uChange_28_ok (u : Un) (m : Int) : FnSpec Tryz.prog 131 1000 [Un.enc u, .int .u8 28, .int .u8 m] [] (.tuple ⟨[Un.enc ((uChange_28 u m).1), .int .u8 ((uChange_28 u m).2)]⟩) [] := by
  unfold uChange_28
  exact fn_of_x hG hM Tryz.func131 (by kernel_rfl) (by kernel_rfl) 400 [.call [] [] 1000 (.int .u8 2) [], .no, .lit 9, .call [] [] 1000 (.tuple ⟨[Un.enc ((uRra u m).1), .int .u8 ((uRra u m).2)]⟩) []] (J (aKind_ok 28) (J (Eq.refl false) (J (Eq.refl (9 : Int)) (J (by decide : 9 < 12) (J (uRra_ok u m) trivial))))) (by kernel_rfl)

theorem uChange_28_w1 (u : Un) (m : Int) (w_u : Un.ok u) (w_m : rng 256 m) : Un.ok (uChange_28 u m).1 := by
  unfold uChange_28
  exact (uRra_w1 u m w_u w_m)

theorem uChange_28_w2 (u : Un) (m : Int) (w_u : Un.ok u) (w_m : rng 256 m) : rng 256 (uChange_28 u m).2 := by
  unfold uChange_28
  exact (uRra_w2 u m w_u w_m)

/-- (kotatsu/alu.Unit).Change -/
def uChange_29 (u : Un) (m : Int) : Un × Int :=
  ((uDcp u m).1, (uDcp u m).2)
theorem uChange_29_ok (u : Un) (m : Int) : FnSpec Tryz.prog 131 1000 [Un.enc u, .int .u8 29, .int .u8 m] [] (.tuple ⟨[Un.enc ((uChange_29 u m).1), .int .u8 ((uChange_29 u m).2)]⟩) [] := by
  unfold uChange_29
  exact fn_of_x hG hM Tryz.func131 (by kernel_rfl) (by kernel_rfl) 400 [.call [] [] 1000 (.int .u8 2) [], .no, .lit 10, .call [] [] 1000 (.tuple ⟨[Un.enc ((uDcp u m).1), .int .u8 ((uDcp u m).2)]⟩) []] (J (aKind_ok 29) (J (Eq.refl false) (J (Eq.refl (10 : Int)) (J (by decide : 10 < 12) (J (uDcp_ok u m) trivial))))) (by kernel_rfl)

theorem uChange_29_w1 (u : Un) (m : Int) (w_u : Un.ok u) (w_m : rng 256 m) : Un.ok (uChange_29 u m).1 := by
  unfold uChange_29
  exact (uDcp_w1 u m w_u w_m)

theorem uChange_29_w2 (u : Un) (m : Int) (w_u : Un.ok u) (w_m : rng 256 m) : rng 256 (uChange_29 u m).2 := by
  unfold uChange_29
  exact (uDcp_w2 u m w_u w_m)

/-- (kotatsu/alu.Unit).Change -/
def uChange_30 (u : Un) (m : Int) : Un × Int :=
  ((uIsc u m).1, (uIsc u m).2)
theorem uChange_30_ok (u : Un) (m : Int) : FnSpec Tryz.prog 131 1000 [Un.enc u, .int .u8 30, .int .u8 m] [] (.tuple ⟨[Un.enc ((uChange_30 u m).1), .int .u8 ((uChange_30 u m).2)]⟩) [] := by
  unfold uChange_30
  exact fn_of_x hG hM Tryz.func131 (by kernel_rfl) (by kernel_rfl) 400 [.call [] [] 1000 (.int .u8 2) [], .no, .lit 11, .call [] [] 1000 (.tuple ⟨[Un.enc ((uIsc u m).1), .int .u8 ((uIsc u m).2)]⟩) []] (J (aKind_ok 30) (J (Eq.refl false) (J (Eq.refl (11 : Int)) (J (by decide : 11 < 12) (J (uIsc_ok u m) trivial))))) (by kernel_rfl)

theorem uChange_30_w1 (u : Un) (m : Int) (w_u : Un.ok u) (w_m : rng 256 m) : Un.ok (uChange_30 u m).1 := by
  unfold uChange_30
  exact (uIsc_w1 u m w_u w_m)

theorem uChange_30_w2 (u : Un) (m : Int) (w_u : Un.ok u) (w_m : rng 256 m) : rng 256 (uChange_30 u m).2 := by
  unfold uChange_30
  exact (uIsc_w2 u m w_u w_m)

/-- (kotatsu/alu.Unit).Takes -/
def uTakes_52 (u : Un) : Bool :=
  ((((bAnd .u8 u.P 128) : Int) != 0) == false)
theorem uTakes_52_ok (u : Un) : FnSpec Tryz.prog 33 1000 [Un.enc u, .int .u8 52] [] (.bool (uTakes_52 u)) [] := by
  unfold uTakes_52
  exact fn_of_x hG hM Tryz.func33 (by kernel_rfl) (by kernel_rfl) 400 [.call [] [] 1000 (.int .u8 5) [], .no, .lit 0] (J (aKind_ok 52) (J (Eq.refl false) (J (by decide : ((2 : Int) ≠ 0)) (J (Eq.refl (0 : Int)) (J (by decide : 0 < 4) (J (by decide : ((2 : Int) ≠ 0)) trivial)))))) (by kernel_rfl)

/-- (kotatsu/alu.Unit).Takes -/
def uTakes_53 (u : Un) : Bool :=
  ((((bAnd .u8 u.P 128) : Int) != 0) == true)
theorem uTakes_53_ok (u : Un) : FnSpec Tryz.prog 33 1000 [Un.enc u, .int .u8 53] [] (.bool (uTakes_53 u)) [] := by
  unfold uTakes_53
  exact fn_of_x hG hM Tryz.func33 (by kernel_rfl) (by kernel_rfl) 400 [.call [] [] 1000 (.int .u8 5) [], .no, .lit 0] (J (aKind_ok 53) (J (Eq.refl false) (J (by decide : ((2 : Int) ≠ 0)) (J (Eq.refl (0 : Int)) (J (by decide : 0 < 4) (J (by decide : ((2 : Int) ≠ 0)) trivial)))))) (by kernel_rfl)

/-- (kotatsu/alu.Unit).Takes -/
def uTakes_54 (u : Un) : Bool :=
  ((((bAnd .u8 u.P 64) : Int) != 0) == false)
theorem uTakes_54_ok (u : Un) : FnSpec Tryz.prog 33 1000 [Un.enc u, .int .u8 54] [] (.bool (uTakes_54 u)) [] := by
  unfold uTakes_54
  exact fn_of_x hG hM Tryz.func33 (by kernel_rfl) (by kernel_rfl) 400 [.call [] [] 1000 (.int .u8 5) [], .no, .lit 1] (J (aKind_ok 54) (J (Eq.refl false) (J (by decide : ((2 : Int) ≠ 0)) (J (Eq.refl (1 : Int)) (J (by decide : 1 < 4) (J (by decide : ((2 : Int) ≠ 0)) trivial)))))) (by kernel_rfl)

/-- (kotatsu/alu.Unit).Takes -/
def uTakes_55 (u : Un) : Bool :=
  ((((bAnd .u8 u.P 64) : Int) != 0) == true)
theorem uTakes_55_ok (u : Un) : FnSpec Tryz.prog 33 1000 [Un.enc u, .int .u8 55] [] (.bool (uTakes_55 u)) [] := by
  unfold uTakes_55
  exact fn_of_x hG hM Tryz.func33 (by kernel_rfl) (by kernel_rfl) 400 [.call [] [] 1000 (.int .u8 5) [], .no, .lit 1] (J (aKind_ok 55) (J (Eq.refl false) (J (by decide : ((2 : Int) ≠ 0)) (J (Eq.refl (1 : Int)) (J (by decide : 1 < 4) (J (by decide : ((2 : Int) ≠ 0)) trivial)))))) (by kernel_rfl)

/-- (kotatsu/alu.Unit).Takes -/
def uTakes_56 (u : Un) : Bool :=
  ((((bAnd .u8 u.P 1) : Int) != 0) == false)
theorem uTakes_56_ok (u : Un) : FnSpec Tryz.prog 33 1000 [Un.enc u, .int .u8 56] [] (.bool (uTakes_56 u)) [] := by
  unfold uTakes_56
  exact fn_of_x hG hM Tryz.func33 (by kernel_rfl) (by kernel_rfl) 400 [.call [] [] 1000 (.int .u8 5) [], .no, .lit 2] (J (aKind_ok 56) (J (Eq.refl false) (J (by decide : ((2 : Int) ≠ 0)) (J (Eq.refl (2 : Int)) (J (by decide : 2 < 4) (J (by decide : ((2 : Int) ≠ 0)) trivial)))))) (by kernel_rfl)

/-- (kotatsu/alu.Unit).Takes -/
def uTakes_57 (u : Un) : Bool :=
  ((((bAnd .u8 u.P 1) : Int) != 0) == true)
theorem uTakes_57_ok (u : Un) : FnSpec Tryz.prog 33 1000 [Un.enc u, .int .u8 57] [] (.bool (uTakes_57 u)) [] := by
  unfold uTakes_57
  exact fn_of_x hG hM Tryz.func33 (by kernel_rfl) (by kernel_rfl) 400 [.call [] [] 1000 (.int .u8 5) [], .no, .lit 2] (J (aKind_ok 57) (J (Eq.refl false) (J (by decide : ((2 : Int) ≠ 0)) (J (Eq.refl (2 : Int)) (J (by decide : 2 < 4) (J (by decide : ((2 : Int) ≠ 0)) trivial)))))) (by kernel_rfl)

/-- (kotatsu/alu.Unit).Takes -/
def uTakes_58 (u : Un) : Bool :=
  ((((bAnd .u8 u.P 2) : Int) != 0) == false)
theorem uTakes_58_ok (u : Un) : FnSpec Tryz.prog 33 1000 [Un.enc u, .int .u8 58] [] (.bool (uTakes_58 u)) [] := by
  unfold uTakes_58
  exact fn_of_x hG hM Tryz.func33 (by kernel_rfl) (by kernel_rfl) 400 [.call [] [] 1000 (.int .u8 5) [], .no, .lit 3] (J (aKind_ok 58) (J (Eq.refl false) (J (by decide : ((2 : Int) ≠ 0)) (J (Eq.refl (3 : Int)) (J (by decide : 3 < 4) (J (by decide : ((2 : Int) ≠ 0)) trivial)))))) (by kernel_rfl)

/-- (kotatsu/alu.Unit).Takes -/
def uTakes_59 (u : Un) : Bool :=
  ((((bAnd .u8 u.P 2) : Int) != 0) == true)
theorem uTakes_59_ok (u : Un) : FnSpec Tryz.prog 33 1000 [Un.enc u, .int .u8 59] [] (.bool (uTakes_59 u)) [] := by
  unfold uTakes_59
  exact fn_of_x hG hM Tryz.func33 (by kernel_rfl) (by kernel_rfl) 400 [.call [] [] 1000 (.int .u8 5) [], .no, .lit 3] (J (aKind_ok 59) (J (Eq.refl false) (J (by decide : ((2 : Int) ≠ 0)) (J (Eq.refl (3 : Int)) (J (by decide : 3 < 4) (J (by decide : ((2 : Int) ≠ 0)) trivial)))))) (by kernel_rfl)

/-- (kotatsu/alu.Unit).Read -/
def uReadNo (u : Un) (op : Int) (m : Int) : Un :=
  u
theorem uReadNo_ok (u : Un) (op : Int) (m : Int) (hk : (((aKind op) : Int) != 1) = true) : FnSpec Tryz.prog 132 1000 [Un.enc u, .int .u8 op, .int .u8 m] [] (Un.enc (uReadNo u op m)) [] := by
  unfold uReadNo
  exact fn_of_x hG hM Tryz.func132 (by kernel_rfl) (by kernel_rfl) 400 [.call [] [] 1000 (.int .u8 (aKind op)) [], .yes] (J (aKind_ok op) (J hk trivial)) (by kernel_rfl)

theorem uReadNo_w (u : Un) (op : Int) (m : Int) (w_u : Un.ok u) (w_op : rng 256 op) (w_m : rng 256 m) (hk : (((aKind op) : Int) != 1) = true) : Un.ok (uReadNo u op m) := by
  unfold uReadNo
  exact w_u

/-- (kotatsu/alu.Unit).Change -/
def uChangeNo (u : Un) (op : Int) (m : Int) : Un × Int :=
  (u, m)
theorem uChangeNo_ok (u : Un) (op : Int) (m : Int) (hk : (((aKind op) : Int) != 2) = true) : FnSpec Tryz.prog 131 1000 [Un.enc u, .int .u8 op, .int .u8 m] [] (.tuple ⟨[Un.enc ((uChangeNo u op m).1), .int .u8 ((uChangeNo u op m).2)]⟩) [] := by
  unfold uChangeNo
  exact fn_of_x hG hM Tryz.func131 (by kernel_rfl) (by kernel_rfl) 400 [.call [] [] 1000 (.int .u8 (aKind op)) [], .yes] (J (aKind_ok op) (J hk trivial)) (by kernel_rfl)

theorem uChangeNo_w1 (u : Un) (op : Int) (m : Int) (w_u : Un.ok u) (w_op : rng 256 op) (w_m : rng 256 m) (hk : (((aKind op) : Int) != 2) = true) : Un.ok (uChangeNo u op m).1 := by
  unfold uChangeNo
  exact w_u

theorem uChangeNo_w2 (u : Un) (op : Int) (m : Int) (w_u : Un.ok u) (w_op : rng 256 op) (w_m : rng 256 m) (hk : (((aKind op) : Int) != 2) = true) : rng 256 (uChangeNo u op m).2 := by
  unfold uChangeNo
  exact w_m

/-- (kotatsu/alu.Unit).Takes -/
def uTakesNo (u : Un) (op : Int) : Bool :=
  false
theorem uTakesNo_ok (u : Un) (op : Int) (hk : (((aKind op) : Int) != 5) = true) : FnSpec Tryz.prog 33 1000 [Un.enc u, .int .u8 op] [] (.bool (uTakesNo u op)) [] := by
  unfold uTakesNo
  exact fn_of_x hG hM Tryz.func33 (by kernel_rfl) (by kernel_rfl) 400 [.call [] [] 1000 (.int .u8 (aKind op)) [], .yes] (J (aKind_ok op) (J hk trivial)) (by kernel_rfl)

/-- (kotatsu/alu.Unit).Store -/
def uStore (u : Un) (op : Int) : Int :=
  if ((op : Int) == 31) = true then
    u.A
  else
    if ((op : Int) == 32) = true then
      u.X
    else
      if ((op : Int) == 33) = true then
        u.Y
      else
        if ((op : Int) == 34) = true then
          (bAnd .u8 u.A u.X)
        else
          0
theorem uStore_ok (u : Un) (op : Int) : FnSpec Tryz.prog 19 1000 [Un.enc u, .int .u8 op] [] (.int .u8 (uStore u op)) [] := by
  unfold uStore
  rcases bt ((op : Int) == 31) with c1 | c1
  · rw [if_pos c1]
    exact fn_of_x hG hM Tryz.func19 (by kernel_rfl) (by kernel_rfl) 400 [.yes] (J c1 trivial) (by kernel_rfl)
  · rw [if_neg (nt c1)]
    rcases bt ((op : Int) == 32) with c2 | c2
    · rw [if_pos c2]
      exact fn_of_x hG hM Tryz.func19 (by kernel_rfl) (by kernel_rfl) 400 [.no, .yes] (J c1 (J c2 trivial)) (by kernel_rfl)
    · rw [if_neg (nt c2)]
      rcases bt ((op : Int) == 33) with c3 | c3
      · rw [if_pos c3]
        exact fn_of_x hG hM Tryz.func19 (by kernel_rfl) (by kernel_rfl) 400 [.no, .no, .yes] (J c1 (J c2 (J c3 trivial))) (by kernel_rfl)
      · rw [if_neg (nt c3)]
        rcases bt ((op : Int) == 34) with c4 | c4
        · rw [if_pos c4]
          exact fn_of_x hG hM Tryz.func19 (by kernel_rfl) (by kernel_rfl) 400 [.no, .no, .no, .yes] (J c1 (J c2 (J c3 (J c4 trivial)))) (by kernel_rfl)
        · rw [if_neg (nt c4)]
          exact fn_of_x hG hM Tryz.func19 (by kernel_rfl) (by kernel_rfl) 400 [.no, .no, .no, .no] (J c1 (J c2 (J c3 (J c4 trivial)))) (by kernel_rfl)

theorem uStore_w (u : Un) (op : Int) (w_u : Un.ok u) (w_op : rng 256 op) : rng 256 (uStore u op) := by
  unfold uStore
  rcases bt ((op : Int) == 31) with c1 | c1
  · rw [if_pos c1]
    exact w_u.A
  · rw [if_neg (nt c1)]
    rcases bt ((op : Int) == 32) with c2 | c2
    · rw [if_pos c2]
      exact w_u.X
    · rw [if_neg (nt c2)]
      rcases bt ((op : Int) == 33) with c3 | c3
      · rw [if_pos c3]
        exact w_u.Y
      · rw [if_neg (nt c3)]
        rcases bt ((op : Int) == 34) with c4 | c4
        · rw [if_pos c4]
          exact (rng_bAnd_u8 u.A u.X)
        · rw [if_neg (nt c4)]
          exact (by decide : rng 256 0)

theorem kind_of (op : Int) : aKind op = if op ≤ 18 then 1 else if op ≤ 30 then 2 else if op ≤ 34 then 3 else if op ≤ 51 then 4 else if op ≤ 59 then 5 else if op ≤ 69 then 6 else 0 := by
  unfold aKind; simp only [decide_eq_true_eq]
def uReadT : List (Un → Int → Un) := [uRead_0, uRead_1, uRead_2, uRead_3, uRead_4, uRead_5, uRead_6, uRead_7, uRead_8, uRead_9, uRead_10, uRead_11, uRead_12, uRead_13, uRead_14, uRead_15, uRead_16, uRead_17, uRead_18]
/-- At any operation. -/
def uRead (u : Un) (op : Int) (m : Int) : Un := if 0 ≤ op ∧ op ≤ 18 then (uReadT.getD (op - 0).toNat fun u m => u) u m else u
theorem uRead_ok (u : Un) (op : Int) (m : Int) (ho : 0 ≤ op ∧ op < 256) : FnSpec Tryz.prog 132 1000 [Un.enc u, .int .u8 op, .int .u8 m] [] (Un.enc (uRead u op m)) [] := by
  rcases (show op = 0 ∨ op = 1 ∨ op = 2 ∨ op = 3 ∨ op = 4 ∨ op = 5 ∨ op = 6 ∨ op = 7 ∨ op = 8 ∨ op = 9 ∨ op = 10 ∨ op = 11 ∨ op = 12 ∨ op = 13 ∨ op = 14 ∨ op = 15 ∨ op = 16 ∨ op = 17 ∨ op = 18 ∨ (op < 0 ∨ 18 < op) by omega) with h | h | h | h | h | h | h | h | h | h | h | h | h | h | h | h | h | h | h | h
  · subst h; exact uRead_0_ok u m
  · subst h; exact uRead_1_ok u m
  · subst h; exact uRead_2_ok u m
  · subst h; exact uRead_3_ok u m
  · subst h; exact uRead_4_ok u m
  · subst h; exact uRead_5_ok u m
  · subst h; exact uRead_6_ok u m
  · subst h; exact uRead_7_ok u m
  · subst h; exact uRead_8_ok u m
  · subst h; exact uRead_9_ok u m
  · subst h; exact uRead_10_ok u m
  · subst h; exact uRead_11_ok u m
  · subst h; exact uRead_12_ok u m
  · subst h; exact uRead_13_ok u m
  · subst h; exact uRead_14_ok u m
  · subst h; exact uRead_15_ok u m
  · subst h; exact uRead_16_ok u m
  · subst h; exact uRead_17_ok u m
  · subst h; exact uRead_18_ok u m
  · have e : uRead u op m = u := by unfold uRead; rw [if_neg (by omega)]
    rw [e]; exact uReadNo_ok u op m (by rw [kind_of]; split <;> (try split) <;> (try split) <;> (try split) <;> (try split) <;> (try split) <;> first | rfl | omega)
def uChangeT : List (Un → Int → Un × Int) := [uChange_19, uChange_20, uChange_21, uChange_22, uChange_23, uChange_24, uChange_25, uChange_26, uChange_27, uChange_28, uChange_29, uChange_30]
/-- At any operation. -/
def uChange (u : Un) (op : Int) (m : Int) : Un × Int := if 19 ≤ op ∧ op ≤ 30 then (uChangeT.getD (op - 19).toNat fun u m => (u, m)) u m else (u, m)
theorem uChange_ok (u : Un) (op : Int) (m : Int) (ho : 0 ≤ op ∧ op < 256) : FnSpec Tryz.prog 131 1000 [Un.enc u, .int .u8 op, .int .u8 m] [] (.tuple ⟨[Un.enc ((uChange u op m).1), .int .u8 ((uChange u op m).2)]⟩) [] := by
  rcases (show op = 19 ∨ op = 20 ∨ op = 21 ∨ op = 22 ∨ op = 23 ∨ op = 24 ∨ op = 25 ∨ op = 26 ∨ op = 27 ∨ op = 28 ∨ op = 29 ∨ op = 30 ∨ (op < 19 ∨ 30 < op) by omega) with h | h | h | h | h | h | h | h | h | h | h | h | h
  · subst h; exact uChange_19_ok u m
  · subst h; exact uChange_20_ok u m
  · subst h; exact uChange_21_ok u m
  · subst h; exact uChange_22_ok u m
  · subst h; exact uChange_23_ok u m
  · subst h; exact uChange_24_ok u m
  · subst h; exact uChange_25_ok u m
  · subst h; exact uChange_26_ok u m
  · subst h; exact uChange_27_ok u m
  · subst h; exact uChange_28_ok u m
  · subst h; exact uChange_29_ok u m
  · subst h; exact uChange_30_ok u m
  · have e : uChange u op m = (u, m) := by unfold uChange; rw [if_neg (by omega)]
    rw [e]; exact uChangeNo_ok u op m (by rw [kind_of]; split <;> (try split) <;> (try split) <;> (try split) <;> (try split) <;> (try split) <;> first | rfl | omega)
def uTakesT : List (Un → Bool) := [uTakes_52, uTakes_53, uTakes_54, uTakes_55, uTakes_56, uTakes_57, uTakes_58, uTakes_59]
/-- At any operation. -/
def uTakes (u : Un) (op : Int) : Bool := if 52 ≤ op ∧ op ≤ 59 then (uTakesT.getD (op - 52).toNat fun u => false) u else false
theorem uTakes_ok (u : Un) (op : Int) (ho : 0 ≤ op ∧ op < 256) : FnSpec Tryz.prog 33 1000 [Un.enc u, .int .u8 op] [] (.bool (uTakes u op)) [] := by
  rcases (show op = 52 ∨ op = 53 ∨ op = 54 ∨ op = 55 ∨ op = 56 ∨ op = 57 ∨ op = 58 ∨ op = 59 ∨ (op < 52 ∨ 59 < op) by omega) with h | h | h | h | h | h | h | h | h
  · subst h; exact uTakes_52_ok u
  · subst h; exact uTakes_53_ok u
  · subst h; exact uTakes_54_ok u
  · subst h; exact uTakes_55_ok u
  · subst h; exact uTakes_56_ok u
  · subst h; exact uTakes_57_ok u
  · subst h; exact uTakes_58_ok u
  · subst h; exact uTakes_59_ok u
  · have e : uTakes u op = false := by unfold uTakes; rw [if_neg (by omega)]
    rw [e]; exact uTakesNo_ok u op (by rw [kind_of]; split <;> (try split) <;> (try split) <;> (try split) <;> (try split) <;> (try split) <;> first | rfl | omega)
theorem uRead_w (u : Un) (op : Int) (m : Int) (w_u : Un.ok u) (w_m : rng 256 m) : Un.ok (uRead u op m) := by
  by_cases h : 0 ≤ op ∧ op ≤ 18
  · rcases (show op = 0 ∨ op = 1 ∨ op = 2 ∨ op = 3 ∨ op = 4 ∨ op = 5 ∨ op = 6 ∨ op = 7 ∨ op = 8 ∨ op = 9 ∨ op = 10 ∨ op = 11 ∨ op = 12 ∨ op = 13 ∨ op = 14 ∨ op = 15 ∨ op = 16 ∨ op = 17 ∨ op = 18 by omega) with h | h | h | h | h | h | h | h | h | h | h | h | h | h | h | h | h | h | h
    · subst h; exact uRead_0_w u m w_u w_m
    · subst h; exact uRead_1_w u m w_u w_m
    · subst h; exact uRead_2_w u m w_u w_m
    · subst h; exact uRead_3_w u m w_u w_m
    · subst h; exact uRead_4_w u m w_u w_m
    · subst h; exact uRead_5_w u m w_u w_m
    · subst h; exact uRead_6_w u m w_u w_m
    · subst h; exact uRead_7_w u m w_u w_m
    · subst h; exact uRead_8_w u m w_u w_m
    · subst h; exact uRead_9_w u m w_u w_m
    · subst h; exact uRead_10_w u m w_u w_m
    · subst h; exact uRead_11_w u m w_u w_m
    · subst h; exact uRead_12_w u m w_u w_m
    · subst h; exact uRead_13_w u m w_u w_m
    · subst h; exact uRead_14_w u m w_u w_m
    · subst h; exact uRead_15_w u m w_u w_m
    · subst h; exact uRead_16_w u m w_u w_m
    · subst h; exact uRead_17_w u m w_u w_m
    · subst h; exact uRead_18_w u m w_u w_m
  · have e : uRead u op m = u := by unfold uRead; rw [if_neg h]
    rw [e]; exact w_u
theorem uChange_w1 (u : Un) (op : Int) (m : Int) (w_u : Un.ok u) (w_m : rng 256 m) : Un.ok (uChange u op m).1 := by
  by_cases h : 19 ≤ op ∧ op ≤ 30
  · rcases (show op = 19 ∨ op = 20 ∨ op = 21 ∨ op = 22 ∨ op = 23 ∨ op = 24 ∨ op = 25 ∨ op = 26 ∨ op = 27 ∨ op = 28 ∨ op = 29 ∨ op = 30 by omega) with h | h | h | h | h | h | h | h | h | h | h | h
    · subst h; exact uChange_19_w1 u m w_u w_m
    · subst h; exact uChange_20_w1 u m w_u w_m
    · subst h; exact uChange_21_w1 u m w_u w_m
    · subst h; exact uChange_22_w1 u m w_u w_m
    · subst h; exact uChange_23_w1 u m w_u w_m
    · subst h; exact uChange_24_w1 u m w_u w_m
    · subst h; exact uChange_25_w1 u m w_u w_m
    · subst h; exact uChange_26_w1 u m w_u w_m
    · subst h; exact uChange_27_w1 u m w_u w_m
    · subst h; exact uChange_28_w1 u m w_u w_m
    · subst h; exact uChange_29_w1 u m w_u w_m
    · subst h; exact uChange_30_w1 u m w_u w_m
  · have e : uChange u op m = (u, m) := by unfold uChange; rw [if_neg h]
    rw [e]; exact w_u
theorem uChange_w2 (u : Un) (op : Int) (m : Int) (w_u : Un.ok u) (w_m : rng 256 m) : rng 256 (uChange u op m).2 := by
  by_cases h : 19 ≤ op ∧ op ≤ 30
  · rcases (show op = 19 ∨ op = 20 ∨ op = 21 ∨ op = 22 ∨ op = 23 ∨ op = 24 ∨ op = 25 ∨ op = 26 ∨ op = 27 ∨ op = 28 ∨ op = 29 ∨ op = 30 by omega) with h | h | h | h | h | h | h | h | h | h | h | h
    · subst h; exact uChange_19_w2 u m w_u w_m
    · subst h; exact uChange_20_w2 u m w_u w_m
    · subst h; exact uChange_21_w2 u m w_u w_m
    · subst h; exact uChange_22_w2 u m w_u w_m
    · subst h; exact uChange_23_w2 u m w_u w_m
    · subst h; exact uChange_24_w2 u m w_u w_m
    · subst h; exact uChange_25_w2 u m w_u w_m
    · subst h; exact uChange_26_w2 u m w_u w_m
    · subst h; exact uChange_27_w2 u m w_u w_m
    · subst h; exact uChange_28_w2 u m w_u w_m
    · subst h; exact uChange_29_w2 u m w_u w_m
    · subst h; exact uChange_30_w2 u m w_u w_m
  · have e : uChange u op m = (u, m) := by unfold uChange; rw [if_neg h]
    rw [e]; exact w_m
/-- a piece of (kotatsu/alu.Unit).Self -/
def uSelf_J3nn (op : Int) : Bool :=
  if ((op : Int) == 21) = true then
    ((op : Int) == 21)
  else
    ((op : Int) == 22)
def uSelf_J3nn_T (op : Int) : Tm := [(1, .int .u8 op), (2, .pointer (some ⟨1000, 0, none⟩)), (4, .pointer (some ⟨1001, 0, none⟩)), (7, .int .u8 op), (8, .bool ((op : Int) == 21))]
def uSelf_J3nn_H (op : Int) : Heap := []
def uSelf_J3nn_T1 (op : Int) (r_ : Bool) : Tm := [(1, .int .u8 op), (2, .pointer (some ⟨1000, 0, none⟩)), (4, .pointer (some ⟨1001, 0, none⟩)), (7, .int .u8 op), (8, .bool r_)]
def uSelf_J3nn_H1 (op : Int) (r_ : Bool) : Heap := []
theorem uSelf_J3nn_p1 (op : Int) (f1 : ((op : Int) == 21) = true) : Runs Tryz.prog 113 (bodyOf Tryz.f130 [1, 0, 1, 0, 0, 1, 1, 1, 1, 1]) (uSelf_J3nn_T op) (uSelf_J3nn_H op) 1002 .normal (uSelf_J3nn_T1 op ((op : Int) == 21)) (uSelf_J3nn_H1 op ((op : Int) == 21)) 1002 := by
  exact runs_of_x hG hM 400 [.yes] (J f1 trivial) (by kernel_rfl)
theorem uSelf_J3nn_p2 (op : Int) (f1 : ((op : Int) == 21) = false) : Runs Tryz.prog 113 (bodyOf Tryz.f130 [1, 0, 1, 0, 0, 1, 1, 1, 1, 1]) (uSelf_J3nn_T op) (uSelf_J3nn_H op) 1002 .normal (uSelf_J3nn_T1 op ((op : Int) == 22)) (uSelf_J3nn_H1 op ((op : Int) == 22)) 1002 := by
  exact runs_of_x hG hM 400 [.no] (J f1 trivial) (by kernel_rfl)
theorem uSelf_J3nn_runs (op : Int) : Runs Tryz.prog 113 (bodyOf Tryz.f130 [1, 0, 1, 0, 0, 1, 1, 1, 1, 1]) (uSelf_J3nn_T op) (uSelf_J3nn_H op) 1002 .normal (uSelf_J3nn_T1 op (uSelf_J3nn op)) (uSelf_J3nn_H1 op (uSelf_J3nn op)) 1002 := by
  rcases bt ((op : Int) == 21) with f1 | f1
  ·
    rw [show uSelf_J3nn op = ((op : Int) == 21) from by unfold uSelf_J3nn; rw [if_pos f1]]
    exact uSelf_J3nn_p1 op f1
  ·
    rw [show uSelf_J3nn op = ((op : Int) == 22) from by unfold uSelf_J3nn; rw [if_neg (nt f1)]]
    exact uSelf_J3nn_p2 op f1

/-- a piece of (kotatsu/alu.Unit).Self -/
def uSelf_J2n (op : Int) : Bool :=
  if ((op : Int) == 20) = true then
    ((op : Int) == 20)
  else
    (uSelf_J3nn op)
def uSelf_J2n_T (op : Int) : Tm := [(1, .int .u8 op), (2, .pointer (some ⟨1000, 0, none⟩)), (4, .pointer (some ⟨1001, 0, none⟩)), (7, .int .u8 op), (8, .bool ((op : Int) == 20))]
def uSelf_J2n_H (op : Int) : Heap := []
def uSelf_J2n_T1 (op : Int) (r_ : Bool) : Tm := [(1, .int .u8 op), (2, .pointer (some ⟨1000, 0, none⟩)), (4, .pointer (some ⟨1001, 0, none⟩)), (7, .int .u8 op), (8, .bool r_)]
def uSelf_J2n_H1 (op : Int) (r_ : Bool) : Heap := []
theorem uSelf_J2n_p1 (op : Int) (e1 : ((op : Int) == 20) = true) : Runs Tryz.prog 113 (bodyOf Tryz.f130 [1, 0, 1, 0, 0, 1, 1, 1]) (uSelf_J2n_T op) (uSelf_J2n_H op) 1002 .normal (uSelf_J2n_T1 op ((op : Int) == 20)) (uSelf_J2n_H1 op ((op : Int) == 20)) 1002 := by
  exact runs_of_x hG hM 400 [.yes] (J e1 trivial) (by kernel_rfl)
theorem uSelf_J2n_p2 (op : Int) (e1 : ((op : Int) == 20) = false) : Runs Tryz.prog 113 (bodyOf Tryz.f130 [1, 0, 1, 0, 0, 1, 1, 1]) (uSelf_J2n_T op) (uSelf_J2n_H op) 1002 .normal (uSelf_J2n_T1 op (uSelf_J3nn op)) (uSelf_J2n_H1 op (uSelf_J3nn op)) 1002 := by
  exact runs_of_x hG hM 400 [.no, .segk 2 0 [1, 2, 4, 7, 8] [] .normal (uSelf_J3nn_T1 op (uSelf_J3nn op)) (uSelf_J3nn_H1 op (uSelf_J3nn op)) 1002] (J e1 (J (uSelf_J3nn_runs op) trivial)) (by kernel_rfl)
theorem uSelf_J2n_runs (op : Int) : Runs Tryz.prog 113 (bodyOf Tryz.f130 [1, 0, 1, 0, 0, 1, 1, 1]) (uSelf_J2n_T op) (uSelf_J2n_H op) 1002 .normal (uSelf_J2n_T1 op (uSelf_J2n op)) (uSelf_J2n_H1 op (uSelf_J2n op)) 1002 := by
  rcases bt ((op : Int) == 20) with e1 | e1
  ·
    rw [show uSelf_J2n op = ((op : Int) == 20) from by unfold uSelf_J2n; rw [if_pos e1]]
    exact uSelf_J2n_p1 op e1
  ·
    rw [show uSelf_J2n op = (uSelf_J3nn op) from by unfold uSelf_J2n; rw [if_neg (nt e1)]]
    exact uSelf_J2n_p2 op e1

/-- a piece of (kotatsu/alu.Unit).Self -/
def uSelf_J1 (op : Int) : Bool :=
  if ((op : Int) == 19) = true then
    ((op : Int) == 19)
  else
    (uSelf_J2n op)
def uSelf_J1_T (op : Int) : Tm := [(1, .int .u8 op), (2, .pointer (some ⟨1000, 0, none⟩)), (4, .pointer (some ⟨1001, 0, none⟩)), (7, .int .u8 op), (8, .bool ((op : Int) == 19))]
def uSelf_J1_H (op : Int) : Heap := []
def uSelf_J1_T1 (op : Int) (r_ : Bool) : Tm := [(1, .int .u8 op), (2, .pointer (some ⟨1000, 0, none⟩)), (4, .pointer (some ⟨1001, 0, none⟩)), (7, .int .u8 op), (8, .bool r_)]
def uSelf_J1_H1 (op : Int) (r_ : Bool) : Heap := []
theorem uSelf_J1_p1 (op : Int) (d1 : ((op : Int) == 19) = true) : Runs Tryz.prog 113 (bodyOf Tryz.f130 [1, 0, 1, 0, 0, 1]) (uSelf_J1_T op) (uSelf_J1_H op) 1002 .normal (uSelf_J1_T1 op ((op : Int) == 19)) (uSelf_J1_H1 op ((op : Int) == 19)) 1002 := by
  exact runs_of_x hG hM 400 [.yes] (J d1 trivial) (by kernel_rfl)
theorem uSelf_J1_p2 (op : Int) (d1 : ((op : Int) == 19) = false) : Runs Tryz.prog 113 (bodyOf Tryz.f130 [1, 0, 1, 0, 0, 1]) (uSelf_J1_T op) (uSelf_J1_H op) 1002 .normal (uSelf_J1_T1 op (uSelf_J2n op)) (uSelf_J1_H1 op (uSelf_J2n op)) 1002 := by
  exact runs_of_x hG hM 400 [.no, .segk 2 0 [1, 2, 4, 7, 8] [] .normal (uSelf_J2n_T1 op (uSelf_J2n op)) (uSelf_J2n_H1 op (uSelf_J2n op)) 1002] (J d1 (J (uSelf_J2n_runs op) trivial)) (by kernel_rfl)
theorem uSelf_J1_runs (op : Int) : Runs Tryz.prog 113 (bodyOf Tryz.f130 [1, 0, 1, 0, 0, 1]) (uSelf_J1_T op) (uSelf_J1_H op) 1002 .normal (uSelf_J1_T1 op (uSelf_J1 op)) (uSelf_J1_H1 op (uSelf_J1 op)) 1002 := by
  rcases bt ((op : Int) == 19) with d1 | d1
  ·
    rw [show uSelf_J1 op = ((op : Int) == 19) from by unfold uSelf_J1; rw [if_pos d1]]
    exact uSelf_J1_p1 op d1
  ·
    rw [show uSelf_J1 op = (uSelf_J2n op) from by unfold uSelf_J1; rw [if_neg (nt d1)]]
    exact uSelf_J1_p2 op d1

/-- a piece of (kotatsu/alu.Unit).Self -/
def uSelf_J4nnnnnnnnnnn (op : Int) : Bool :=
  if ((op : Int) == 45) = true then
    ((op : Int) == 45)
  else
    ((op : Int) == 46)
def uSelf_J4nnnnnnnnnnn_T (op : Int) : Tm := [(1, .int .u8 op), (2, .pointer (some ⟨1000, 0, none⟩)), (4, .pointer (some ⟨1001, 0, none⟩)), (7, .int .u8 op), (87, .bool ((op : Int) == 45))]
def uSelf_J4nnnnnnnnnnn_H (op : Int) : Heap := []
def uSelf_J4nnnnnnnnnnn_T1 (op : Int) (r_ : Bool) : Tm := [(1, .int .u8 op), (2, .pointer (some ⟨1000, 0, none⟩)), (4, .pointer (some ⟨1001, 0, none⟩)), (7, .int .u8 op), (87, .bool r_)]
def uSelf_J4nnnnnnnnnnn_H1 (op : Int) (r_ : Bool) : Heap := []
theorem uSelf_J4nnnnnnnnnnn_p1 (op : Int) (d1 : ((op : Int) == 45) = true) : Runs Tryz.prog 113 (bodyOf Tryz.f130 [1, 0, 1, 0, 1, 1, 1, 1, 1, 1, 1, 1, 1, 1, 1, 1, 1, 1, 1, 1, 1, 1, 1, 1, 1, 1, 0, 1]) (uSelf_J4nnnnnnnnnnn_T op) (uSelf_J4nnnnnnnnnnn_H op) 1002 .normal (uSelf_J4nnnnnnnnnnn_T1 op ((op : Int) == 45)) (uSelf_J4nnnnnnnnnnn_H1 op ((op : Int) == 45)) 1002 := by
  exact runs_of_x hG hM 400 [.yes] (J d1 trivial) (by kernel_rfl)
theorem uSelf_J4nnnnnnnnnnn_p2 (op : Int) (d1 : ((op : Int) == 45) = false) : Runs Tryz.prog 113 (bodyOf Tryz.f130 [1, 0, 1, 0, 1, 1, 1, 1, 1, 1, 1, 1, 1, 1, 1, 1, 1, 1, 1, 1, 1, 1, 1, 1, 1, 1, 0, 1]) (uSelf_J4nnnnnnnnnnn_T op) (uSelf_J4nnnnnnnnnnn_H op) 1002 .normal (uSelf_J4nnnnnnnnnnn_T1 op ((op : Int) == 46)) (uSelf_J4nnnnnnnnnnn_H1 op ((op : Int) == 46)) 1002 := by
  exact runs_of_x hG hM 400 [.no] (J d1 trivial) (by kernel_rfl)
theorem uSelf_J4nnnnnnnnnnn_runs (op : Int) : Runs Tryz.prog 113 (bodyOf Tryz.f130 [1, 0, 1, 0, 1, 1, 1, 1, 1, 1, 1, 1, 1, 1, 1, 1, 1, 1, 1, 1, 1, 1, 1, 1, 1, 1, 0, 1]) (uSelf_J4nnnnnnnnnnn_T op) (uSelf_J4nnnnnnnnnnn_H op) 1002 .normal (uSelf_J4nnnnnnnnnnn_T1 op (uSelf_J4nnnnnnnnnnn op)) (uSelf_J4nnnnnnnnnnn_H1 op (uSelf_J4nnnnnnnnnnn op)) 1002 := by
  rcases bt ((op : Int) == 45) with d1 | d1
  ·
    rw [show uSelf_J4nnnnnnnnnnn op = ((op : Int) == 45) from by unfold uSelf_J4nnnnnnnnnnn; rw [if_pos d1]]
    exact uSelf_J4nnnnnnnnnnn_p1 op d1
  ·
    rw [show uSelf_J4nnnnnnnnnnn op = ((op : Int) == 46) from by unfold uSelf_J4nnnnnnnnnnn; rw [if_neg (nt d1)]]
    exact uSelf_J4nnnnnnnnnnn_p2 op d1

/-- a piece of (kotatsu/alu.Unit).Self -/
def uSelf_J5nnnnnnnnnnnn (op : Int) : Bool :=
  if ((op : Int) == 47) = true then
    ((op : Int) == 47)
  else
    ((op : Int) == 48)
def uSelf_J5nnnnnnnnnnnn_T (op : Int) : Tm := [(1, .int .u8 op), (2, .pointer (some ⟨1000, 0, none⟩)), (4, .pointer (some ⟨1001, 0, none⟩)), (7, .int .u8 op), (94, .bool ((op : Int) == 47))]
def uSelf_J5nnnnnnnnnnnn_H (op : Int) : Heap := []
def uSelf_J5nnnnnnnnnnnn_T1 (op : Int) (r_ : Bool) : Tm := [(1, .int .u8 op), (2, .pointer (some ⟨1000, 0, none⟩)), (4, .pointer (some ⟨1001, 0, none⟩)), (7, .int .u8 op), (94, .bool r_)]
def uSelf_J5nnnnnnnnnnnn_H1 (op : Int) (r_ : Bool) : Heap := []
theorem uSelf_J5nnnnnnnnnnnn_p1 (op : Int) (d1 : ((op : Int) == 47) = true) : Runs Tryz.prog 113 (bodyOf Tryz.f130 [1, 0, 1, 0, 1, 1, 1, 1, 1, 1, 1, 1, 1, 1, 1, 1, 1, 1, 1, 1, 1, 1, 1, 1, 1, 1, 1, 1, 0, 1]) (uSelf_J5nnnnnnnnnnnn_T op) (uSelf_J5nnnnnnnnnnnn_H op) 1002 .normal (uSelf_J5nnnnnnnnnnnn_T1 op ((op : Int) == 47)) (uSelf_J5nnnnnnnnnnnn_H1 op ((op : Int) == 47)) 1002 := by
  exact runs_of_x hG hM 400 [.yes] (J d1 trivial) (by kernel_rfl)
theorem uSelf_J5nnnnnnnnnnnn_p2 (op : Int) (d1 : ((op : Int) == 47) = false) : Runs Tryz.prog 113 (bodyOf Tryz.f130 [1, 0, 1, 0, 1, 1, 1, 1, 1, 1, 1, 1, 1, 1, 1, 1, 1, 1, 1, 1, 1, 1, 1, 1, 1, 1, 1, 1, 0, 1]) (uSelf_J5nnnnnnnnnnnn_T op) (uSelf_J5nnnnnnnnnnnn_H op) 1002 .normal (uSelf_J5nnnnnnnnnnnn_T1 op ((op : Int) == 48)) (uSelf_J5nnnnnnnnnnnn_H1 op ((op : Int) == 48)) 1002 := by
  exact runs_of_x hG hM 400 [.no] (J d1 trivial) (by kernel_rfl)
theorem uSelf_J5nnnnnnnnnnnn_runs (op : Int) : Runs Tryz.prog 113 (bodyOf Tryz.f130 [1, 0, 1, 0, 1, 1, 1, 1, 1, 1, 1, 1, 1, 1, 1, 1, 1, 1, 1, 1, 1, 1, 1, 1, 1, 1, 1, 1, 0, 1]) (uSelf_J5nnnnnnnnnnnn_T op) (uSelf_J5nnnnnnnnnnnn_H op) 1002 .normal (uSelf_J5nnnnnnnnnnnn_T1 op (uSelf_J5nnnnnnnnnnnn op)) (uSelf_J5nnnnnnnnnnnn_H1 op (uSelf_J5nnnnnnnnnnnn op)) 1002 := by
  rcases bt ((op : Int) == 47) with d1 | d1
  ·
    rw [show uSelf_J5nnnnnnnnnnnn op = ((op : Int) == 47) from by unfold uSelf_J5nnnnnnnnnnnn; rw [if_pos d1]]
    exact uSelf_J5nnnnnnnnnnnn_p1 op d1
  ·
    rw [show uSelf_J5nnnnnnnnnnnn op = ((op : Int) == 48) from by unfold uSelf_J5nnnnnnnnnnnn; rw [if_neg (nt d1)]]
    exact uSelf_J5nnnnnnnnnnnn_p2 op d1

/-- a piece of (kotatsu/alu.Unit).Self -/
def uSelf_J6nnnnnnnnnnnnnn (op : Int) : Bool :=
  if ((op : Int) == 50) = true then
    ((op : Int) == 50)
  else
    ((op : Int) == 51)
def uSelf_J6nnnnnnnnnnnnnn_T (op : Int) : Tm := [(1, .int .u8 op), (2, .pointer (some ⟨1000, 0, none⟩)), (4, .pointer (some ⟨1001, 0, none⟩)), (7, .int .u8 op), (105, .bool ((op : Int) == 50))]
def uSelf_J6nnnnnnnnnnnnnn_H (op : Int) : Heap := []
def uSelf_J6nnnnnnnnnnnnnn_T1 (op : Int) (r_ : Bool) : Tm := [(1, .int .u8 op), (2, .pointer (some ⟨1000, 0, none⟩)), (4, .pointer (some ⟨1001, 0, none⟩)), (105, .bool r_)]
def uSelf_J6nnnnnnnnnnnnnn_H1 (op : Int) (r_ : Bool) : Heap := []
theorem uSelf_J6nnnnnnnnnnnnnn_p1 (op : Int) (d1 : ((op : Int) == 50) = true) : Runs Tryz.prog 113 (bodyOf Tryz.f130 [1, 0, 1, 0, 1, 1, 1, 1, 1, 1, 1, 1, 1, 1, 1, 1, 1, 1, 1, 1, 1, 1, 1, 1, 1, 1, 1, 1, 1, 1, 1, 1, 0, 1]) (uSelf_J6nnnnnnnnnnnnnn_T op) (uSelf_J6nnnnnnnnnnnnnn_H op) 1002 .normal (uSelf_J6nnnnnnnnnnnnnn_T1 op ((op : Int) == 50)) (uSelf_J6nnnnnnnnnnnnnn_H1 op ((op : Int) == 50)) 1002 := by
  exact runs_of_x hG hM 400 [.yes] (J d1 trivial) (by kernel_rfl)
theorem uSelf_J6nnnnnnnnnnnnnn_p2 (op : Int) (d1 : ((op : Int) == 50) = false) : Runs Tryz.prog 113 (bodyOf Tryz.f130 [1, 0, 1, 0, 1, 1, 1, 1, 1, 1, 1, 1, 1, 1, 1, 1, 1, 1, 1, 1, 1, 1, 1, 1, 1, 1, 1, 1, 1, 1, 1, 1, 0, 1]) (uSelf_J6nnnnnnnnnnnnnn_T op) (uSelf_J6nnnnnnnnnnnnnn_H op) 1002 .normal (uSelf_J6nnnnnnnnnnnnnn_T1 op ((op : Int) == 51)) (uSelf_J6nnnnnnnnnnnnnn_H1 op ((op : Int) == 51)) 1002 := by
  exact runs_of_x hG hM 400 [.no] (J d1 trivial) (by kernel_rfl)
theorem uSelf_J6nnnnnnnnnnnnnn_runs (op : Int) : Runs Tryz.prog 113 (bodyOf Tryz.f130 [1, 0, 1, 0, 1, 1, 1, 1, 1, 1, 1, 1, 1, 1, 1, 1, 1, 1, 1, 1, 1, 1, 1, 1, 1, 1, 1, 1, 1, 1, 1, 1, 0, 1]) (uSelf_J6nnnnnnnnnnnnnn_T op) (uSelf_J6nnnnnnnnnnnnnn_H op) 1002 .normal (uSelf_J6nnnnnnnnnnnnnn_T1 op (uSelf_J6nnnnnnnnnnnnnn op)) (uSelf_J6nnnnnnnnnnnnnn_H1 op (uSelf_J6nnnnnnnnnnnnnn op)) 1002 := by
  rcases bt ((op : Int) == 50) with d1 | d1
  ·
    rw [show uSelf_J6nnnnnnnnnnnnnn op = ((op : Int) == 50) from by unfold uSelf_J6nnnnnnnnnnnnnn; rw [if_pos d1]]
    exact uSelf_J6nnnnnnnnnnnnnn_p1 op d1
  ·
    rw [show uSelf_J6nnnnnnnnnnnnnn op = ((op : Int) == 51) from by unfold uSelf_J6nnnnnnnnnnnnnn; rw [if_neg (nt d1)]]
    exact uSelf_J6nnnnnnnnnnnnnn_p2 op d1

/-- (kotatsu/alu.Unit).Self -/
def uSelf (u : Un) (op : Int) : Un :=
  if (uSelf_J1 op) = true then
    ({ ((uChange u op u.A).1) with A := (uChange u op u.A).2 } : Un)
  else
    if ((op : Int) == 35) = true then
      (uLdx u u.A)
    else
      if ((op : Int) == 36) = true then
        (uLdy u u.A)
      else
        if ((op : Int) == 37) = true then
          (uLoad u u.X)
        else
          if ((op : Int) == 38) = true then
            (uLoad u u.Y)
          else
            if ((op : Int) == 39) = true then
              (uLdx u u.S)
            else
              if ((op : Int) == 40) = true then
                ({ u with S := u.X } : Un)
              else
                if ((op : Int) == 41) = true then
                  (uLdx u (IntKind.u8.wrap (u.X + 1)))
                else
                  if ((op : Int) == 42) = true then
                    (uLdy u (IntKind.u8.wrap (u.Y + 1)))
                  else
                    if ((op : Int) == 43) = true then
                      (uLdx u (IntKind.u8.wrap (u.X - 1)))
                    else
                      if ((op : Int) == 44) = true then
                        (uLdy u (IntKind.u8.wrap (u.Y - 1)))
                      else
                        if (uSelf_J4nnnnnnnnnnn op) = true then
                          (uFlag u 1 ((op : Int) == 46))
                        else
                          if (uSelf_J5nnnnnnnnnnnn op) = true then
                            (uFlag u 4 ((op : Int) == 48))
                          else
                            if ((op : Int) == 49) = true then
                              (uFlag u 64 false)
                            else
                              if (uSelf_J6nnnnnnnnnnnnnn op) = true then
                                (uFlag u 8 ((op : Int) == 51))
                              else
                                u
theorem uSelf_ok (u : Un) (op : Int) (ho : 0 ≤ op ∧ op < 256) : FnSpec Tryz.prog 130 1000 [Un.enc u, .int .u8 op] [] (Un.enc (uSelf u op)) [] := by
  unfold uSelf
  rcases bt (uSelf_J1 op) with c1 | c1
  · rw [if_pos c1]
    exact fn_of_x hG hM Tryz.func130 (by kernel_rfl) (by kernel_rfl) 400 [.segk 2 0 [1, 2, 4, 7, 8] [] .normal (uSelf_J1_T1 op (uSelf_J1 op)) (uSelf_J1_H1 op (uSelf_J1 op)) 1002, .yes, .call [] [] 1000 (.tuple ⟨[Un.enc ((uChange u op u.A).1), .int .u8 ((uChange u op u.A).2)]⟩) []] (J (uSelf_J1_runs op) (J c1 (J (uChange_ok u op u.A ho) trivial))) (by kernel_rfl)
  · rw [if_neg (nt c1)]
    rcases bt ((op : Int) == 35) with c2 | c2
    · rw [if_pos c2]
      exact fn_of_x hG hM Tryz.func130 (by kernel_rfl) (by kernel_rfl) 400 [.segk 2 0 [1, 2, 4, 7, 8] [] .normal (uSelf_J1_T1 op (uSelf_J1 op)) (uSelf_J1_H1 op (uSelf_J1 op)) 1002, .no, .yes, .call [] [] 1000 (Un.enc (uLdx u u.A)) []] (J (uSelf_J1_runs op) (J c1 (J c2 (J (uLdx_ok u u.A) trivial)))) (by kernel_rfl)
    · rw [if_neg (nt c2)]
      rcases bt ((op : Int) == 36) with c3 | c3
      · rw [if_pos c3]
        exact fn_of_x hG hM Tryz.func130 (by kernel_rfl) (by kernel_rfl) 400 [.segk 2 0 [1, 2, 4, 7, 8] [] .normal (uSelf_J1_T1 op (uSelf_J1 op)) (uSelf_J1_H1 op (uSelf_J1 op)) 1002, .no, .no, .yes, .call [] [] 1000 (Un.enc (uLdy u u.A)) []] (J (uSelf_J1_runs op) (J c1 (J c2 (J c3 (J (uLdy_ok u u.A) trivial))))) (by kernel_rfl)
      · rw [if_neg (nt c3)]
        rcases bt ((op : Int) == 37) with c4 | c4
        · rw [if_pos c4]
          exact fn_of_x hG hM Tryz.func130 (by kernel_rfl) (by kernel_rfl) 400 [.segk 2 0 [1, 2, 4, 7, 8] [] .normal (uSelf_J1_T1 op (uSelf_J1 op)) (uSelf_J1_H1 op (uSelf_J1 op)) 1002, .no, .no, .no, .yes, .call [] [] 1000 (Un.enc (uLoad u u.X)) []] (J (uSelf_J1_runs op) (J c1 (J c2 (J c3 (J c4 (J (uLoad_ok u u.X) trivial)))))) (by kernel_rfl)
        · rw [if_neg (nt c4)]
          rcases bt ((op : Int) == 38) with c5 | c5
          · rw [if_pos c5]
            exact fn_of_x hG hM Tryz.func130 (by kernel_rfl) (by kernel_rfl) 400 [.segk 2 0 [1, 2, 4, 7, 8] [] .normal (uSelf_J1_T1 op (uSelf_J1 op)) (uSelf_J1_H1 op (uSelf_J1 op)) 1002, .no, .no, .no, .no, .yes, .call [] [] 1000 (Un.enc (uLoad u u.Y)) []] (J (uSelf_J1_runs op) (J c1 (J c2 (J c3 (J c4 (J c5 (J (uLoad_ok u u.Y) trivial))))))) (by kernel_rfl)
          · rw [if_neg (nt c5)]
            rcases bt ((op : Int) == 39) with c6 | c6
            · rw [if_pos c6]
              exact fn_of_x hG hM Tryz.func130 (by kernel_rfl) (by kernel_rfl) 400 [.segk 2 0 [1, 2, 4, 7, 8] [] .normal (uSelf_J1_T1 op (uSelf_J1 op)) (uSelf_J1_H1 op (uSelf_J1 op)) 1002, .no, .no, .no, .no, .no, .yes, .call [] [] 1000 (Un.enc (uLdx u u.S)) []] (J (uSelf_J1_runs op) (J c1 (J c2 (J c3 (J c4 (J c5 (J c6 (J (uLdx_ok u u.S) trivial)))))))) (by kernel_rfl)
            · rw [if_neg (nt c6)]
              rcases bt ((op : Int) == 40) with c7 | c7
              · rw [if_pos c7]
                exact fn_of_x hG hM Tryz.func130 (by kernel_rfl) (by kernel_rfl) 400 [.segk 2 0 [1, 2, 4, 7, 8] [] .normal (uSelf_J1_T1 op (uSelf_J1 op)) (uSelf_J1_H1 op (uSelf_J1 op)) 1002, .no, .no, .no, .no, .no, .no, .yes] (J (uSelf_J1_runs op) (J c1 (J c2 (J c3 (J c4 (J c5 (J c6 (J c7 trivial)))))))) (by kernel_rfl)
              · rw [if_neg (nt c7)]
                rcases bt ((op : Int) == 41) with c8 | c8
                · rw [if_pos c8]
                  exact fn_of_x hG hM Tryz.func130 (by kernel_rfl) (by kernel_rfl) 400 [.segk 2 0 [1, 2, 4, 7, 8] [] .normal (uSelf_J1_T1 op (uSelf_J1 op)) (uSelf_J1_H1 op (uSelf_J1 op)) 1002, .no, .no, .no, .no, .no, .no, .no, .yes, .call [] [] 1000 (Un.enc (uLdx u (IntKind.u8.wrap (u.X + 1)))) []] (J (uSelf_J1_runs op) (J c1 (J c2 (J c3 (J c4 (J c5 (J c6 (J c7 (J c8 (J (uLdx_ok u (IntKind.u8.wrap (u.X + 1))) trivial)))))))))) (by kernel_rfl)
                · rw [if_neg (nt c8)]
                  rcases bt ((op : Int) == 42) with c9 | c9
                  · rw [if_pos c9]
                    exact fn_of_x hG hM Tryz.func130 (by kernel_rfl) (by kernel_rfl) 400 [.segk 2 0 [1, 2, 4, 7, 8] [] .normal (uSelf_J1_T1 op (uSelf_J1 op)) (uSelf_J1_H1 op (uSelf_J1 op)) 1002, .no, .no, .no, .no, .no, .no, .no, .no, .yes, .call [] [] 1000 (Un.enc (uLdy u (IntKind.u8.wrap (u.Y + 1)))) []] (J (uSelf_J1_runs op) (J c1 (J c2 (J c3 (J c4 (J c5 (J c6 (J c7 (J c8 (J c9 (J (uLdy_ok u (IntKind.u8.wrap (u.Y + 1))) trivial))))))))))) (by kernel_rfl)
                  · rw [if_neg (nt c9)]
                    rcases bt ((op : Int) == 43) with c10 | c10
                    · rw [if_pos c10]
                      exact fn_of_x hG hM Tryz.func130 (by kernel_rfl) (by kernel_rfl) 400 [.segk 2 0 [1, 2, 4, 7, 8] [] .normal (uSelf_J1_T1 op (uSelf_J1 op)) (uSelf_J1_H1 op (uSelf_J1 op)) 1002, .no, .no, .no, .no, .no, .no, .no, .no, .no, .yes, .call [] [] 1000 (Un.enc (uLdx u (IntKind.u8.wrap (u.X - 1)))) []] (J (uSelf_J1_runs op) (J c1 (J c2 (J c3 (J c4 (J c5 (J c6 (J c7 (J c8 (J c9 (J c10 (J (uLdx_ok u (IntKind.u8.wrap (u.X - 1))) trivial)))))))))))) (by kernel_rfl)
                    · rw [if_neg (nt c10)]
                      rcases bt ((op : Int) == 44) with c11 | c11
                      · rw [if_pos c11]
                        exact fn_of_x hG hM Tryz.func130 (by kernel_rfl) (by kernel_rfl) 400 [.segk 2 0 [1, 2, 4, 7, 8] [] .normal (uSelf_J1_T1 op (uSelf_J1 op)) (uSelf_J1_H1 op (uSelf_J1 op)) 1002, .no, .no, .no, .no, .no, .no, .no, .no, .no, .no, .yes, .call [] [] 1000 (Un.enc (uLdy u (IntKind.u8.wrap (u.Y - 1)))) []] (J (uSelf_J1_runs op) (J c1 (J c2 (J c3 (J c4 (J c5 (J c6 (J c7 (J c8 (J c9 (J c10 (J c11 (J (uLdy_ok u (IntKind.u8.wrap (u.Y - 1))) trivial))))))))))))) (by kernel_rfl)
                      · rw [if_neg (nt c11)]
                        rcases bt (uSelf_J4nnnnnnnnnnn op) with c12 | c12
                        · rw [if_pos c12]
                          exact fn_of_x hG hM Tryz.func130 (by kernel_rfl) (by kernel_rfl) 400 [.segk 2 0 [1, 2, 4, 7, 8] [] .normal (uSelf_J1_T1 op (uSelf_J1 op)) (uSelf_J1_H1 op (uSelf_J1 op)) 1002, .no, .no, .no, .no, .no, .no, .no, .no, .no, .no, .no, .segk 2 0 [1, 2, 4, 7, 87] [] .normal (uSelf_J4nnnnnnnnnnn_T1 op (uSelf_J4nnnnnnnnnnn op)) (uSelf_J4nnnnnnnnnnn_H1 op (uSelf_J4nnnnnnnnnnn op)) 1002, .yes, .call [] [] 1000 (Un.enc (uFlag u 1 ((op : Int) == 46))) []] (J (uSelf_J1_runs op) (J c1 (J c2 (J c3 (J c4 (J c5 (J c6 (J c7 (J c8 (J c9 (J c10 (J c11 (J (uSelf_J4nnnnnnnnnnn_runs op) (J c12 (J (uFlag_ok u 1 ((op : Int) == 46)) trivial))))))))))))))) (by kernel_rfl)
                        · rw [if_neg (nt c12)]
                          rcases bt (uSelf_J5nnnnnnnnnnnn op) with c13 | c13
                          · rw [if_pos c13]
                            exact fn_of_x hG hM Tryz.func130 (by kernel_rfl) (by kernel_rfl) 400 [.segk 2 0 [1, 2, 4, 7, 8] [] .normal (uSelf_J1_T1 op (uSelf_J1 op)) (uSelf_J1_H1 op (uSelf_J1 op)) 1002, .no, .no, .no, .no, .no, .no, .no, .no, .no, .no, .no, .segk 2 0 [1, 2, 4, 7, 87] [] .normal (uSelf_J4nnnnnnnnnnn_T1 op (uSelf_J4nnnnnnnnnnn op)) (uSelf_J4nnnnnnnnnnn_H1 op (uSelf_J4nnnnnnnnnnn op)) 1002, .no, .segk 2 0 [1, 2, 4, 7, 94] [] .normal (uSelf_J5nnnnnnnnnnnn_T1 op (uSelf_J5nnnnnnnnnnnn op)) (uSelf_J5nnnnnnnnnnnn_H1 op (uSelf_J5nnnnnnnnnnnn op)) 1002, .yes, .call [] [] 1000 (Un.enc (uFlag u 4 ((op : Int) == 48))) []] (J (uSelf_J1_runs op) (J c1 (J c2 (J c3 (J c4 (J c5 (J c6 (J c7 (J c8 (J c9 (J c10 (J c11 (J (uSelf_J4nnnnnnnnnnn_runs op) (J c12 (J (uSelf_J5nnnnnnnnnnnn_runs op) (J c13 (J (uFlag_ok u 4 ((op : Int) == 48)) trivial))))))))))))))))) (by kernel_rfl)
                          · rw [if_neg (nt c13)]
                            rcases bt ((op : Int) == 49) with c14 | c14
                            · rw [if_pos c14]
                              exact fn_of_x hG hM Tryz.func130 (by kernel_rfl) (by kernel_rfl) 400 [.segk 2 0 [1, 2, 4, 7, 8] [] .normal (uSelf_J1_T1 op (uSelf_J1 op)) (uSelf_J1_H1 op (uSelf_J1 op)) 1002, .no, .no, .no, .no, .no, .no, .no, .no, .no, .no, .no, .segk 2 0 [1, 2, 4, 7, 87] [] .normal (uSelf_J4nnnnnnnnnnn_T1 op (uSelf_J4nnnnnnnnnnn op)) (uSelf_J4nnnnnnnnnnn_H1 op (uSelf_J4nnnnnnnnnnn op)) 1002, .no, .segk 2 0 [1, 2, 4, 7, 94] [] .normal (uSelf_J5nnnnnnnnnnnn_T1 op (uSelf_J5nnnnnnnnnnnn op)) (uSelf_J5nnnnnnnnnnnn_H1 op (uSelf_J5nnnnnnnnnnnn op)) 1002, .no, .yes, .call [] [] 1000 (Un.enc (uFlag u 64 false)) []] (J (uSelf_J1_runs op) (J c1 (J c2 (J c3 (J c4 (J c5 (J c6 (J c7 (J c8 (J c9 (J c10 (J c11 (J (uSelf_J4nnnnnnnnnnn_runs op) (J c12 (J (uSelf_J5nnnnnnnnnnnn_runs op) (J c13 (J c14 (J (uFlag_ok u 64 false) trivial)))))))))))))))))) (by kernel_rfl)
                            · rw [if_neg (nt c14)]
                              rcases bt (uSelf_J6nnnnnnnnnnnnnn op) with c15 | c15
                              · rw [if_pos c15]
                                exact fn_of_x hG hM Tryz.func130 (by kernel_rfl) (by kernel_rfl) 400 [.segk 2 0 [1, 2, 4, 7, 8] [] .normal (uSelf_J1_T1 op (uSelf_J1 op)) (uSelf_J1_H1 op (uSelf_J1 op)) 1002, .no, .no, .no, .no, .no, .no, .no, .no, .no, .no, .no, .segk 2 0 [1, 2, 4, 7, 87] [] .normal (uSelf_J4nnnnnnnnnnn_T1 op (uSelf_J4nnnnnnnnnnn op)) (uSelf_J4nnnnnnnnnnn_H1 op (uSelf_J4nnnnnnnnnnn op)) 1002, .no, .segk 2 0 [1, 2, 4, 7, 94] [] .normal (uSelf_J5nnnnnnnnnnnn_T1 op (uSelf_J5nnnnnnnnnnnn op)) (uSelf_J5nnnnnnnnnnnn_H1 op (uSelf_J5nnnnnnnnnnnn op)) 1002, .no, .no, .segk 2 0 [1, 2, 4, 7, 105] [] .normal (uSelf_J6nnnnnnnnnnnnnn_T1 op (uSelf_J6nnnnnnnnnnnnnn op)) (uSelf_J6nnnnnnnnnnnnnn_H1 op (uSelf_J6nnnnnnnnnnnnnn op)) 1002, .yes, .call [] [] 1000 (Un.enc (uFlag u 8 ((op : Int) == 51))) []] (J (uSelf_J1_runs op) (J c1 (J c2 (J c3 (J c4 (J c5 (J c6 (J c7 (J c8 (J c9 (J c10 (J c11 (J (uSelf_J4nnnnnnnnnnn_runs op) (J c12 (J (uSelf_J5nnnnnnnnnnnn_runs op) (J c13 (J c14 (J (uSelf_J6nnnnnnnnnnnnnn_runs op) (J c15 (J (uFlag_ok u 8 ((op : Int) == 51)) trivial)))))))))))))))))))) (by kernel_rfl)
                              · rw [if_neg (nt c15)]
                                exact fn_of_x hG hM Tryz.func130 (by kernel_rfl) (by kernel_rfl) 400 [.segk 2 0 [1, 2, 4, 7, 8] [] .normal (uSelf_J1_T1 op (uSelf_J1 op)) (uSelf_J1_H1 op (uSelf_J1 op)) 1002, .no, .no, .no, .no, .no, .no, .no, .no, .no, .no, .no, .segk 2 0 [1, 2, 4, 7, 87] [] .normal (uSelf_J4nnnnnnnnnnn_T1 op (uSelf_J4nnnnnnnnnnn op)) (uSelf_J4nnnnnnnnnnn_H1 op (uSelf_J4nnnnnnnnnnn op)) 1002, .no, .segk 2 0 [1, 2, 4, 7, 94] [] .normal (uSelf_J5nnnnnnnnnnnn_T1 op (uSelf_J5nnnnnnnnnnnn op)) (uSelf_J5nnnnnnnnnnnn_H1 op (uSelf_J5nnnnnnnnnnnn op)) 1002, .no, .no, .segk 2 0 [1, 2, 4, 7, 105] [] .normal (uSelf_J6nnnnnnnnnnnnnn_T1 op (uSelf_J6nnnnnnnnnnnnnn op)) (uSelf_J6nnnnnnnnnnnnnn_H1 op (uSelf_J6nnnnnnnnnnnnnn op)) 1002, .no] (J (uSelf_J1_runs op) (J c1 (J c2 (J c3 (J c4 (J c5 (J c6 (J c7 (J c8 (J c9 (J c10 (J c11 (J (uSelf_J4nnnnnnnnnnn_runs op) (J c12 (J (uSelf_J5nnnnnnnnnnnn_runs op) (J c13 (J c14 (J (uSelf_J6nnnnnnnnnnnnnn_runs op) (J c15 trivial))))))))))))))))))) (by kernel_rfl)

theorem uSelf_w (u : Un) (op : Int) (w_u : Un.ok u) (w_op : rng 256 op) (ho : 0 ≤ op ∧ op < 256) : Un.ok (uSelf u op) := by
  unfold uSelf
  rcases bt (uSelf_J1 op) with c1 | c1
  · rw [if_pos c1]
    exact (⟨(uChange_w2 u op u.A w_u w_u.A), (uChange_w1 u op u.A w_u w_u.A).X, (uChange_w1 u op u.A w_u w_u.A).Y, (uChange_w1 u op u.A w_u w_u.A).S, (uChange_w1 u op u.A w_u w_u.A).P⟩ : Un.ok ({ ((uChange u op u.A).1) with A := (uChange u op u.A).2 } : Un))
  · rw [if_neg (nt c1)]
    rcases bt ((op : Int) == 35) with c2 | c2
    · rw [if_pos c2]
      exact (uLdx_w u u.A w_u w_u.A)
    · rw [if_neg (nt c2)]
      rcases bt ((op : Int) == 36) with c3 | c3
      · rw [if_pos c3]
        exact (uLdy_w u u.A w_u w_u.A)
      · rw [if_neg (nt c3)]
        rcases bt ((op : Int) == 37) with c4 | c4
        · rw [if_pos c4]
          exact (uLoad_w u u.X w_u w_u.X)
        · rw [if_neg (nt c4)]
          rcases bt ((op : Int) == 38) with c5 | c5
          · rw [if_pos c5]
            exact (uLoad_w u u.Y w_u w_u.Y)
          · rw [if_neg (nt c5)]
            rcases bt ((op : Int) == 39) with c6 | c6
            · rw [if_pos c6]
              exact (uLdx_w u u.S w_u w_u.S)
            · rw [if_neg (nt c6)]
              rcases bt ((op : Int) == 40) with c7 | c7
              · rw [if_pos c7]
                exact (⟨w_u.A, w_u.X, w_u.Y, w_u.X, w_u.P⟩ : Un.ok ({ u with S := u.X } : Un))
              · rw [if_neg (nt c7)]
                rcases bt ((op : Int) == 41) with c8 | c8
                · rw [if_pos c8]
                  exact (uLdx_w u (IntKind.u8.wrap (u.X + 1)) w_u (rng_wrap_u8 (u.X + 1)))
                · rw [if_neg (nt c8)]
                  rcases bt ((op : Int) == 42) with c9 | c9
                  · rw [if_pos c9]
                    exact (uLdy_w u (IntKind.u8.wrap (u.Y + 1)) w_u (rng_wrap_u8 (u.Y + 1)))
                  · rw [if_neg (nt c9)]
                    rcases bt ((op : Int) == 43) with c10 | c10
                    · rw [if_pos c10]
                      exact (uLdx_w u (IntKind.u8.wrap (u.X - 1)) w_u (rng_wrap_u8 (u.X - 1)))
                    · rw [if_neg (nt c10)]
                      rcases bt ((op : Int) == 44) with c11 | c11
                      · rw [if_pos c11]
                        exact (uLdy_w u (IntKind.u8.wrap (u.Y - 1)) w_u (rng_wrap_u8 (u.Y - 1)))
                      · rw [if_neg (nt c11)]
                        rcases bt (uSelf_J4nnnnnnnnnnn op) with c12 | c12
                        · rw [if_pos c12]
                          exact (uFlag_w u 1 ((op : Int) == 46) w_u (by decide : rng 256 1))
                        · rw [if_neg (nt c12)]
                          rcases bt (uSelf_J5nnnnnnnnnnnn op) with c13 | c13
                          · rw [if_pos c13]
                            exact (uFlag_w u 4 ((op : Int) == 48) w_u (by decide : rng 256 4))
                          · rw [if_neg (nt c13)]
                            rcases bt ((op : Int) == 49) with c14 | c14
                            · rw [if_pos c14]
                              exact (uFlag_w u 64 false w_u (by decide : rng 256 64))
                            · rw [if_neg (nt c14)]
                              rcases bt (uSelf_J6nnnnnnnnnnnnnn op) with c15 | c15
                              · rw [if_pos c15]
                                exact (uFlag_w u 8 ((op : Int) == 51) w_u (by decide : rng 256 8))
                              · rw [if_neg (nt c15)]
                                exact w_u

end Go.Proofs.YtmnhmplcpijanaaGreat
