/-
  Texts laid together: RP, RPa, RQ, RQa, RS, RU, RV. No condition.
-/
import Derived.Test.YtgpcfjokmonlgaaDoorMPd
namespace Go.Proofs.YtgpcfjokmonlgaaDoor
open Go VX
open Go.IntKind (i64 u8 u16)
set_option linter.unusedVariables false
set_option linter.unusedSimpArgs false
set_option maxRecDepth 100000
structure RTone where
  Kind : Int
  On : Bool
  Reg : Nat → Int
  Length : Int
  Timer : Int
  Period : Int
  Step : Int
  Anew : Bool
  Swept : Bool
  Level : Int
  Count : Int
  Line : Int
  Sweep : Int
  Row : Nat → Int
def RTone.enc (s : RTone) : Value := .agg ⟨[.int .i64 s.Kind, .bool s.On, .int .i64 (s.Reg 0), .int .i64 (s.Reg 1), .int .i64 (s.Reg 2), .int .i64 (s.Reg 3), .int .i64 s.Length, .int .i64 s.Timer, .int .i64 s.Period, .int .i64 s.Step, .bool s.Anew, .bool s.Swept, .int .i64 s.Level, .int .i64 s.Count, .int .i64 s.Line, .int .i64 s.Sweep, .func (.yield 1) ⟨[.int .i64 (s.Row 0), .int .i64 (s.Row 1), .int .i64 (s.Row 2), .int .i64 (s.Row 3), .int .i64 (s.Row 4), .int .i64 (s.Row 5), .int .i64 (s.Row 6), .int .i64 (s.Row 7), .int .i64 (s.Row 8), .int .i64 (s.Row 9), .int .i64 (s.Row 10), .int .i64 (s.Row 11), .int .i64 (s.Row 12), .int .i64 (s.Row 13), .int .i64 (s.Row 14)]⟩ ⟨[.bool true]⟩]⟩
def RTone.blk (s : RTone) : Blk := ⟨[.one (.int .i64 s.Kind), .one (.bool s.On), .ints .i64 4 s.Reg, .one (.int .i64 s.Length), .one (.int .i64 s.Timer), .one (.int .i64 s.Period), .one (.int .i64 s.Step), .one (.bool s.Anew), .one (.bool s.Swept), .one (.int .i64 s.Level), .one (.int .i64 s.Count), .one (.int .i64 s.Line), .one (.int .i64 s.Sweep), .one (.func (.yield 1) ⟨[.int .i64 (s.Row 0), .int .i64 (s.Row 1), .int .i64 (s.Row 2), .int .i64 (s.Row 3), .int .i64 (s.Row 4), .int .i64 (s.Row 5), .int .i64 (s.Row 6), .int .i64 (s.Row 7), .int .i64 (s.Row 8), .int .i64 (s.Row 9), .int .i64 (s.Row 10), .int .i64 (s.Row 11), .int .i64 (s.Row 12), .int .i64 (s.Row 13), .int .i64 (s.Row 14)]⟩ ⟨[.bool true]⟩)], 47, false⟩
def RTone.cells (s : RTone) : List Value := [.int .i64 s.Kind, .bool s.On, .int .i64 (s.Reg 0), .int .i64 (s.Reg 1), .int .i64 (s.Reg 2), .int .i64 (s.Reg 3), .int .i64 s.Length, .int .i64 s.Timer, .int .i64 s.Period, .int .i64 s.Step, .bool s.Anew, .bool s.Swept, .int .i64 s.Level, .int .i64 s.Count, .int .i64 s.Line, .int .i64 s.Sweep, .func (.yield 1) ⟨[.int .i64 (s.Row 0), .int .i64 (s.Row 1), .int .i64 (s.Row 2), .int .i64 (s.Row 3), .int .i64 (s.Row 4), .int .i64 (s.Row 5), .int .i64 (s.Row 6), .int .i64 (s.Row 7), .int .i64 (s.Row 8), .int .i64 (s.Row 9), .int .i64 (s.Row 10), .int .i64 (s.Row 11), .int .i64 (s.Row 12), .int .i64 (s.Row 13), .int .i64 (s.Row 14)]⟩ ⟨[.bool true]⟩]
structure Good (x : RTone) : Prop where
  reg : ∀ j, 0 ≤ x.Reg j ∧ x.Reg j < 256
  period : 0 ≤ x.Period ∧ x.Period < 65536
  step : 0 ≤ x.Step ∧ x.Step < 32
  kind : x.Kind = 2 ∨ x.Step < 8
theorem div8 {b : Int} (hb : 0 ≤ b ∧ b < 256) : 0 ≤ (i64.wrap (Int.tdiv b 8)) ∧ (i64.wrap (Int.tdiv b 8)) < 32 := by
  rw [Int.tdiv_eq_ediv_of_nonneg hb.1, IntKind.wrap_i64]; omega
theorem put_tmod {x : RTone} (hg : Good x) {b : Int} (hb : 0 ≤ b ∧ b < 256) (o j : Nat) : 0 ≤ (Int.tmod ((upd x.Reg o b) j) 16) ∧ (Int.tmod ((upd x.Reg o b) j) 16) < 16 := by
  have h : 0 ≤ (upd x.Reg o b) j ∧ (upd x.Reg o b) j < 256 := by
    unfold upd
    cases Nat.beq j o
    · exact hg.reg j
    · exact hb
  rw [Int.tmod_eq_emod_of_nonneg h.1]; omega
def rSlow (n : Int) : Int :=
  (i64.wrap ((List.getD ([4, 8, 16, 32, 64, 96, 128, 160, 202, 254, 380, 508, 762, 1016, 2034, 4068] : List Int) (Int.toNat n) 0) - 1))
theorem rSlow_ok (n : Int) (hn : 0 ≤ n ∧ n < 16) : FnSpec Tryd.prog 62 1000 [.int .i64 n] [] (.int .i64 (rSlow n)) [] := by
  unfold rSlow
  have o1 : 0 ≤ n ∧ n < ((16 : Nat) : Int) := by first | decide | exact step8 hg (by assumption) rfl | omega | exact hg | exact ⟨hg.reg, hg.period, hg.step, hg.kind⟩ | exact Good.put hg _ | exact Good.len hg | exact Good.sweep hg _ | (have h0 := hg.reg 0; have h1 := hg.reg 1; have h2 := hg.reg 2; have h4 := hg.step; have t1 := Int.tdiv_eq_ediv_of_nonneg (b := 8) h1.1; have t2 := Int.tmod_eq_emod_of_nonneg (b := 16) h2.1; have t3 := Int.tdiv_eq_ediv_of_nonneg (b := 64) h0.1; simp only [decide_eq_true_eq, decide_eq_false_iff_not, t1, t2, t3, IntKind.wrap_i64] at *; omega)
  have o2 : (Int.toNat n) < 16 := by first | decide | exact step8 hg (by assumption) rfl | omega | exact hg | exact ⟨hg.reg, hg.period, hg.step, hg.kind⟩ | exact Good.put hg _ | exact Good.len hg | exact Good.sweep hg _ | (have h0 := hg.reg 0; have h1 := hg.reg 1; have h2 := hg.reg 2; have h4 := hg.step; have t1 := Int.tdiv_eq_ediv_of_nonneg (b := 8) h1.1; have t2 := Int.tmod_eq_emod_of_nonneg (b := 16) h2.1; have t3 := Int.tdiv_eq_ediv_of_nonneg (b := 64) h0.1; simp only [decide_eq_true_eq, decide_eq_false_iff_not, t1, t2, t3, IntKind.wrap_i64] at *; omega)
  exact fn_of_x hG hM Tryd.func62 (by kernel_rfl) (by kernel_rfl) 400 [.sym, .among 16] (J o1 (J o2 trivial)) (by kernel_rfl)
def rNew_0  : RTone :=
  ({ Kind := 0, On := false, Reg := (stN 4 (fun _ => 0) (upd (upd (upd (upd (fun _ => 0) 0 0) 1 0) 2 0) 3 0)), Length := 0, Timer := 0, Period := 0, Step := 0, Anew := false, Swept := false, Level := 0, Count := 0, Line := 0, Sweep := 0, Row := (fun j => List.getD [1, 0, 0, 0, 0, 0, 0, 0, 0, 0, 0, 0, 0, 0, 0] j 0) } : RTone)
theorem rNew_0_ok  : FnSpec Tryd.prog 41 1000 [.int .i64 0] [] (RTone.enc rNew_0) [] := by
  unfold rNew_0
  exact fn_of_f hG hM Tryd.func41 (by kernel_rfl) (by kernel_rfl) 400 [.segs [.one (.int .i64 0), .one (.bool false), .ints .i64 4 (fun _ => 0), .one (.int .i64 0), .one (.int .i64 0), .one (.int .i64 0), .one (.int .i64 0), .one (.bool false), .one (.bool false), .one (.int .i64 0), .one (.int .i64 0), .one (.int .i64 0), .one (.int .i64 0), .one (.slice none 0 0)], .segs [.one (.int .i64 0), .one (.bool false), .ints .i64 4 (fun _ => 0), .one (.int .i64 0), .one (.int .i64 0), .one (.int .i64 0), .one (.int .i64 0), .one (.bool false), .one (.bool false), .one (.int .i64 0), .one (.int .i64 0), .one (.int .i64 0), .one (.int .i64 0), .one (.slice none 0 0)], .no] [1001] (J T0 trivial) (by kernel_rfl)
def rNew_1  : RTone :=
  ({ Kind := 1, On := false, Reg := (stN 4 (fun _ => 0) (upd (upd (upd (upd (fun _ => 0) 0 0) 1 0) 2 0) 3 0)), Length := 0, Timer := 0, Period := 0, Step := 0, Anew := false, Swept := false, Level := 0, Count := 0, Line := 0, Sweep := 0, Row := (fun j => List.getD [1, 0, 0, 0, 0, 0, 0, 0, 0, 0, 0, 0, 0, 0, 0] j 0) } : RTone)
theorem rNew_1_ok  : FnSpec Tryd.prog 41 1000 [.int .i64 1] [] (RTone.enc rNew_1) [] := by
  unfold rNew_1
  exact fn_of_f hG hM Tryd.func41 (by kernel_rfl) (by kernel_rfl) 400 [.segs [.one (.int .i64 0), .one (.bool false), .ints .i64 4 (fun _ => 0), .one (.int .i64 0), .one (.int .i64 0), .one (.int .i64 0), .one (.int .i64 0), .one (.bool false), .one (.bool false), .one (.int .i64 0), .one (.int .i64 0), .one (.int .i64 0), .one (.int .i64 0), .one (.slice none 0 0)], .segs [.one (.int .i64 0), .one (.bool false), .ints .i64 4 (fun _ => 0), .one (.int .i64 0), .one (.int .i64 0), .one (.int .i64 0), .one (.int .i64 0), .one (.bool false), .one (.bool false), .one (.int .i64 0), .one (.int .i64 0), .one (.int .i64 0), .one (.int .i64 0), .one (.slice none 0 0)], .no] [1001] (J T0 trivial) (by kernel_rfl)
def rNew_2  : RTone :=
  ({ Kind := 2, On := false, Reg := (stN 4 (fun _ => 0) (upd (upd (upd (upd (fun _ => 0) 0 0) 1 0) 2 0) 3 0)), Length := 0, Timer := 0, Period := 0, Step := 0, Anew := false, Swept := false, Level := 0, Count := 0, Line := 0, Sweep := 0, Row := (fun j => List.getD [1, 0, 0, 0, 0, 0, 0, 0, 0, 0, 0, 0, 0, 0, 0] j 0) } : RTone)
theorem rNew_2_ok  : FnSpec Tryd.prog 41 1000 [.int .i64 2] [] (RTone.enc rNew_2) [] := by
  unfold rNew_2
  exact fn_of_f hG hM Tryd.func41 (by kernel_rfl) (by kernel_rfl) 400 [.segs [.one (.int .i64 0), .one (.bool false), .ints .i64 4 (fun _ => 0), .one (.int .i64 0), .one (.int .i64 0), .one (.int .i64 0), .one (.int .i64 0), .one (.bool false), .one (.bool false), .one (.int .i64 0), .one (.int .i64 0), .one (.int .i64 0), .one (.int .i64 0), .one (.slice none 0 0)], .segs [.one (.int .i64 0), .one (.bool false), .ints .i64 4 (fun _ => 0), .one (.int .i64 0), .one (.int .i64 0), .one (.int .i64 0), .one (.int .i64 0), .one (.bool false), .one (.bool false), .one (.int .i64 0), .one (.int .i64 0), .one (.int .i64 0), .one (.int .i64 0), .one (.slice none 0 0)], .no] [1001] (J T0 trivial) (by kernel_rfl)
def rNew_3  : RTone :=
  ({ Kind := 3, On := false, Reg := (stN 4 (fun _ => 0) (upd (upd (upd (upd (fun _ => 0) 0 0) 1 0) 2 0) 3 0)), Length := 0, Timer := 0, Period := 3, Step := 0, Anew := false, Swept := false, Level := 0, Count := 0, Line := 0, Sweep := 0, Row := (fun j => List.getD [1, 0, 0, 0, 0, 0, 0, 0, 0, 0, 0, 0, 0, 0, 0] j 0) } : RTone)
theorem rNew_3_ok  : FnSpec Tryd.prog 41 1000 [.int .i64 3] [] (RTone.enc rNew_3) [] := by
  unfold rNew_3
  exact fn_of_f hG hM Tryd.func41 (by kernel_rfl) (by kernel_rfl) 400 [.segs [.one (.int .i64 0), .one (.bool false), .ints .i64 4 (fun _ => 0), .one (.int .i64 0), .one (.int .i64 0), .one (.int .i64 0), .one (.int .i64 0), .one (.bool false), .one (.bool false), .one (.int .i64 0), .one (.int .i64 0), .one (.int .i64 0), .one (.int .i64 0), .one (.slice none 0 0)], .segs [.one (.int .i64 0), .one (.bool false), .ints .i64 4 (fun _ => 0), .one (.int .i64 0), .one (.int .i64 0), .one (.int .i64 0), .one (.int .i64 0), .one (.bool false), .one (.bool false), .one (.int .i64 0), .one (.int .i64 0), .one (.int .i64 0), .one (.int .i64 0), .one (.slice none 0 0)], .yes, .call [] [] 1000 (.int .i64 3) []] [1001] (J T1 (J (rSlow_ok 0 (by decide)) trivial)) (by kernel_rfl)
def rPut (x : RTone) (reg : Int) (b : Int) : RTone :=
  if (decide (reg > 3)) = true then
    ({ x with Reg := (stN 4 (fun _ => 0) x.Reg) } : RTone)
  else
    if (reg == 1) = true then
      if (x.Kind == 3) = true then
        ({ x with Reg := (stN 4 (fun _ => 0) (upd x.Reg (Int.toNat reg) b)), Period := (rSlow (Int.tmod ((upd x.Reg (Int.toNat reg) b) 2) 16)), Swept := true } : RTone)
      else
        ({ x with Reg := (stN 4 (fun _ => 0) (upd x.Reg (Int.toNat reg) b)), Swept := true } : RTone)
    else
      if (reg == 3) = true then
        if x.On = true then
          if (decide (x.Kind < 2)) = true then
            if (x.Kind == 3) = true then
              ({ x with Reg := (stN 4 (fun _ => 0) (upd x.Reg (Int.toNat reg) b)), Length := (rLength (i64.wrap (Int.tdiv b 8))), Period := (rSlow (Int.tmod ((upd x.Reg (Int.toNat reg) b) 2) 16)), Step := 0, Anew := true } : RTone)
            else
              ({ x with Reg := (stN 4 (fun _ => 0) (upd x.Reg (Int.toNat reg) b)), Length := (rLength (i64.wrap (Int.tdiv b 8))), Period := (i64.wrap ((Int.tmod x.Period 256) + (i64.wrap ((Int.tmod b 8) * 256)))), Step := 0, Anew := true } : RTone)
          else
            if (x.Kind == 3) = true then
              ({ x with Reg := (stN 4 (fun _ => 0) (upd x.Reg (Int.toNat reg) b)), Length := (rLength (i64.wrap (Int.tdiv b 8))), Period := (rSlow (Int.tmod ((upd x.Reg (Int.toNat reg) b) 2) 16)), Anew := true } : RTone)
            else
              ({ x with Reg := (stN 4 (fun _ => 0) (upd x.Reg (Int.toNat reg) b)), Length := (rLength (i64.wrap (Int.tdiv b 8))), Period := (i64.wrap ((Int.tmod x.Period 256) + (i64.wrap ((Int.tmod b 8) * 256)))), Anew := true } : RTone)
        else
          if (decide (x.Kind < 2)) = true then
            if (x.Kind == 3) = true then
              ({ x with Reg := (stN 4 (fun _ => 0) (upd x.Reg (Int.toNat reg) b)), Period := (rSlow (Int.tmod ((upd x.Reg (Int.toNat reg) b) 2) 16)), Step := 0, Anew := true } : RTone)
            else
              ({ x with Reg := (stN 4 (fun _ => 0) (upd x.Reg (Int.toNat reg) b)), Period := (i64.wrap ((Int.tmod x.Period 256) + (i64.wrap ((Int.tmod b 8) * 256)))), Step := 0, Anew := true } : RTone)
          else
            if (x.Kind == 3) = true then
              ({ x with Reg := (stN 4 (fun _ => 0) (upd x.Reg (Int.toNat reg) b)), Period := (rSlow (Int.tmod ((upd x.Reg (Int.toNat reg) b) 2) 16)), Anew := true } : RTone)
            else
              ({ x with Reg := (stN 4 (fun _ => 0) (upd x.Reg (Int.toNat reg) b)), Period := (i64.wrap ((Int.tmod x.Period 256) + (i64.wrap ((Int.tmod b 8) * 256)))), Anew := true } : RTone)
      else
        if (x.Kind == 3) = true then
          ({ x with Reg := (stN 4 (fun _ => 0) (upd x.Reg (Int.toNat reg) b)), Period := (rSlow (Int.tmod ((upd x.Reg (Int.toNat reg) b) 2) 16)) } : RTone)
        else
          if (reg == 2) = true then
            ({ x with Reg := (stN 4 (fun _ => 0) (upd x.Reg (Int.toNat reg) b)), Period := (i64.wrap ((i64.wrap ((i64.wrap (Int.tdiv x.Period 256)) * 256)) + b)) } : RTone)
          else
            ({ x with Reg := (stN 4 (fun _ => 0) (upd x.Reg (Int.toNat reg) b)) } : RTone)
theorem rPut_ok (x : RTone) (reg : Int) (b : Int) (hr : 0 ≤ reg ∧ reg < 256) (hb : 0 ≤ b ∧ b < 256) (hg : Good x) : FnSpec Tryd.prog 44 1000 [RTone.enc x, .int .i64 reg, .int .i64 b] [] (RTone.enc (rPut x reg b)) [] := by
  unfold rPut
  rcases bt (decide (reg > 3)) with c1 | c1
  · rw [if_pos c1]
    exact fn_of_x hG hM Tryd.func44 (by kernel_rfl) (by kernel_rfl) 400 [.group [1, 1, 4, 1, 1, 1, 1, 1, 1, 1, 1, 1, 1, 1], .segs [.one (.int .i64 0), .one (.bool false), .ints .i64 4 (fun _ => 0), .one (.int .i64 0), .one (.int .i64 0), .one (.int .i64 0), .one (.int .i64 0), .one (.bool false), .one (.bool false), .one (.int .i64 0), .one (.int .i64 0), .one (.int .i64 0), .one (.int .i64 0), .one (.slice none 0 0)], .yes] (J c1 trivial) (by kernel_rfl)
  · rw [if_neg (nt c1)]
    rcases bt (reg == 1) with c2 | c2
    · rw [if_pos c2]
      rcases bt (x.Kind == 3) with c3 | c3
      · rw [if_pos c3]
        have o1 : 0 ≤ reg ∧ reg < ((4 : Nat) : Int) := by first | decide | exact step8 hg (by assumption) rfl | omega | exact hg | exact ⟨hg.reg, hg.period, hg.step, hg.kind⟩ | exact Good.put hg _ | exact Good.len hg | exact Good.sweep hg _ | (have h0 := hg.reg 0; have h1 := hg.reg 1; have h2 := hg.reg 2; have h4 := hg.step; have t1 := Int.tdiv_eq_ediv_of_nonneg (b := 8) h1.1; have t2 := Int.tmod_eq_emod_of_nonneg (b := 16) h2.1; have t3 := Int.tdiv_eq_ediv_of_nonneg (b := 64) h0.1; simp only [decide_eq_true_eq, decide_eq_false_iff_not, t1, t2, t3, IntKind.wrap_i64] at *; omega)
        have o2 : (Int.toNat reg) < 4 := by first | decide | exact step8 hg (by assumption) rfl | omega | exact hg | exact ⟨hg.reg, hg.period, hg.step, hg.kind⟩ | exact Good.put hg _ | exact Good.len hg | exact Good.sweep hg _ | (have h0 := hg.reg 0; have h1 := hg.reg 1; have h2 := hg.reg 2; have h4 := hg.step; have t1 := Int.tdiv_eq_ediv_of_nonneg (b := 8) h1.1; have t2 := Int.tmod_eq_emod_of_nonneg (b := 16) h2.1; have t3 := Int.tdiv_eq_ediv_of_nonneg (b := 64) h0.1; simp only [decide_eq_true_eq, decide_eq_false_iff_not, t1, t2, t3, IntKind.wrap_i64] at *; omega)
        exact fn_of_x hG hM Tryd.func44 (by kernel_rfl) (by kernel_rfl) 400 [.group [1, 1, 4, 1, 1, 1, 1, 1, 1, 1, 1, 1, 1, 1], .segs [.one (.int .i64 0), .one (.bool false), .ints .i64 4 (fun _ => 0), .one (.int .i64 0), .one (.int .i64 0), .one (.int .i64 0), .one (.int .i64 0), .one (.bool false), .one (.bool false), .one (.int .i64 0), .one (.int .i64 0), .one (.int .i64 0), .one (.int .i64 0), .one (.slice none 0 0)], .no, .sym, .yes, .no, .yes, .lit 2, .call [] [] 1000 (.int .i64 (rSlow (Int.tmod ((upd x.Reg (Int.toNat reg) b) 2) 16))) []] (J c1 (J o1 (J o2 (J c2 (J (lit_e_e (b := 3) c2 (by decide)) (J c3 (J (Eq.refl (2 : Int)) (J (by decide : 2 < 4) (J (by decide : ((16 : Int) ≠ 0)) (J (rSlow_ok (Int.tmod ((upd x.Reg (Int.toNat reg) b) 2) 16) (put_tmod hg hb (Int.toNat reg) 2)) trivial)))))))))) (by kernel_rfl)
      · rw [if_neg (nt c3)]
        have o1 : 0 ≤ reg ∧ reg < ((4 : Nat) : Int) := by first | decide | exact step8 hg (by assumption) rfl | omega | exact hg | exact ⟨hg.reg, hg.period, hg.step, hg.kind⟩ | exact Good.put hg _ | exact Good.len hg | exact Good.sweep hg _ | (have h0 := hg.reg 0; have h1 := hg.reg 1; have h2 := hg.reg 2; have h4 := hg.step; have t1 := Int.tdiv_eq_ediv_of_nonneg (b := 8) h1.1; have t2 := Int.tmod_eq_emod_of_nonneg (b := 16) h2.1; have t3 := Int.tdiv_eq_ediv_of_nonneg (b := 64) h0.1; simp only [decide_eq_true_eq, decide_eq_false_iff_not, t1, t2, t3, IntKind.wrap_i64] at *; omega)
        have o2 : (Int.toNat reg) < 4 := by first | decide | exact step8 hg (by assumption) rfl | omega | exact hg | exact ⟨hg.reg, hg.period, hg.step, hg.kind⟩ | exact Good.put hg _ | exact Good.len hg | exact Good.sweep hg _ | (have h0 := hg.reg 0; have h1 := hg.reg 1; have h2 := hg.reg 2; have h4 := hg.step; have t1 := Int.tdiv_eq_ediv_of_nonneg (b := 8) h1.1; have t2 := Int.tmod_eq_emod_of_nonneg (b := 16) h2.1; have t3 := Int.tdiv_eq_ediv_of_nonneg (b := 64) h0.1; simp only [decide_eq_true_eq, decide_eq_false_iff_not, t1, t2, t3, IntKind.wrap_i64] at *; omega)
        exact fn_of_x hG hM Tryd.func44 (by kernel_rfl) (by kernel_rfl) 400 [.group [1, 1, 4, 1, 1, 1, 1, 1, 1, 1, 1, 1, 1, 1], .segs [.one (.int .i64 0), .one (.bool false), .ints .i64 4 (fun _ => 0), .one (.int .i64 0), .one (.int .i64 0), .one (.int .i64 0), .one (.int .i64 0), .one (.bool false), .one (.bool false), .one (.int .i64 0), .one (.int .i64 0), .one (.int .i64 0), .one (.int .i64 0), .one (.slice none 0 0)], .no, .sym, .yes, .no, .no, .no, .no] (J c1 (J o1 (J o2 (J c2 (J (lit_e_e (b := 3) c2 (by decide)) (J c3 (J (lit_e_e (b := 2) c2 (by decide)) (J (lit_e_e (b := 3) c2 (by decide)) trivial)))))))) (by kernel_rfl)
    · rw [if_neg (nt c2)]
      rcases bt (reg == 3) with c3 | c3
      · rw [if_pos c3]
        rcases bt x.On with c4 | c4
        · rw [if_pos c4]
          rcases bt (decide (x.Kind < 2)) with c5 | c5
          · rw [if_pos c5]
            rcases bt (x.Kind == 3) with c6 | c6
            · rw [if_pos c6]
              have o1 : 0 ≤ reg ∧ reg < ((4 : Nat) : Int) := by first | decide | exact step8 hg (by assumption) rfl | omega | exact hg | exact ⟨hg.reg, hg.period, hg.step, hg.kind⟩ | exact Good.put hg _ | exact Good.len hg | exact Good.sweep hg _ | (have h0 := hg.reg 0; have h1 := hg.reg 1; have h2 := hg.reg 2; have h4 := hg.step; have t1 := Int.tdiv_eq_ediv_of_nonneg (b := 8) h1.1; have t2 := Int.tmod_eq_emod_of_nonneg (b := 16) h2.1; have t3 := Int.tdiv_eq_ediv_of_nonneg (b := 64) h0.1; simp only [decide_eq_true_eq, decide_eq_false_iff_not, t1, t2, t3, IntKind.wrap_i64] at *; omega)
              have o2 : (Int.toNat reg) < 4 := by first | decide | exact step8 hg (by assumption) rfl | omega | exact hg | exact ⟨hg.reg, hg.period, hg.step, hg.kind⟩ | exact Good.put hg _ | exact Good.len hg | exact Good.sweep hg _ | (have h0 := hg.reg 0; have h1 := hg.reg 1; have h2 := hg.reg 2; have h4 := hg.step; have t1 := Int.tdiv_eq_ediv_of_nonneg (b := 8) h1.1; have t2 := Int.tmod_eq_emod_of_nonneg (b := 16) h2.1; have t3 := Int.tdiv_eq_ediv_of_nonneg (b := 64) h0.1; simp only [decide_eq_true_eq, decide_eq_false_iff_not, t1, t2, t3, IntKind.wrap_i64] at *; omega)
              exact fn_of_x hG hM Tryd.func44 (by kernel_rfl) (by kernel_rfl) 400 [.group [1, 1, 4, 1, 1, 1, 1, 1, 1, 1, 1, 1, 1, 1], .segs [.one (.int .i64 0), .one (.bool false), .ints .i64 4 (fun _ => 0), .one (.int .i64 0), .one (.int .i64 0), .one (.int .i64 0), .one (.int .i64 0), .one (.bool false), .one (.bool false), .one (.int .i64 0), .one (.int .i64 0), .one (.int .i64 0), .one (.int .i64 0), .one (.slice none 0 0)], .no, .sym, .no, .yes, .yes, .call [] [] 1000 (.int .i64 (rLength (i64.wrap (Int.tdiv b 8)))) [], .yes, .yes, .lit 2, .call [] [] 1000 (.int .i64 (rSlow (Int.tmod ((upd x.Reg (Int.toNat reg) b) 2) 16))) []] (J c1 (J o1 (J o2 (J c2 (J c3 (J c4 (J (by decide : ((8 : Int) ≠ 0)) (J (rLength_ok (i64.wrap (Int.tdiv b 8)) (div8 hb)) (J c5 (J c6 (J (Eq.refl (2 : Int)) (J (by decide : 2 < 4) (J (by decide : ((16 : Int) ≠ 0)) (J (rSlow_ok (Int.tmod ((upd x.Reg (Int.toNat reg) b) 2) 16) (put_tmod hg hb (Int.toNat reg) 2)) trivial)))))))))))))) (by kernel_rfl)
            · rw [if_neg (nt c6)]
              have o1 : 0 ≤ reg ∧ reg < ((4 : Nat) : Int) := by first | decide | exact step8 hg (by assumption) rfl | omega | exact hg | exact ⟨hg.reg, hg.period, hg.step, hg.kind⟩ | exact Good.put hg _ | exact Good.len hg | exact Good.sweep hg _ | (have h0 := hg.reg 0; have h1 := hg.reg 1; have h2 := hg.reg 2; have h4 := hg.step; have t1 := Int.tdiv_eq_ediv_of_nonneg (b := 8) h1.1; have t2 := Int.tmod_eq_emod_of_nonneg (b := 16) h2.1; have t3 := Int.tdiv_eq_ediv_of_nonneg (b := 64) h0.1; simp only [decide_eq_true_eq, decide_eq_false_iff_not, t1, t2, t3, IntKind.wrap_i64] at *; omega)
              have o2 : (Int.toNat reg) < 4 := by first | decide | exact step8 hg (by assumption) rfl | omega | exact hg | exact ⟨hg.reg, hg.period, hg.step, hg.kind⟩ | exact Good.put hg _ | exact Good.len hg | exact Good.sweep hg _ | (have h0 := hg.reg 0; have h1 := hg.reg 1; have h2 := hg.reg 2; have h4 := hg.step; have t1 := Int.tdiv_eq_ediv_of_nonneg (b := 8) h1.1; have t2 := Int.tmod_eq_emod_of_nonneg (b := 16) h2.1; have t3 := Int.tdiv_eq_ediv_of_nonneg (b := 64) h0.1; simp only [decide_eq_true_eq, decide_eq_false_iff_not, t1, t2, t3, IntKind.wrap_i64] at *; omega)
              exact fn_of_x hG hM Tryd.func44 (by kernel_rfl) (by kernel_rfl) 400 [.group [1, 1, 4, 1, 1, 1, 1, 1, 1, 1, 1, 1, 1, 1], .segs [.one (.int .i64 0), .one (.bool false), .ints .i64 4 (fun _ => 0), .one (.int .i64 0), .one (.int .i64 0), .one (.int .i64 0), .one (.int .i64 0), .one (.bool false), .one (.bool false), .one (.int .i64 0), .one (.int .i64 0), .one (.int .i64 0), .one (.int .i64 0), .one (.slice none 0 0)], .no, .sym, .no, .yes, .yes, .call [] [] 1000 (.int .i64 (rLength (i64.wrap (Int.tdiv b 8)))) [], .yes, .no, .no, .yes] (J c1 (J o1 (J o2 (J c2 (J c3 (J c4 (J (by decide : ((8 : Int) ≠ 0)) (J (rLength_ok (i64.wrap (Int.tdiv b 8)) (div8 hb)) (J c5 (J c6 (J (lit_e_e (b := 2) c3 (by decide)) (J c3 (J (by decide : ((256 : Int) ≠ 0)) (J (by decide : ((8 : Int) ≠ 0)) trivial)))))))))))))) (by kernel_rfl)
          · rw [if_neg (nt c5)]
            rcases bt (x.Kind == 3) with c6 | c6
            · rw [if_pos c6]
              have o1 : 0 ≤ reg ∧ reg < ((4 : Nat) : Int) := by first | decide | exact step8 hg (by assumption) rfl | omega | exact hg | exact ⟨hg.reg, hg.period, hg.step, hg.kind⟩ | exact Good.put hg _ | exact Good.len hg | exact Good.sweep hg _ | (have h0 := hg.reg 0; have h1 := hg.reg 1; have h2 := hg.reg 2; have h4 := hg.step; have t1 := Int.tdiv_eq_ediv_of_nonneg (b := 8) h1.1; have t2 := Int.tmod_eq_emod_of_nonneg (b := 16) h2.1; have t3 := Int.tdiv_eq_ediv_of_nonneg (b := 64) h0.1; simp only [decide_eq_true_eq, decide_eq_false_iff_not, t1, t2, t3, IntKind.wrap_i64] at *; omega)
              have o2 : (Int.toNat reg) < 4 := by first | decide | exact step8 hg (by assumption) rfl | omega | exact hg | exact ⟨hg.reg, hg.period, hg.step, hg.kind⟩ | exact Good.put hg _ | exact Good.len hg | exact Good.sweep hg _ | (have h0 := hg.reg 0; have h1 := hg.reg 1; have h2 := hg.reg 2; have h4 := hg.step; have t1 := Int.tdiv_eq_ediv_of_nonneg (b := 8) h1.1; have t2 := Int.tmod_eq_emod_of_nonneg (b := 16) h2.1; have t3 := Int.tdiv_eq_ediv_of_nonneg (b := 64) h0.1; simp only [decide_eq_true_eq, decide_eq_false_iff_not, t1, t2, t3, IntKind.wrap_i64] at *; omega)
              exact fn_of_x hG hM Tryd.func44 (by kernel_rfl) (by kernel_rfl) 400 [.group [1, 1, 4, 1, 1, 1, 1, 1, 1, 1, 1, 1, 1, 1], .segs [.one (.int .i64 0), .one (.bool false), .ints .i64 4 (fun _ => 0), .one (.int .i64 0), .one (.int .i64 0), .one (.int .i64 0), .one (.int .i64 0), .one (.bool false), .one (.bool false), .one (.int .i64 0), .one (.int .i64 0), .one (.int .i64 0), .one (.int .i64 0), .one (.slice none 0 0)], .no, .sym, .no, .yes, .yes, .call [] [] 1000 (.int .i64 (rLength (i64.wrap (Int.tdiv b 8)))) [], .no, .yes, .lit 2, .call [] [] 1000 (.int .i64 (rSlow (Int.tmod ((upd x.Reg (Int.toNat reg) b) 2) 16))) []] (J c1 (J o1 (J o2 (J c2 (J c3 (J c4 (J (by decide : ((8 : Int) ≠ 0)) (J (rLength_ok (i64.wrap (Int.tdiv b 8)) (div8 hb)) (J c5 (J c6 (J (Eq.refl (2 : Int)) (J (by decide : 2 < 4) (J (by decide : ((16 : Int) ≠ 0)) (J (rSlow_ok (Int.tmod ((upd x.Reg (Int.toNat reg) b) 2) 16) (put_tmod hg hb (Int.toNat reg) 2)) trivial)))))))))))))) (by kernel_rfl)
            · rw [if_neg (nt c6)]
              have o1 : 0 ≤ reg ∧ reg < ((4 : Nat) : Int) := by first | decide | exact step8 hg (by assumption) rfl | omega | exact hg | exact ⟨hg.reg, hg.period, hg.step, hg.kind⟩ | exact Good.put hg _ | exact Good.len hg | exact Good.sweep hg _ | (have h0 := hg.reg 0; have h1 := hg.reg 1; have h2 := hg.reg 2; have h4 := hg.step; have t1 := Int.tdiv_eq_ediv_of_nonneg (b := 8) h1.1; have t2 := Int.tmod_eq_emod_of_nonneg (b := 16) h2.1; have t3 := Int.tdiv_eq_ediv_of_nonneg (b := 64) h0.1; simp only [decide_eq_true_eq, decide_eq_false_iff_not, t1, t2, t3, IntKind.wrap_i64] at *; omega)
              have o2 : (Int.toNat reg) < 4 := by first | decide | exact step8 hg (by assumption) rfl | omega | exact hg | exact ⟨hg.reg, hg.period, hg.step, hg.kind⟩ | exact Good.put hg _ | exact Good.len hg | exact Good.sweep hg _ | (have h0 := hg.reg 0; have h1 := hg.reg 1; have h2 := hg.reg 2; have h4 := hg.step; have t1 := Int.tdiv_eq_ediv_of_nonneg (b := 8) h1.1; have t2 := Int.tmod_eq_emod_of_nonneg (b := 16) h2.1; have t3 := Int.tdiv_eq_ediv_of_nonneg (b := 64) h0.1; simp only [decide_eq_true_eq, decide_eq_false_iff_not, t1, t2, t3, IntKind.wrap_i64] at *; omega)
              exact fn_of_x hG hM Tryd.func44 (by kernel_rfl) (by kernel_rfl) 400 [.group [1, 1, 4, 1, 1, 1, 1, 1, 1, 1, 1, 1, 1, 1], .segs [.one (.int .i64 0), .one (.bool false), .ints .i64 4 (fun _ => 0), .one (.int .i64 0), .one (.int .i64 0), .one (.int .i64 0), .one (.int .i64 0), .one (.bool false), .one (.bool false), .one (.int .i64 0), .one (.int .i64 0), .one (.int .i64 0), .one (.int .i64 0), .one (.slice none 0 0)], .no, .sym, .no, .yes, .yes, .call [] [] 1000 (.int .i64 (rLength (i64.wrap (Int.tdiv b 8)))) [], .no, .no, .no, .yes] (J c1 (J o1 (J o2 (J c2 (J c3 (J c4 (J (by decide : ((8 : Int) ≠ 0)) (J (rLength_ok (i64.wrap (Int.tdiv b 8)) (div8 hb)) (J c5 (J c6 (J (lit_e_e (b := 2) c3 (by decide)) (J c3 (J (by decide : ((256 : Int) ≠ 0)) (J (by decide : ((8 : Int) ≠ 0)) trivial)))))))))))))) (by kernel_rfl)
        · rw [if_neg (nt c4)]
          rcases bt (decide (x.Kind < 2)) with c5 | c5
          · rw [if_pos c5]
            rcases bt (x.Kind == 3) with c6 | c6
            · rw [if_pos c6]
              have o1 : 0 ≤ reg ∧ reg < ((4 : Nat) : Int) := by first | decide | exact step8 hg (by assumption) rfl | omega | exact hg | exact ⟨hg.reg, hg.period, hg.step, hg.kind⟩ | exact Good.put hg _ | exact Good.len hg | exact Good.sweep hg _ | (have h0 := hg.reg 0; have h1 := hg.reg 1; have h2 := hg.reg 2; have h4 := hg.step; have t1 := Int.tdiv_eq_ediv_of_nonneg (b := 8) h1.1; have t2 := Int.tmod_eq_emod_of_nonneg (b := 16) h2.1; have t3 := Int.tdiv_eq_ediv_of_nonneg (b := 64) h0.1; simp only [decide_eq_true_eq, decide_eq_false_iff_not, t1, t2, t3, IntKind.wrap_i64] at *; omega)
              have o2 : (Int.toNat reg) < 4 := by first | decide | exact step8 hg (by assumption) rfl | omega | exact hg | exact ⟨hg.reg, hg.period, hg.step, hg.kind⟩ | exact Good.put hg _ | exact Good.len hg | exact Good.sweep hg _ | (have h0 := hg.reg 0; have h1 := hg.reg 1; have h2 := hg.reg 2; have h4 := hg.step; have t1 := Int.tdiv_eq_ediv_of_nonneg (b := 8) h1.1; have t2 := Int.tmod_eq_emod_of_nonneg (b := 16) h2.1; have t3 := Int.tdiv_eq_ediv_of_nonneg (b := 64) h0.1; simp only [decide_eq_true_eq, decide_eq_false_iff_not, t1, t2, t3, IntKind.wrap_i64] at *; omega)
              exact fn_of_x hG hM Tryd.func44 (by kernel_rfl) (by kernel_rfl) 400 [.group [1, 1, 4, 1, 1, 1, 1, 1, 1, 1, 1, 1, 1, 1], .segs [.one (.int .i64 0), .one (.bool false), .ints .i64 4 (fun _ => 0), .one (.int .i64 0), .one (.int .i64 0), .one (.int .i64 0), .one (.int .i64 0), .one (.bool false), .one (.bool false), .one (.int .i64 0), .one (.int .i64 0), .one (.int .i64 0), .one (.int .i64 0), .one (.slice none 0 0)], .no, .sym, .no, .yes, .no, .yes, .yes, .lit 2, .call [] [] 1000 (.int .i64 (rSlow (Int.tmod ((upd x.Reg (Int.toNat reg) b) 2) 16))) []] (J c1 (J o1 (J o2 (J c2 (J c3 (J c4 (J c5 (J c6 (J (Eq.refl (2 : Int)) (J (by decide : 2 < 4) (J (by decide : ((16 : Int) ≠ 0)) (J (rSlow_ok (Int.tmod ((upd x.Reg (Int.toNat reg) b) 2) 16) (put_tmod hg hb (Int.toNat reg) 2)) trivial)))))))))))) (by kernel_rfl)
            · rw [if_neg (nt c6)]
              have o1 : 0 ≤ reg ∧ reg < ((4 : Nat) : Int) := by first | decide | exact step8 hg (by assumption) rfl | omega | exact hg | exact ⟨hg.reg, hg.period, hg.step, hg.kind⟩ | exact Good.put hg _ | exact Good.len hg | exact Good.sweep hg _ | (have h0 := hg.reg 0; have h1 := hg.reg 1; have h2 := hg.reg 2; have h4 := hg.step; have t1 := Int.tdiv_eq_ediv_of_nonneg (b := 8) h1.1; have t2 := Int.tmod_eq_emod_of_nonneg (b := 16) h2.1; have t3 := Int.tdiv_eq_ediv_of_nonneg (b := 64) h0.1; simp only [decide_eq_true_eq, decide_eq_false_iff_not, t1, t2, t3, IntKind.wrap_i64] at *; omega)
              have o2 : (Int.toNat reg) < 4 := by first | decide | exact step8 hg (by assumption) rfl | omega | exact hg | exact ⟨hg.reg, hg.period, hg.step, hg.kind⟩ | exact Good.put hg _ | exact Good.len hg | exact Good.sweep hg _ | (have h0 := hg.reg 0; have h1 := hg.reg 1; have h2 := hg.reg 2; have h4 := hg.step; have t1 := Int.tdiv_eq_ediv_of_nonneg (b := 8) h1.1; have t2 := Int.tmod_eq_emod_of_nonneg (b := 16) h2.1; have t3 := Int.tdiv_eq_ediv_of_nonneg (b := 64) h0.1; simp only [decide_eq_true_eq, decide_eq_false_iff_not, t1, t2, t3, IntKind.wrap_i64] at *; omega)
              exact fn_of_x hG hM Tryd.func44 (by kernel_rfl) (by kernel_rfl) 400 [.group [1, 1, 4, 1, 1, 1, 1, 1, 1, 1, 1, 1, 1, 1], .segs [.one (.int .i64 0), .one (.bool false), .ints .i64 4 (fun _ => 0), .one (.int .i64 0), .one (.int .i64 0), .one (.int .i64 0), .one (.int .i64 0), .one (.bool false), .one (.bool false), .one (.int .i64 0), .one (.int .i64 0), .one (.int .i64 0), .one (.int .i64 0), .one (.slice none 0 0)], .no, .sym, .no, .yes, .no, .yes, .no, .no, .yes] (J c1 (J o1 (J o2 (J c2 (J c3 (J c4 (J c5 (J c6 (J (lit_e_e (b := 2) c3 (by decide)) (J c3 (J (by decide : ((256 : Int) ≠ 0)) (J (by decide : ((8 : Int) ≠ 0)) trivial)))))))))))) (by kernel_rfl)
          · rw [if_neg (nt c5)]
            rcases bt (x.Kind == 3) with c6 | c6
            · rw [if_pos c6]
              have o1 : 0 ≤ reg ∧ reg < ((4 : Nat) : Int) := by first | decide | exact step8 hg (by assumption) rfl | omega | exact hg | exact ⟨hg.reg, hg.period, hg.step, hg.kind⟩ | exact Good.put hg _ | exact Good.len hg | exact Good.sweep hg _ | (have h0 := hg.reg 0; have h1 := hg.reg 1; have h2 := hg.reg 2; have h4 := hg.step; have t1 := Int.tdiv_eq_ediv_of_nonneg (b := 8) h1.1; have t2 := Int.tmod_eq_emod_of_nonneg (b := 16) h2.1; have t3 := Int.tdiv_eq_ediv_of_nonneg (b := 64) h0.1; simp only [decide_eq_true_eq, decide_eq_false_iff_not, t1, t2, t3, IntKind.wrap_i64] at *; omega)
              have o2 : (Int.toNat reg) < 4 := by first | decide | exact step8 hg (by assumption) rfl | omega | exact hg | exact ⟨hg.reg, hg.period, hg.step, hg.kind⟩ | exact Good.put hg _ | exact Good.len hg | exact Good.sweep hg _ | (have h0 := hg.reg 0; have h1 := hg.reg 1; have h2 := hg.reg 2; have h4 := hg.step; have t1 := Int.tdiv_eq_ediv_of_nonneg (b := 8) h1.1; have t2 := Int.tmod_eq_emod_of_nonneg (b := 16) h2.1; have t3 := Int.tdiv_eq_ediv_of_nonneg (b := 64) h0.1; simp only [decide_eq_true_eq, decide_eq_false_iff_not, t1, t2, t3, IntKind.wrap_i64] at *; omega)
              exact fn_of_x hG hM Tryd.func44 (by kernel_rfl) (by kernel_rfl) 400 [.group [1, 1, 4, 1, 1, 1, 1, 1, 1, 1, 1, 1, 1, 1], .segs [.one (.int .i64 0), .one (.bool false), .ints .i64 4 (fun _ => 0), .one (.int .i64 0), .one (.int .i64 0), .one (.int .i64 0), .one (.int .i64 0), .one (.bool false), .one (.bool false), .one (.int .i64 0), .one (.int .i64 0), .one (.int .i64 0), .one (.int .i64 0), .one (.slice none 0 0)], .no, .sym, .no, .yes, .no, .no, .yes, .lit 2, .call [] [] 1000 (.int .i64 (rSlow (Int.tmod ((upd x.Reg (Int.toNat reg) b) 2) 16))) []] (J c1 (J o1 (J o2 (J c2 (J c3 (J c4 (J c5 (J c6 (J (Eq.refl (2 : Int)) (J (by decide : 2 < 4) (J (by decide : ((16 : Int) ≠ 0)) (J (rSlow_ok (Int.tmod ((upd x.Reg (Int.toNat reg) b) 2) 16) (put_tmod hg hb (Int.toNat reg) 2)) trivial)))))))))))) (by kernel_rfl)
            · rw [if_neg (nt c6)]
              have o1 : 0 ≤ reg ∧ reg < ((4 : Nat) : Int) := by first | decide | exact step8 hg (by assumption) rfl | omega | exact hg | exact ⟨hg.reg, hg.period, hg.step, hg.kind⟩ | exact Good.put hg _ | exact Good.len hg | exact Good.sweep hg _ | (have h0 := hg.reg 0; have h1 := hg.reg 1; have h2 := hg.reg 2; have h4 := hg.step; have t1 := Int.tdiv_eq_ediv_of_nonneg (b := 8) h1.1; have t2 := Int.tmod_eq_emod_of_nonneg (b := 16) h2.1; have t3 := Int.tdiv_eq_ediv_of_nonneg (b := 64) h0.1; simp only [decide_eq_true_eq, decide_eq_false_iff_not, t1, t2, t3, IntKind.wrap_i64] at *; omega)
              have o2 : (Int.toNat reg) < 4 := by first | decide | exact step8 hg (by assumption) rfl | omega | exact hg | exact ⟨hg.reg, hg.period, hg.step, hg.kind⟩ | exact Good.put hg _ | exact Good.len hg | exact Good.sweep hg _ | (have h0 := hg.reg 0; have h1 := hg.reg 1; have h2 := hg.reg 2; have h4 := hg.step; have t1 := Int.tdiv_eq_ediv_of_nonneg (b := 8) h1.1; have t2 := Int.tmod_eq_emod_of_nonneg (b := 16) h2.1; have t3 := Int.tdiv_eq_ediv_of_nonneg (b := 64) h0.1; simp only [decide_eq_true_eq, decide_eq_false_iff_not, t1, t2, t3, IntKind.wrap_i64] at *; omega)
              exact fn_of_x hG hM Tryd.func44 (by kernel_rfl) (by kernel_rfl) 400 [.group [1, 1, 4, 1, 1, 1, 1, 1, 1, 1, 1, 1, 1, 1], .segs [.one (.int .i64 0), .one (.bool false), .ints .i64 4 (fun _ => 0), .one (.int .i64 0), .one (.int .i64 0), .one (.int .i64 0), .one (.int .i64 0), .one (.bool false), .one (.bool false), .one (.int .i64 0), .one (.int .i64 0), .one (.int .i64 0), .one (.int .i64 0), .one (.slice none 0 0)], .no, .sym, .no, .yes, .no, .no, .no, .no, .yes] (J c1 (J o1 (J o2 (J c2 (J c3 (J c4 (J c5 (J c6 (J (lit_e_e (b := 2) c3 (by decide)) (J c3 (J (by decide : ((256 : Int) ≠ 0)) (J (by decide : ((8 : Int) ≠ 0)) trivial)))))))))))) (by kernel_rfl)
      · rw [if_neg (nt c3)]
        rcases bt (x.Kind == 3) with c4 | c4
        · rw [if_pos c4]
          have o1 : 0 ≤ reg ∧ reg < ((4 : Nat) : Int) := by first | decide | exact step8 hg (by assumption) rfl | omega | exact hg | exact ⟨hg.reg, hg.period, hg.step, hg.kind⟩ | exact Good.put hg _ | exact Good.len hg | exact Good.sweep hg _ | (have h0 := hg.reg 0; have h1 := hg.reg 1; have h2 := hg.reg 2; have h4 := hg.step; have t1 := Int.tdiv_eq_ediv_of_nonneg (b := 8) h1.1; have t2 := Int.tmod_eq_emod_of_nonneg (b := 16) h2.1; have t3 := Int.tdiv_eq_ediv_of_nonneg (b := 64) h0.1; simp only [decide_eq_true_eq, decide_eq_false_iff_not, t1, t2, t3, IntKind.wrap_i64] at *; omega)
          have o2 : (Int.toNat reg) < 4 := by first | decide | exact step8 hg (by assumption) rfl | omega | exact hg | exact ⟨hg.reg, hg.period, hg.step, hg.kind⟩ | exact Good.put hg _ | exact Good.len hg | exact Good.sweep hg _ | (have h0 := hg.reg 0; have h1 := hg.reg 1; have h2 := hg.reg 2; have h4 := hg.step; have t1 := Int.tdiv_eq_ediv_of_nonneg (b := 8) h1.1; have t2 := Int.tmod_eq_emod_of_nonneg (b := 16) h2.1; have t3 := Int.tdiv_eq_ediv_of_nonneg (b := 64) h0.1; simp only [decide_eq_true_eq, decide_eq_false_iff_not, t1, t2, t3, IntKind.wrap_i64] at *; omega)
          exact fn_of_x hG hM Tryd.func44 (by kernel_rfl) (by kernel_rfl) 400 [.group [1, 1, 4, 1, 1, 1, 1, 1, 1, 1, 1, 1, 1, 1], .segs [.one (.int .i64 0), .one (.bool false), .ints .i64 4 (fun _ => 0), .one (.int .i64 0), .one (.int .i64 0), .one (.int .i64 0), .one (.int .i64 0), .one (.bool false), .one (.bool false), .one (.int .i64 0), .one (.int .i64 0), .one (.int .i64 0), .one (.int .i64 0), .one (.slice none 0 0)], .no, .sym, .no, .no, .yes, .lit 2, .call [] [] 1000 (.int .i64 (rSlow (Int.tmod ((upd x.Reg (Int.toNat reg) b) 2) 16))) []] (J c1 (J o1 (J o2 (J c2 (J c3 (J c4 (J (Eq.refl (2 : Int)) (J (by decide : 2 < 4) (J (by decide : ((16 : Int) ≠ 0)) (J (rSlow_ok (Int.tmod ((upd x.Reg (Int.toNat reg) b) 2) 16) (put_tmod hg hb (Int.toNat reg) 2)) trivial)))))))))) (by kernel_rfl)
        · rw [if_neg (nt c4)]
          rcases bt (reg == 2) with c5 | c5
          · rw [if_pos c5]
            have o1 : 0 ≤ reg ∧ reg < ((4 : Nat) : Int) := by first | decide | exact step8 hg (by assumption) rfl | omega | exact hg | exact ⟨hg.reg, hg.period, hg.step, hg.kind⟩ | exact Good.put hg _ | exact Good.len hg | exact Good.sweep hg _ | (have h0 := hg.reg 0; have h1 := hg.reg 1; have h2 := hg.reg 2; have h4 := hg.step; have t1 := Int.tdiv_eq_ediv_of_nonneg (b := 8) h1.1; have t2 := Int.tmod_eq_emod_of_nonneg (b := 16) h2.1; have t3 := Int.tdiv_eq_ediv_of_nonneg (b := 64) h0.1; simp only [decide_eq_true_eq, decide_eq_false_iff_not, t1, t2, t3, IntKind.wrap_i64] at *; omega)
            have o2 : (Int.toNat reg) < 4 := by first | decide | exact step8 hg (by assumption) rfl | omega | exact hg | exact ⟨hg.reg, hg.period, hg.step, hg.kind⟩ | exact Good.put hg _ | exact Good.len hg | exact Good.sweep hg _ | (have h0 := hg.reg 0; have h1 := hg.reg 1; have h2 := hg.reg 2; have h4 := hg.step; have t1 := Int.tdiv_eq_ediv_of_nonneg (b := 8) h1.1; have t2 := Int.tmod_eq_emod_of_nonneg (b := 16) h2.1; have t3 := Int.tdiv_eq_ediv_of_nonneg (b := 64) h0.1; simp only [decide_eq_true_eq, decide_eq_false_iff_not, t1, t2, t3, IntKind.wrap_i64] at *; omega)
            exact fn_of_x hG hM Tryd.func44 (by kernel_rfl) (by kernel_rfl) 400 [.group [1, 1, 4, 1, 1, 1, 1, 1, 1, 1, 1, 1, 1, 1], .segs [.one (.int .i64 0), .one (.bool false), .ints .i64 4 (fun _ => 0), .one (.int .i64 0), .one (.int .i64 0), .one (.int .i64 0), .one (.int .i64 0), .one (.bool false), .one (.bool false), .one (.int .i64 0), .one (.int .i64 0), .one (.int .i64 0), .one (.int .i64 0), .one (.slice none 0 0)], .no, .sym, .no, .no, .no, .yes, .no] (J c1 (J o1 (J o2 (J c2 (J c3 (J c4 (J c5 (J (by decide : ((256 : Int) ≠ 0)) (J c3 trivial))))))))) (by kernel_rfl)
          · rw [if_neg (nt c5)]
            have o1 : 0 ≤ reg ∧ reg < ((4 : Nat) : Int) := by first | decide | exact step8 hg (by assumption) rfl | omega | exact hg | exact ⟨hg.reg, hg.period, hg.step, hg.kind⟩ | exact Good.put hg _ | exact Good.len hg | exact Good.sweep hg _ | (have h0 := hg.reg 0; have h1 := hg.reg 1; have h2 := hg.reg 2; have h4 := hg.step; have t1 := Int.tdiv_eq_ediv_of_nonneg (b := 8) h1.1; have t2 := Int.tmod_eq_emod_of_nonneg (b := 16) h2.1; have t3 := Int.tdiv_eq_ediv_of_nonneg (b := 64) h0.1; simp only [decide_eq_true_eq, decide_eq_false_iff_not, t1, t2, t3, IntKind.wrap_i64] at *; omega)
            have o2 : (Int.toNat reg) < 4 := by first | decide | exact step8 hg (by assumption) rfl | omega | exact hg | exact ⟨hg.reg, hg.period, hg.step, hg.kind⟩ | exact Good.put hg _ | exact Good.len hg | exact Good.sweep hg _ | (have h0 := hg.reg 0; have h1 := hg.reg 1; have h2 := hg.reg 2; have h4 := hg.step; have t1 := Int.tdiv_eq_ediv_of_nonneg (b := 8) h1.1; have t2 := Int.tmod_eq_emod_of_nonneg (b := 16) h2.1; have t3 := Int.tdiv_eq_ediv_of_nonneg (b := 64) h0.1; simp only [decide_eq_true_eq, decide_eq_false_iff_not, t1, t2, t3, IntKind.wrap_i64] at *; omega)
            exact fn_of_x hG hM Tryd.func44 (by kernel_rfl) (by kernel_rfl) 400 [.group [1, 1, 4, 1, 1, 1, 1, 1, 1, 1, 1, 1, 1, 1], .segs [.one (.int .i64 0), .one (.bool false), .ints .i64 4 (fun _ => 0), .one (.int .i64 0), .one (.int .i64 0), .one (.int .i64 0), .one (.int .i64 0), .one (.bool false), .one (.bool false), .one (.int .i64 0), .one (.int .i64 0), .one (.int .i64 0), .one (.int .i64 0), .one (.slice none 0 0)], .no, .sym, .no, .no, .no, .no, .no] (J c1 (J o1 (J o2 (J c2 (J c3 (J c4 (J c5 (J c3 trivial)))))))) (by kernel_rfl)
def rEnable (x : RTone) (on : Bool) : RTone :=
  if (!on) = true then
    ({ x with On := on, Reg := (stN 4 (fun _ => 0) x.Reg), Length := 0 } : RTone)
  else
    ({ x with On := on, Reg := (stN 4 (fun _ => 0) x.Reg) } : RTone)
theorem rEnable_ok (x : RTone) (on : Bool) : FnSpec Tryd.prog 46 1000 [RTone.enc x, .bool on] [] (RTone.enc (rEnable x on)) [] := by
  unfold rEnable
  rcases bt (!on) with c1 | c1
  · rw [if_pos c1]
    exact fn_of_x hG hM Tryd.func46 (by kernel_rfl) (by kernel_rfl) 400 [.group [1, 1, 4, 1, 1, 1, 1, 1, 1, 1, 1, 1, 1, 1], .segs [.one (.int .i64 0), .one (.bool false), .ints .i64 4 (fun _ => 0), .one (.int .i64 0), .one (.int .i64 0), .one (.int .i64 0), .one (.int .i64 0), .one (.bool false), .one (.bool false), .one (.int .i64 0), .one (.int .i64 0), .one (.int .i64 0), .one (.int .i64 0), .one (.slice none 0 0)], .yes] (J c1 trivial) (by kernel_rfl)
  · rw [if_neg (nt c1)]
    exact fn_of_x hG hM Tryd.func46 (by kernel_rfl) (by kernel_rfl) 400 [.group [1, 1, 4, 1, 1, 1, 1, 1, 1, 1, 1, 1, 1, 1], .segs [.one (.int .i64 0), .one (.bool false), .ints .i64 4 (fun _ => 0), .one (.int .i64 0), .one (.int .i64 0), .one (.int .i64 0), .one (.int .i64 0), .one (.bool false), .one (.bool false), .one (.int .i64 0), .one (.int .i64 0), .one (.int .i64 0), .one (.int .i64 0), .one (.slice none 0 0)], .no] (J c1 trivial) (by kernel_rfl)
def rClock (x : RTone) : RTone :=
  if (decide (x.Timer > 0)) = true then
    ({ x with Reg := (stN 4 (fun _ => 0) x.Reg), Timer := (i64.wrap (x.Timer - 1)) } : RTone)
  else
    if (x.Kind == 2) = true then
      if (decide (x.Length > 0)) = true then
        if (decide (x.Line > 0)) = true then
          ({ x with Reg := (stN 4 (fun _ => 0) x.Reg), Timer := x.Period, Step := (Int.tmod (i64.wrap (x.Step + 1)) 32) } : RTone)
        else
          ({ x with Reg := (stN 4 (fun _ => 0) x.Reg), Timer := x.Period } : RTone)
      else
        ({ x with Reg := (stN 4 (fun _ => 0) x.Reg), Timer := x.Period } : RTone)
    else
      if (x.Kind == 3) = true then
        if (decide ((x.Reg 2) ≥ 128)) = true then
          ({ x with Reg := (stN 4 (fun _ => 0) x.Reg), Timer := x.Period, Row := (fun j => List.getD [(x.Row 1), (x.Row 2), (x.Row 3), (x.Row 4), (x.Row 5), (x.Row 6), (x.Row 7), (x.Row 8), (x.Row 9), (x.Row 10), (x.Row 11), (x.Row 12), (x.Row 13), (x.Row 14), (Int.tmod (i64.wrap ((x.Row 0) + (x.Row 6))) 2)] j 0) } : RTone)
        else
          ({ x with Reg := (stN 4 (fun _ => 0) x.Reg), Timer := x.Period, Row := (fun j => List.getD [(x.Row 1), (x.Row 2), (x.Row 3), (x.Row 4), (x.Row 5), (x.Row 6), (x.Row 7), (x.Row 8), (x.Row 9), (x.Row 10), (x.Row 11), (x.Row 12), (x.Row 13), (x.Row 14), (Int.tmod (i64.wrap ((x.Row 0) + (x.Row 1))) 2)] j 0) } : RTone)
      else
        ({ x with Reg := (stN 4 (fun _ => 0) x.Reg), Timer := x.Period, Step := (Int.tmod (i64.wrap (x.Step + 1)) 8) } : RTone)
theorem rClock_ok (x : RTone) : FnSpec Tryd.prog 49 1000 [RTone.enc x] [] (RTone.enc (rClock x)) [] := by
  unfold rClock
  rcases bt (decide (x.Timer > 0)) with c1 | c1
  · rw [if_pos c1]
    exact fn_of_x hG hM Tryd.func49 (by kernel_rfl) (by kernel_rfl) 400 [.group [1, 1, 4, 1, 1, 1, 1, 1, 1, 1, 1, 1, 1, 1], .segs [.one (.int .i64 0), .one (.bool false), .ints .i64 4 (fun _ => 0), .one (.int .i64 0), .one (.int .i64 0), .one (.int .i64 0), .one (.int .i64 0), .one (.bool false), .one (.bool false), .one (.int .i64 0), .one (.int .i64 0), .one (.int .i64 0), .one (.int .i64 0), .one (.slice none 0 0)], .yes] (J c1 trivial) (by kernel_rfl)
  · rw [if_neg (nt c1)]
    rcases bt (x.Kind == 2) with c2 | c2
    · rw [if_pos c2]
      rcases bt (decide (x.Length > 0)) with c3 | c3
      · rw [if_pos c3]
        rcases bt (decide (x.Line > 0)) with c4 | c4
        · rw [if_pos c4]
          exact fn_of_x hG hM Tryd.func49 (by kernel_rfl) (by kernel_rfl) 400 [.group [1, 1, 4, 1, 1, 1, 1, 1, 1, 1, 1, 1, 1, 1], .segs [.one (.int .i64 0), .one (.bool false), .ints .i64 4 (fun _ => 0), .one (.int .i64 0), .one (.int .i64 0), .one (.int .i64 0), .one (.int .i64 0), .one (.bool false), .one (.bool false), .one (.int .i64 0), .one (.int .i64 0), .one (.int .i64 0), .one (.int .i64 0), .one (.slice none 0 0)], .no, .yes, .yes, .yes, .yes, .yes, .yes] (J c1 (J c2 (J c3 (J c3 (J c3 (J c3 (J c4 (J (by decide : ((32 : Int) ≠ 0)) trivial)))))))) (by kernel_rfl)
        · rw [if_neg (nt c4)]
          exact fn_of_x hG hM Tryd.func49 (by kernel_rfl) (by kernel_rfl) 400 [.group [1, 1, 4, 1, 1, 1, 1, 1, 1, 1, 1, 1, 1, 1], .segs [.one (.int .i64 0), .one (.bool false), .ints .i64 4 (fun _ => 0), .one (.int .i64 0), .one (.int .i64 0), .one (.int .i64 0), .one (.int .i64 0), .one (.bool false), .one (.bool false), .one (.int .i64 0), .one (.int .i64 0), .one (.int .i64 0), .one (.int .i64 0), .one (.slice none 0 0)], .no, .yes, .yes, .yes, .yes, .yes, .no] (J c1 (J c2 (J c3 (J c3 (J c3 (J c3 (J c4 trivial))))))) (by kernel_rfl)
      · rw [if_neg (nt c3)]
        exact fn_of_x hG hM Tryd.func49 (by kernel_rfl) (by kernel_rfl) 400 [.group [1, 1, 4, 1, 1, 1, 1, 1, 1, 1, 1, 1, 1, 1], .segs [.one (.int .i64 0), .one (.bool false), .ints .i64 4 (fun _ => 0), .one (.int .i64 0), .one (.int .i64 0), .one (.int .i64 0), .one (.int .i64 0), .one (.bool false), .one (.bool false), .one (.int .i64 0), .one (.int .i64 0), .one (.int .i64 0), .one (.int .i64 0), .one (.slice none 0 0)], .no, .yes, .no, .no, .no, .no, .no] (J c1 (J c2 (J c3 (J c3 (J c3 (J c3 (J T0 trivial))))))) (by kernel_rfl)
    · rw [if_neg (nt c2)]
      rcases bt (x.Kind == 3) with c3 | c3
      · rw [if_pos c3]
        rcases bt (decide ((x.Reg 2) ≥ 128)) with c4 | c4
        · rw [if_pos c4]
          exact fn_of_f hG hM Tryd.func49 (by kernel_rfl) (by kernel_rfl) 400 [.group [1, 1, 4, 1, 1, 1, 1, 1, 1, 1, 1, 1, 1, 1], .segs [.one (.int .i64 0), .one (.bool false), .ints .i64 4 (fun _ => 0), .one (.int .i64 0), .one (.int .i64 0), .one (.int .i64 0), .one (.int .i64 0), .one (.bool false), .one (.bool false), .one (.int .i64 0), .one (.int .i64 0), .one (.int .i64 0), .one (.int .i64 0), .one (.slice none 0 0)], .no, .no, .yes, .lit 2, .yes, .lit 0, .lit 6, .cut 1 15] [1005] (J c1 (J c2 (J c3 (J (Eq.refl (2 : Int)) (J (by decide : 2 < 4) (J c4 (J T1 (J (Eq.refl (0 : Int)) (J T1 (J (Eq.refl (6 : Int)) (J (by decide : ((2 : Int) ≠ 0)) (J T1 (J (Eq.refl (1 : Int)) (J (by decide : 14 ≤ 1048576) (J (Eq.refl (0 : Nat)) (J T1 (J (by decide : 15 ≤ 1048576) (J (Eq.refl (14 : Nat)) trivial)))))))))))))))))) (by kernel_rfl)
        · rw [if_neg (nt c4)]
          exact fn_of_f hG hM Tryd.func49 (by kernel_rfl) (by kernel_rfl) 400 [.group [1, 1, 4, 1, 1, 1, 1, 1, 1, 1, 1, 1, 1, 1], .segs [.one (.int .i64 0), .one (.bool false), .ints .i64 4 (fun _ => 0), .one (.int .i64 0), .one (.int .i64 0), .one (.int .i64 0), .one (.int .i64 0), .one (.bool false), .one (.bool false), .one (.int .i64 0), .one (.int .i64 0), .one (.int .i64 0), .one (.int .i64 0), .one (.slice none 0 0)], .no, .no, .yes, .lit 2, .no, .lit 0, .lit 1, .cut 1 15] [1005] (J c1 (J c2 (J c3 (J (Eq.refl (2 : Int)) (J (by decide : 2 < 4) (J c4 (J T1 (J (Eq.refl (0 : Int)) (J T1 (J (Eq.refl (1 : Int)) (J (by decide : ((2 : Int) ≠ 0)) (J T1 (J (Eq.refl (1 : Int)) (J (by decide : 14 ≤ 1048576) (J (Eq.refl (0 : Nat)) (J T1 (J (by decide : 15 ≤ 1048576) (J (Eq.refl (14 : Nat)) trivial)))))))))))))))))) (by kernel_rfl)
      · rw [if_neg (nt c3)]
        exact fn_of_x hG hM Tryd.func49 (by kernel_rfl) (by kernel_rfl) 400 [.group [1, 1, 4, 1, 1, 1, 1, 1, 1, 1, 1, 1, 1, 1], .segs [.one (.int .i64 0), .one (.bool false), .ints .i64 4 (fun _ => 0), .one (.int .i64 0), .one (.int .i64 0), .one (.int .i64 0), .one (.int .i64 0), .one (.bool false), .one (.bool false), .one (.int .i64 0), .one (.int .i64 0), .one (.int .i64 0), .one (.int .i64 0), .one (.slice none 0 0)], .no, .no, .no] (J c1 (J c2 (J c3 (J (by decide : ((8 : Int) ≠ 0)) trivial)))) (by kernel_rfl)
def rQuarter (x : RTone) : RTone :=
  if (x.Kind == 2) = true then
    if x.Anew = true then
      if (decide ((x.Reg 0) < 128)) = true then
        ({ x with Reg := (stN 4 (fun _ => 0) x.Reg), Anew := false, Line := (Int.tmod (x.Reg 0) 128) } : RTone)
      else
        ({ x with Reg := (stN 4 (fun _ => 0) x.Reg), Line := (Int.tmod (x.Reg 0) 128) } : RTone)
    else
      if (decide ((x.Reg 0) < 128)) = true then
        ({ x with Reg := (stN 4 (fun _ => 0) x.Reg), Anew := false, Line := (if 0 > (i64.wrap (x.Line - 1)) then 0 else (i64.wrap (x.Line - 1))) } : RTone)
      else
        ({ x with Reg := (stN 4 (fun _ => 0) x.Reg), Line := (if 0 > (i64.wrap (x.Line - 1)) then 0 else (i64.wrap (x.Line - 1))) } : RTone)
  else
    if x.Anew = true then
      ({ x with Reg := (stN 4 (fun _ => 0) x.Reg), Anew := false, Level := 15, Count := (Int.tmod (x.Reg 0) 16) } : RTone)
    else
      if (decide ((i64.wrap (x.Count - 1)) ≥ 0)) = true then
        ({ x with Reg := (stN 4 (fun _ => 0) x.Reg), Count := (i64.wrap (x.Count - 1)) } : RTone)
      else
        if (decide ((i64.wrap (x.Level - 1)) < 0)) = true then
          if ((Int.tmod (i64.wrap (Int.tdiv (x.Reg 0) 32)) 2) == 1) = true then
            ({ x with Reg := (stN 4 (fun _ => 0) x.Reg), Level := 15, Count := (Int.tmod (x.Reg 0) 16) } : RTone)
          else
            ({ x with Reg := (stN 4 (fun _ => 0) x.Reg), Level := 0, Count := (Int.tmod (x.Reg 0) 16) } : RTone)
        else
          ({ x with Reg := (stN 4 (fun _ => 0) x.Reg), Level := (i64.wrap (x.Level - 1)), Count := (Int.tmod (x.Reg 0) 16) } : RTone)
theorem rQuarter_ok (x : RTone) : FnSpec Tryd.prog 63 1000 [RTone.enc x] [] (RTone.enc (rQuarter x)) [] := by
  unfold rQuarter
  rcases bt (x.Kind == 2) with c1 | c1
  · rw [if_pos c1]
    rcases bt x.Anew with c2 | c2
    · rw [if_pos c2]
      rcases bt (decide ((x.Reg 0) < 128)) with c3 | c3
      · rw [if_pos c3]
        exact fn_of_x hG hM Tryd.func63 (by kernel_rfl) (by kernel_rfl) 400 [.group [1, 1, 4, 1, 1, 1, 1, 1, 1, 1, 1, 1, 1, 1], .segs [.one (.int .i64 0), .one (.bool false), .ints .i64 4 (fun _ => 0), .one (.int .i64 0), .one (.int .i64 0), .one (.int .i64 0), .one (.int .i64 0), .one (.bool false), .one (.bool false), .one (.int .i64 0), .one (.int .i64 0), .one (.int .i64 0), .one (.int .i64 0), .one (.slice none 0 0)], .yes, .yes, .lit 0, .lit 0, .yes] (J c1 (J c2 (J (Eq.refl (0 : Int)) (J (by decide : 0 < 4) (J (by decide : ((128 : Int) ≠ 0)) (J (Eq.refl (0 : Int)) (J (by decide : 0 < 4) (J c3 trivial)))))))) (by kernel_rfl)
      · rw [if_neg (nt c3)]
        exact fn_of_x hG hM Tryd.func63 (by kernel_rfl) (by kernel_rfl) 400 [.group [1, 1, 4, 1, 1, 1, 1, 1, 1, 1, 1, 1, 1, 1], .segs [.one (.int .i64 0), .one (.bool false), .ints .i64 4 (fun _ => 0), .one (.int .i64 0), .one (.int .i64 0), .one (.int .i64 0), .one (.int .i64 0), .one (.bool false), .one (.bool false), .one (.int .i64 0), .one (.int .i64 0), .one (.int .i64 0), .one (.int .i64 0), .one (.slice none 0 0)], .yes, .yes, .lit 0, .lit 0, .no] (J c1 (J c2 (J (Eq.refl (0 : Int)) (J (by decide : 0 < 4) (J (by decide : ((128 : Int) ≠ 0)) (J (Eq.refl (0 : Int)) (J (by decide : 0 < 4) (J c3 trivial)))))))) (by kernel_rfl)
    · rw [if_neg (nt c2)]
      rcases bt (decide ((x.Reg 0) < 128)) with c3 | c3
      · rw [if_pos c3]
        exact fn_of_x hG hM Tryd.func63 (by kernel_rfl) (by kernel_rfl) 400 [.group [1, 1, 4, 1, 1, 1, 1, 1, 1, 1, 1, 1, 1, 1], .segs [.one (.int .i64 0), .one (.bool false), .ints .i64 4 (fun _ => 0), .one (.int .i64 0), .one (.int .i64 0), .one (.int .i64 0), .one (.int .i64 0), .one (.bool false), .one (.bool false), .one (.int .i64 0), .one (.int .i64 0), .one (.int .i64 0), .one (.int .i64 0), .one (.slice none 0 0)], .yes, .no, .lit 0, .yes] (J c1 (J c2 (J (Eq.refl (0 : Int)) (J (by decide : 0 < 4) (J c3 trivial))))) (by kernel_rfl)
      · rw [if_neg (nt c3)]
        exact fn_of_x hG hM Tryd.func63 (by kernel_rfl) (by kernel_rfl) 400 [.group [1, 1, 4, 1, 1, 1, 1, 1, 1, 1, 1, 1, 1, 1], .segs [.one (.int .i64 0), .one (.bool false), .ints .i64 4 (fun _ => 0), .one (.int .i64 0), .one (.int .i64 0), .one (.int .i64 0), .one (.int .i64 0), .one (.bool false), .one (.bool false), .one (.int .i64 0), .one (.int .i64 0), .one (.int .i64 0), .one (.int .i64 0), .one (.slice none 0 0)], .yes, .no, .lit 0, .no] (J c1 (J c2 (J (Eq.refl (0 : Int)) (J (by decide : 0 < 4) (J c3 trivial))))) (by kernel_rfl)
  · rw [if_neg (nt c1)]
    rcases bt x.Anew with c2 | c2
    · rw [if_pos c2]
      exact fn_of_x hG hM Tryd.func63 (by kernel_rfl) (by kernel_rfl) 400 [.group [1, 1, 4, 1, 1, 1, 1, 1, 1, 1, 1, 1, 1, 1], .segs [.one (.int .i64 0), .one (.bool false), .ints .i64 4 (fun _ => 0), .one (.int .i64 0), .one (.int .i64 0), .one (.int .i64 0), .one (.int .i64 0), .one (.bool false), .one (.bool false), .one (.int .i64 0), .one (.int .i64 0), .one (.int .i64 0), .one (.int .i64 0), .one (.slice none 0 0)], .no, .lit 0, .yes] (J c1 (J (Eq.refl (0 : Int)) (J (by decide : 0 < 4) (J (by decide : ((16 : Int) ≠ 0)) (J c2 trivial))))) (by kernel_rfl)
    · rw [if_neg (nt c2)]
      rcases bt (decide ((i64.wrap (x.Count - 1)) ≥ 0)) with c3 | c3
      · rw [if_pos c3]
        exact fn_of_x hG hM Tryd.func63 (by kernel_rfl) (by kernel_rfl) 400 [.group [1, 1, 4, 1, 1, 1, 1, 1, 1, 1, 1, 1, 1, 1], .segs [.one (.int .i64 0), .one (.bool false), .ints .i64 4 (fun _ => 0), .one (.int .i64 0), .one (.int .i64 0), .one (.int .i64 0), .one (.int .i64 0), .one (.bool false), .one (.bool false), .one (.int .i64 0), .one (.int .i64 0), .one (.int .i64 0), .one (.int .i64 0), .one (.slice none 0 0)], .no, .lit 0, .no, .yes] (J c1 (J (Eq.refl (0 : Int)) (J (by decide : 0 < 4) (J (by decide : ((16 : Int) ≠ 0)) (J c2 (J c3 trivial)))))) (by kernel_rfl)
      · rw [if_neg (nt c3)]
        rcases bt (decide ((i64.wrap (x.Level - 1)) < 0)) with c4 | c4
        · rw [if_pos c4]
          rcases bt ((Int.tmod (i64.wrap (Int.tdiv (x.Reg 0) 32)) 2) == 1) with c5 | c5
          · rw [if_pos c5]
            exact fn_of_x hG hM Tryd.func63 (by kernel_rfl) (by kernel_rfl) 400 [.group [1, 1, 4, 1, 1, 1, 1, 1, 1, 1, 1, 1, 1, 1], .segs [.one (.int .i64 0), .one (.bool false), .ints .i64 4 (fun _ => 0), .one (.int .i64 0), .one (.int .i64 0), .one (.int .i64 0), .one (.int .i64 0), .one (.bool false), .one (.bool false), .one (.int .i64 0), .one (.int .i64 0), .one (.int .i64 0), .one (.int .i64 0), .one (.slice none 0 0)], .no, .lit 0, .no, .no, .yes, .lit 0, .yes] (J c1 (J (Eq.refl (0 : Int)) (J (by decide : 0 < 4) (J (by decide : ((16 : Int) ≠ 0)) (J c2 (J c3 (J c4 (J (Eq.refl (0 : Int)) (J (by decide : 0 < 4) (J (by decide : ((32 : Int) ≠ 0)) (J (by decide : ((2 : Int) ≠ 0)) (J c5 trivial)))))))))))) (by kernel_rfl)
          · rw [if_neg (nt c5)]
            exact fn_of_x hG hM Tryd.func63 (by kernel_rfl) (by kernel_rfl) 400 [.group [1, 1, 4, 1, 1, 1, 1, 1, 1, 1, 1, 1, 1, 1], .segs [.one (.int .i64 0), .one (.bool false), .ints .i64 4 (fun _ => 0), .one (.int .i64 0), .one (.int .i64 0), .one (.int .i64 0), .one (.int .i64 0), .one (.bool false), .one (.bool false), .one (.int .i64 0), .one (.int .i64 0), .one (.int .i64 0), .one (.int .i64 0), .one (.slice none 0 0)], .no, .lit 0, .no, .no, .yes, .lit 0, .no] (J c1 (J (Eq.refl (0 : Int)) (J (by decide : 0 < 4) (J (by decide : ((16 : Int) ≠ 0)) (J c2 (J c3 (J c4 (J (Eq.refl (0 : Int)) (J (by decide : 0 < 4) (J (by decide : ((32 : Int) ≠ 0)) (J (by decide : ((2 : Int) ≠ 0)) (J c5 trivial)))))))))))) (by kernel_rfl)
        · rw [if_neg (nt c4)]
          exact fn_of_x hG hM Tryd.func63 (by kernel_rfl) (by kernel_rfl) 400 [.group [1, 1, 4, 1, 1, 1, 1, 1, 1, 1, 1, 1, 1, 1], .segs [.one (.int .i64 0), .one (.bool false), .ints .i64 4 (fun _ => 0), .one (.int .i64 0), .one (.int .i64 0), .one (.int .i64 0), .one (.int .i64 0), .one (.bool false), .one (.bool false), .one (.int .i64 0), .one (.int .i64 0), .one (.int .i64 0), .one (.int .i64 0), .one (.slice none 0 0)], .no, .lit 0, .no, .no, .no] (J c1 (J (Eq.refl (0 : Int)) (J (by decide : 0 < 4) (J (by decide : ((16 : Int) ≠ 0)) (J c2 (J c3 (J c4 trivial))))))) (by kernel_rfl)
def rTgt_L1 (x : RTone) (xd : Int × Int) : (Int × Int) ⊕ (Int × Int) :=
  if (decide (xd.1 < (Int.tmod ((fun j => List.getD [(x.Reg 0), (x.Reg 1), (x.Reg 2), (x.Reg 3)] j 0) 1) 8))) = true then
    .inl ((i64.wrap (xd.1 + 1)), (i64.wrap (Int.tdiv xd.2 2)))
  else
    .inr (xd.1, xd.2)
def rTgt_L1_T (x : RTone) (xd : Int × Int) : Tm := [(1, .pointer (some ⟨1000, 0, none⟩)), (2, .int .i64 0), (3, .int .i64 xd.2), (4, .int .i64 xd.1)]
def rTgt_L1_H (x : RTone) (xd : Int × Int) : Heap := [(1000, ⟨[.one (.int .i64 x.Kind), .one (.bool x.On), .ints .i64 4 (fun j => List.getD [(x.Reg 0), (x.Reg 1), (x.Reg 2), (x.Reg 3)] j 0), .one (.int .i64 x.Length), .one (.int .i64 x.Timer), .one (.int .i64 x.Period), .one (.int .i64 x.Step), .one (.bool x.Anew), .one (.bool x.Swept), .one (.int .i64 x.Level), .one (.int .i64 x.Count), .one (.int .i64 x.Line), .one (.int .i64 x.Sweep), .one (.func (.yield 1) ⟨[.int .i64 (x.Row 0), .int .i64 (x.Row 1), .int .i64 (x.Row 2), .int .i64 (x.Row 3), .int .i64 (x.Row 4), .int .i64 (x.Row 5), .int .i64 (x.Row 6), .int .i64 (x.Row 7), .int .i64 (x.Row 8), .int .i64 (x.Row 9), .int .i64 (x.Row 10), .int .i64 (x.Row 11), .int .i64 (x.Row 12), .int .i64 (x.Row 13), .int .i64 (x.Row 14)]⟩ ⟨[.bool true]⟩)], 47, false⟩)]
def rTgt_L1_T1 (x : RTone) (r : Int × Int) : Tm := rTgt_L1_T x r
def rTgt_L1_H1 (x : RTone) (r : Int × Int) : Heap := rTgt_L1_H x r
def rTgt_L1_ex (_ : Int × Int) : Ex := .exit 0
theorem rTgt_L1_p1 (x : RTone) (xd : Int × Int) (d1 : (decide (xd.1 < (Int.tmod ((fun j => List.getD [(x.Reg 0), (x.Reg 1), (x.Reg 2), (x.Reg 3)] j 0) 1) 8))) = true) : Runs Tryd.prog 37 (bodyOf Tryd.f68 [1, 1, 0, 1, 0, 0]) (rTgt_L1_T x xd) (rTgt_L1_H x xd) 1001 .normal (rTgt_L1_T x ((i64.wrap (xd.1 + 1)), (i64.wrap (Int.tdiv xd.2 2)))) (rTgt_L1_H x ((i64.wrap (xd.1 + 1)), (i64.wrap (Int.tdiv xd.2 2)))) 1001 := by
  exact runs_of_x hG hM 400 [.lit 1, .yes] (J (Eq.refl (1 : Int)) (J (by decide : 1 < 4) (J (by decide : ((8 : Int) ≠ 0)) (J d1 (J (by decide : ((2 : Int) ≠ 0)) trivial))))) (by kernel_rfl)
theorem rTgt_L1_p2 (x : RTone) (xd : Int × Int) (d1 : (decide (xd.1 < (Int.tmod ((fun j => List.getD [(x.Reg 0), (x.Reg 1), (x.Reg 2), (x.Reg 3)] j 0) 1) 8))) = false) : Runs Tryd.prog 37 (bodyOf Tryd.f68 [1, 1, 0, 1, 0, 0]) (rTgt_L1_T x xd) (rTgt_L1_H x xd) 1001 (.exit 0) (rTgt_L1_T1 x (xd.1, xd.2)) (rTgt_L1_H1 x (xd.1, xd.2)) 1001 := by
  exact runs_of_x hG hM 400 [.lit 1, .no] (J (Eq.refl (1 : Int)) (J (by decide : 1 < 4) (J (by decide : ((8 : Int) ≠ 0)) (J d1 trivial)))) (by kernel_rfl)
theorem rTgt_L1_runs (x : RTone) (k_ : Nat) (x_ : Int × Int) (y_ : Int × Int) (h_ : iter (rTgt_L1 x) k_ x_ = some y_) : Runs Tryd.prog 37 (.block 0 (.loop (bodyOf Tryd.f68 [1, 1, 0, 1, 0, 0]))) (rTgt_L1_T x x_) (rTgt_L1_H x x_) 1001 (outOf 0 (rTgt_L1_ex y_)) (rTgt_L1_T1 x y_) (rTgt_L1_H1 x y_) 1001 := by
  refine block_iter (rTgt_L1 x) (rTgt_L1_T x) (rTgt_L1_H x) rTgt_L1_ex (rTgt_L1_T1 x) (rTgt_L1_H1 x) ?_ ?_ ?_ k_ x_ y_ h_
  · intro r hr; cases hr
  · intro xd y_ hx
    unfold rTgt_L1 at hx
    rcases bt (decide (xd.1 < (Int.tmod ((fun j => List.getD [(x.Reg 0), (x.Reg 1), (x.Reg 2), (x.Reg 3)] j 0) 1) 8))) with d1 | d1
    · rw [if_pos d1] at hx
      cases hx; exact rTgt_L1_p1 x xd d1
    · rw [if_neg (nt d1)] at hx
      cases hx
  · intro xd y_ hx
    unfold rTgt_L1 at hx
    rcases bt (decide (xd.1 < (Int.tmod ((fun j => List.getD [(x.Reg 0), (x.Reg 1), (x.Reg 2), (x.Reg 3)] j 0) 1) 8))) with d1 | d1
    · rw [if_pos d1] at hx
      cases hx
    · rw [if_neg (nt d1)] at hx
      cases hx; exact rTgt_L1_p2 x xd d1
theorem rTgt_p1 (x : RTone) (m1 : Nat) (r1 : Int × Int) (l1 : iter (rTgt_L1 x) m1 (0, x.Period) = some r1) (c1 : ((Int.tmod (i64.wrap (Int.tdiv ((fun j => List.getD [(x.Reg 0), (x.Reg 1), (x.Reg 2), (x.Reg 3)] j 0) 1) 8)) 2) == 0) = true) : FnSpec Tryd.prog 68 1000 [RTone.enc x] [] (.int .i64 (i64.wrap (x.Period + r1.2))) [] := by
  exact fn_of_x hG hM Tryd.func68 (by kernel_rfl) (by kernel_rfl) 400 [.group [1, 1, 4, 1, 1, 1, 1, 1, 1, 1, 1, 1, 1, 1], .segk 1 0 [1, 2, 3, 4] [1000] .normal (rTgt_L1_T1 x r1) (rTgt_L1_H1 x r1) 1001, .lit 1, .yes] (J (rTgt_L1_runs x m1 (0, x.Period) r1 l1) (J (Eq.refl (1 : Int)) (J (by decide : 1 < 4) (J (by decide : ((8 : Int) ≠ 0)) (J (by decide : ((2 : Int) ≠ 0)) (J c1 trivial)))))) (by kernel_rfl)
theorem rTgt_p2 (x : RTone) (m1 : Nat) (r1 : Int × Int) (l1 : iter (rTgt_L1 x) m1 (0, x.Period) = some r1) (c1 : ((Int.tmod (i64.wrap (Int.tdiv ((fun j => List.getD [(x.Reg 0), (x.Reg 1), (x.Reg 2), (x.Reg 3)] j 0) 1) 8)) 2) == 0) = false) (c2 : (x.Kind == 0) = true) : FnSpec Tryd.prog 68 1000 [RTone.enc x] [] (.int .i64 (if 0 > (i64.wrap (x.Period - (i64.wrap (r1.2 + 1)))) then 0 else (i64.wrap (x.Period - (i64.wrap (r1.2 + 1)))))) [] := by
  exact fn_of_x hG hM Tryd.func68 (by kernel_rfl) (by kernel_rfl) 400 [.group [1, 1, 4, 1, 1, 1, 1, 1, 1, 1, 1, 1, 1, 1], .segk 1 0 [1, 2, 3, 4] [1000] .normal (rTgt_L1_T1 x r1) (rTgt_L1_H1 x r1) 1001, .lit 1, .no, .yes] (J (rTgt_L1_runs x m1 (0, x.Period) r1 l1) (J (Eq.refl (1 : Int)) (J (by decide : 1 < 4) (J (by decide : ((8 : Int) ≠ 0)) (J (by decide : ((2 : Int) ≠ 0)) (J c1 (J c2 trivial))))))) (by kernel_rfl)
theorem rTgt_p3 (x : RTone) (m1 : Nat) (r1 : Int × Int) (l1 : iter (rTgt_L1 x) m1 (0, x.Period) = some r1) (c1 : ((Int.tmod (i64.wrap (Int.tdiv ((fun j => List.getD [(x.Reg 0), (x.Reg 1), (x.Reg 2), (x.Reg 3)] j 0) 1) 8)) 2) == 0) = false) (c2 : (x.Kind == 0) = false) : FnSpec Tryd.prog 68 1000 [RTone.enc x] [] (.int .i64 (if 0 > (i64.wrap (x.Period - r1.2)) then 0 else (i64.wrap (x.Period - r1.2)))) [] := by
  exact fn_of_x hG hM Tryd.func68 (by kernel_rfl) (by kernel_rfl) 400 [.group [1, 1, 4, 1, 1, 1, 1, 1, 1, 1, 1, 1, 1, 1], .segk 1 0 [1, 2, 3, 4] [1000] .normal (rTgt_L1_T1 x r1) (rTgt_L1_H1 x r1) 1001, .lit 1, .no, .no] (J (rTgt_L1_runs x m1 (0, x.Period) r1 l1) (J (Eq.refl (1 : Int)) (J (by decide : 1 < 4) (J (by decide : ((8 : Int) ≠ 0)) (J (by decide : ((2 : Int) ≠ 0)) (J c1 (J c2 trivial))))))) (by kernel_rfl)
end Go.Proofs.YtgpcfjokmonlgaaDoor
namespace Go.Proofs.YtgpcfjokmonlgaaDoor
open Go VX IntWalk
open Go.IntKind (i64 u8 u16)
set_option maxRecDepth 100000
set_option linter.unusedSimpArgs false
set_option linter.unusedVariables false
def rTarget (x : RTone) : Int :=
  if x.Reg 1 / 8 % 2 = 0 then x.Period + x.Period / 2 ^ (x.Reg 1 % 8).toNat
  else if x.Kind = 0 then max (x.Period - (x.Period / 2 ^ (x.Reg 1 % 8).toNat + 1)) 0
  else max (x.Period - x.Period / 2 ^ (x.Reg 1 % 8).toNat) 0
theorem rTarget_ok (x : RTone) (hg : Good x) : FnSpec Tryd.prog 68 1000 [RTone.enc x] [] (.int .i64 (rTarget x)) [] := by
  obtain ⟨r0, r1⟩ := hg.reg 1
  obtain ⟨p0, p1⟩ := hg.period
  have em : Int.tmod (x.Reg 1) 8 = x.Reg 1 % 8 := Int.tmod_eq_emod_of_nonneg r0
  have ed : (Int.tmod (i64.wrap (Int.tdiv (x.Reg 1) 8)) 2) = x.Reg 1 / 8 % 2 := by
    rw [Int.tdiv_eq_ediv_of_nonneg r0, i64_in _ (by omega), Int.tmod_eq_emod_of_nonneg (by omega)]
  have hq : ∀ k : Nat, 0 ≤ x.Period / 2 ^ k ∧ x.Period / 2 ^ k ≤ x.Period := fun k => ⟨Int.ediv_nonneg p0 (Int.le_of_lt (Int.pow_pos (by decide))), Int.ediv_le_self _ p0⟩
  have L := iter_seq (f := rTgt_L1 x) (fun k => (((k : Nat) : Int), x.Period / 2 ^ k)) (x.Reg 1 % 8).toNat (((x.Reg 1 % 8).toNat : Int), x.Period / 2 ^ (x.Reg 1 % 8).toNat) (fun k hk => by
      unfold rTgt_L1
      rw [if_pos (by show decide ((k : Int) < Int.tmod (x.Reg 1) 8) = true; rw [em]; simp; omega)]
      have h := hq k
      simp only
      rw [i64_in ((k : Int) + 1) (by omega), Int.tdiv_eq_ediv_of_nonneg h.1, i64_in _ (by omega), Int.ediv_ediv_of_nonneg (Int.le_of_lt (Int.pow_pos (by decide))), ← Int.pow_succ]
      simp)
    (by
      unfold rTgt_L1
      rw [if_neg (by show ¬ decide ((((x.Reg 1 % 8).toNat : Nat) : Int) < Int.tmod (x.Reg 1) 8) = true; rw [em]; simp; omega)])
  have h0 : ((((0 : Nat) : Int)), x.Period / 2 ^ 0) = ((0 : Int), x.Period) := by simp
  rw [h0] at L
  have h := hq (x.Reg 1 % 8).toNat
  unfold rTarget
  generalize x.Period / 2 ^ (x.Reg 1 % 8).toNat = q at *
  by_cases c1 : x.Reg 1 / 8 % 2 = 0
  · have := rTgt_p1 x _ _ L (by show ((Int.tmod (i64.wrap (Int.tdiv (x.Reg 1) 8)) 2 : Int) == 0) = true; rw [ed]; simpa using c1)
    simp only at this
    rw [i64_in _ (by omega)] at this
    rw [if_pos c1]; exact this
  · rw [if_neg c1]
    have c1' : (((Int.tmod (i64.wrap (Int.tdiv (x.Reg 1) 8)) 2) : Int) == 0) = false := by rw [ed]; simpa using c1
    by_cases c2 : x.Kind = 0
    · have := rTgt_p2 x _ _ L c1' (by simpa using c2)
      simp only at this
      rw [i64_in (q + 1) (by omega), i64_in _ (by omega)] at this
      rw [if_pos c2]
      have e : (if (0 : Int) > x.Period - (q + 1) then 0 else x.Period - (q + 1)) = max (x.Period - (q + 1)) 0 := by split <;> omega
      rw [e] at this; exact this
    · have := rTgt_p3 x _ _ L c1' (by simpa using c2)
      simp only at this
      rw [i64_in _ (by omega)] at this
      rw [if_neg c2]
      have e : (if (0 : Int) > x.Period - q then 0 else x.Period - q) = max (x.Period - q) 0 := by split <;> omega
      rw [e] at this; exact this
end Go.Proofs.YtgpcfjokmonlgaaDoor
namespace Go.Proofs.YtgpcfjokmonlgaaDoor
open Go VX
open Go.IntKind (i64 u8 u16)
set_option linter.unusedVariables false
set_option linter.unusedSimpArgs false
set_option maxRecDepth 100000
theorem Good.len {x : RTone} (h : Good x) {n : Int} : Good ({ x with Length := n } : RTone) := ⟨h.reg, h.period, h.step, h.kind⟩
theorem Good.put {x : RTone} (h : Good x) (n : Int) : Good ({ x with Length := n } : RTone) := ⟨h.reg, h.period, h.step, h.kind⟩
theorem step8 {x : RTone} (h : Good x) (c : (x.Kind == 2) = false) {B : ByteArray} (hB : B.size = 8) : (0 : Int) ≤ x.Step ∧ x.Step < ((ByteArray.size B : Nat) : Int) := by
  have h1 := h.kind
  have h2 := h.step
  have c' : ¬ x.Kind = 2 := by simpa using c
  rw [hB]; omega
theorem Good.sweep {x : RTone} (h : Good x) (n : Int) : Good ({ x with Sweep := n } : RTone) := ⟨h.reg, h.period, h.step, h.kind⟩
def rMute (x : RTone) : Bool :=
  if (decide (x.Period < 8)) = true then
    true
  else
    (decide ((rTarget x) > 2047))
theorem rMute_ok (x : RTone) (hg : Good x) : FnSpec Tryd.prog 66 1000 [RTone.enc x] [] (.bool (rMute x)) [] := by
  unfold rMute
  rcases bt (decide (x.Period < 8)) with c1 | c1
  · rw [if_pos c1]
    exact fn_of_x hG hM Tryd.func66 (by kernel_rfl) (by kernel_rfl) 400 [.group [1, 1, 4, 1, 1, 1, 1, 1, 1, 1, 1, 1, 1, 1], .yes, .yes, .yes, .yes] (J c1 (J c1 (J c1 (J c1 trivial)))) (by kernel_rfl)
  · rw [if_neg (nt c1)]
    exact fn_of_x hG hM Tryd.func66 (by kernel_rfl) (by kernel_rfl) 400 [.group [1, 1, 4, 1, 1, 1, 1, 1, 1, 1, 1, 1, 1, 1], .no, .no, .call [] [] 1000 (.int .i64 (rTarget x)) [], .no, .no] (J c1 (J c1 (J (rTarget_ok x hg) (J c1 (J c1 trivial))))) (by kernel_rfl)
def rHalf (x : RTone) : RTone :=
  if (x.Kind == 2) = true then
    if (!(decide ((x.Reg 0) ≥ 128))) = true then
      if (decide (x.Kind > 1)) = true then
        ({ x with Reg := (stN 4 (fun _ => 0) x.Reg), Length := (if 0 > (i64.wrap (x.Length - 1)) then 0 else (i64.wrap (x.Length - 1))) } : RTone)
      else
        if (x.Sweep == 0) = true then
          if (decide ((x.Reg 1) ≥ 128)) = true then
            if (decide ((Int.tmod (x.Reg 1) 8) > 0)) = true then
              if (!(rMute ({ x with Length := (if 0 > (i64.wrap (x.Length - 1)) then 0 else (i64.wrap (x.Length - 1))) } : RTone))) = true then
                ({ x with Reg := (stN 4 (fun _ => 0) x.Reg), Length := (if 0 > (i64.wrap (x.Length - 1)) then 0 else (i64.wrap (x.Length - 1))), Period := (rTarget ({ x with Length := (if 0 > (i64.wrap (x.Length - 1)) then 0 else (i64.wrap (x.Length - 1))) } : RTone)), Swept := false, Sweep := (Int.tmod (i64.wrap (Int.tdiv (x.Reg 1) 16)) 8) } : RTone)
              else
                ({ x with Reg := (stN 4 (fun _ => 0) x.Reg), Length := (if 0 > (i64.wrap (x.Length - 1)) then 0 else (i64.wrap (x.Length - 1))), Swept := false, Sweep := (Int.tmod (i64.wrap (Int.tdiv (x.Reg 1) 16)) 8) } : RTone)
            else
              ({ x with Reg := (stN 4 (fun _ => 0) x.Reg), Length := (if 0 > (i64.wrap (x.Length - 1)) then 0 else (i64.wrap (x.Length - 1))), Swept := false, Sweep := (Int.tmod (i64.wrap (Int.tdiv (x.Reg 1) 16)) 8) } : RTone)
          else
            ({ x with Reg := (stN 4 (fun _ => 0) x.Reg), Length := (if 0 > (i64.wrap (x.Length - 1)) then 0 else (i64.wrap (x.Length - 1))), Swept := false, Sweep := (Int.tmod (i64.wrap (Int.tdiv (x.Reg 1) 16)) 8) } : RTone)
        else
          if x.Swept = true then
            ({ x with Reg := (stN 4 (fun _ => 0) x.Reg), Length := (if 0 > (i64.wrap (x.Length - 1)) then 0 else (i64.wrap (x.Length - 1))), Swept := false, Sweep := (Int.tmod (i64.wrap (Int.tdiv (x.Reg 1) 16)) 8) } : RTone)
          else
            ({ x with Reg := (stN 4 (fun _ => 0) x.Reg), Length := (if 0 > (i64.wrap (x.Length - 1)) then 0 else (i64.wrap (x.Length - 1))), Swept := false, Sweep := (i64.wrap (x.Sweep - 1)) } : RTone)
    else
      if (decide (x.Kind > 1)) = true then
        ({ x with Reg := (stN 4 (fun _ => 0) x.Reg) } : RTone)
      else
        if (x.Sweep == 0) = true then
          if (decide ((x.Reg 1) ≥ 128)) = true then
            if (decide ((Int.tmod (x.Reg 1) 8) > 0)) = true then
              if (!(rMute x)) = true then
                ({ x with Reg := (stN 4 (fun _ => 0) x.Reg), Period := (rTarget x), Swept := false, Sweep := (Int.tmod (i64.wrap (Int.tdiv (x.Reg 1) 16)) 8) } : RTone)
              else
                ({ x with Reg := (stN 4 (fun _ => 0) x.Reg), Swept := false, Sweep := (Int.tmod (i64.wrap (Int.tdiv (x.Reg 1) 16)) 8) } : RTone)
            else
              ({ x with Reg := (stN 4 (fun _ => 0) x.Reg), Swept := false, Sweep := (Int.tmod (i64.wrap (Int.tdiv (x.Reg 1) 16)) 8) } : RTone)
          else
            ({ x with Reg := (stN 4 (fun _ => 0) x.Reg), Swept := false, Sweep := (Int.tmod (i64.wrap (Int.tdiv (x.Reg 1) 16)) 8) } : RTone)
        else
          if x.Swept = true then
            ({ x with Reg := (stN 4 (fun _ => 0) x.Reg), Swept := false, Sweep := (Int.tmod (i64.wrap (Int.tdiv (x.Reg 1) 16)) 8) } : RTone)
          else
            ({ x with Reg := (stN 4 (fun _ => 0) x.Reg), Swept := false, Sweep := (i64.wrap (x.Sweep - 1)) } : RTone)
  else
    if (!((Int.tmod (i64.wrap (Int.tdiv (x.Reg 0) 32)) 2) == 1)) = true then
      if (decide (x.Kind > 1)) = true then
        ({ x with Reg := (stN 4 (fun _ => 0) x.Reg), Length := (if 0 > (i64.wrap (x.Length - 1)) then 0 else (i64.wrap (x.Length - 1))) } : RTone)
      else
        if (x.Sweep == 0) = true then
          if (decide ((x.Reg 1) ≥ 128)) = true then
            if (decide ((Int.tmod (x.Reg 1) 8) > 0)) = true then
              if (!(rMute ({ x with Length := (if 0 > (i64.wrap (x.Length - 1)) then 0 else (i64.wrap (x.Length - 1))) } : RTone))) = true then
                ({ x with Reg := (stN 4 (fun _ => 0) x.Reg), Length := (if 0 > (i64.wrap (x.Length - 1)) then 0 else (i64.wrap (x.Length - 1))), Period := (rTarget ({ x with Length := (if 0 > (i64.wrap (x.Length - 1)) then 0 else (i64.wrap (x.Length - 1))) } : RTone)), Swept := false, Sweep := (Int.tmod (i64.wrap (Int.tdiv (x.Reg 1) 16)) 8) } : RTone)
              else
                ({ x with Reg := (stN 4 (fun _ => 0) x.Reg), Length := (if 0 > (i64.wrap (x.Length - 1)) then 0 else (i64.wrap (x.Length - 1))), Swept := false, Sweep := (Int.tmod (i64.wrap (Int.tdiv (x.Reg 1) 16)) 8) } : RTone)
            else
              ({ x with Reg := (stN 4 (fun _ => 0) x.Reg), Length := (if 0 > (i64.wrap (x.Length - 1)) then 0 else (i64.wrap (x.Length - 1))), Swept := false, Sweep := (Int.tmod (i64.wrap (Int.tdiv (x.Reg 1) 16)) 8) } : RTone)
          else
            ({ x with Reg := (stN 4 (fun _ => 0) x.Reg), Length := (if 0 > (i64.wrap (x.Length - 1)) then 0 else (i64.wrap (x.Length - 1))), Swept := false, Sweep := (Int.tmod (i64.wrap (Int.tdiv (x.Reg 1) 16)) 8) } : RTone)
        else
          if x.Swept = true then
            ({ x with Reg := (stN 4 (fun _ => 0) x.Reg), Length := (if 0 > (i64.wrap (x.Length - 1)) then 0 else (i64.wrap (x.Length - 1))), Swept := false, Sweep := (Int.tmod (i64.wrap (Int.tdiv (x.Reg 1) 16)) 8) } : RTone)
          else
            ({ x with Reg := (stN 4 (fun _ => 0) x.Reg), Length := (if 0 > (i64.wrap (x.Length - 1)) then 0 else (i64.wrap (x.Length - 1))), Swept := false, Sweep := (i64.wrap (x.Sweep - 1)) } : RTone)
    else
      if (decide (x.Kind > 1)) = true then
        ({ x with Reg := (stN 4 (fun _ => 0) x.Reg) } : RTone)
      else
        if (x.Sweep == 0) = true then
          if (decide ((x.Reg 1) ≥ 128)) = true then
            if (decide ((Int.tmod (x.Reg 1) 8) > 0)) = true then
              if (!(rMute x)) = true then
                ({ x with Reg := (stN 4 (fun _ => 0) x.Reg), Period := (rTarget x), Swept := false, Sweep := (Int.tmod (i64.wrap (Int.tdiv (x.Reg 1) 16)) 8) } : RTone)
              else
                ({ x with Reg := (stN 4 (fun _ => 0) x.Reg), Swept := false, Sweep := (Int.tmod (i64.wrap (Int.tdiv (x.Reg 1) 16)) 8) } : RTone)
            else
              ({ x with Reg := (stN 4 (fun _ => 0) x.Reg), Swept := false, Sweep := (Int.tmod (i64.wrap (Int.tdiv (x.Reg 1) 16)) 8) } : RTone)
          else
            ({ x with Reg := (stN 4 (fun _ => 0) x.Reg), Swept := false, Sweep := (Int.tmod (i64.wrap (Int.tdiv (x.Reg 1) 16)) 8) } : RTone)
        else
          if x.Swept = true then
            ({ x with Reg := (stN 4 (fun _ => 0) x.Reg), Swept := false, Sweep := (Int.tmod (i64.wrap (Int.tdiv (x.Reg 1) 16)) 8) } : RTone)
          else
            ({ x with Reg := (stN 4 (fun _ => 0) x.Reg), Swept := false, Sweep := (i64.wrap (x.Sweep - 1)) } : RTone)
theorem rHalf_ok (x : RTone) (hg : Good x) : FnSpec Tryd.prog 64 1000 [RTone.enc x] [] (RTone.enc (rHalf x)) [] := by
  unfold rHalf
  rcases bt (x.Kind == 2) with c1 | c1
  · rw [if_pos c1]
    rcases bt (!(decide ((x.Reg 0) ≥ 128))) with c2 | c2
    · rw [if_pos c2]
      rcases bt (decide (x.Kind > 1)) with c3 | c3
      · rw [if_pos c3]
        exact fn_of_x hG hM Tryd.func64 (by kernel_rfl) (by kernel_rfl) 400 [.group [1, 1, 4, 1, 1, 1, 1, 1, 1, 1, 1, 1, 1, 1], .segs [.one (.int .i64 0), .one (.bool false), .ints .i64 4 (fun _ => 0), .one (.int .i64 0), .one (.int .i64 0), .one (.int .i64 0), .one (.int .i64 0), .one (.bool false), .one (.bool false), .one (.int .i64 0), .one (.int .i64 0), .one (.int .i64 0), .one (.int .i64 0), .one (.slice none 0 0)], .lit 0, .yes, .lit 0, .yes, .yes] (J (Eq.refl (0 : Int)) (J (by decide : 0 < 4) (J (by decide : ((32 : Int) ≠ 0)) (J (by decide : ((2 : Int) ≠ 0)) (J c1 (J (Eq.refl (0 : Int)) (J (by decide : 0 < 4) (J c2 (J c3 trivial))))))))) (by kernel_rfl)
      · rw [if_neg (nt c3)]
        rcases bt (x.Sweep == 0) with c4 | c4
        · rw [if_pos c4]
          rcases bt (decide ((x.Reg 1) ≥ 128)) with c5 | c5
          · rw [if_pos c5]
            rcases bt (decide ((Int.tmod (x.Reg 1) 8) > 0)) with c6 | c6
            · rw [if_pos c6]
              rcases bt (!(rMute ({ x with Length := (if 0 > (i64.wrap (x.Length - 1)) then 0 else (i64.wrap (x.Length - 1))) } : RTone))) with c7 | c7
              · rw [if_pos c7]
                exact fn_of_x hG hM Tryd.func64 (by kernel_rfl) (by kernel_rfl) 400 [.group [1, 1, 4, 1, 1, 1, 1, 1, 1, 1, 1, 1, 1, 1], .segs [.one (.int .i64 0), .one (.bool false), .ints .i64 4 (fun _ => 0), .one (.int .i64 0), .one (.int .i64 0), .one (.int .i64 0), .one (.int .i64 0), .one (.bool false), .one (.bool false), .one (.int .i64 0), .one (.int .i64 0), .one (.int .i64 0), .one (.int .i64 0), .one (.slice none 0 0)], .lit 0, .yes, .lit 0, .yes, .no, .yes, .yes, .lit 1, .yes, .yes, .yes, .yes, .yes, .lit 1, .yes, .yes, .yes, .yes, .yes, .yes, .call [] [] 1000 (.bool (rMute ({ x with Length := (if 0 > (i64.wrap (x.Length - 1)) then 0 else (i64.wrap (x.Length - 1))) } : RTone))) [], .yes, .yes, .yes, .call [] [] 1000 (.int .i64 (rTarget ({ x with Length := (if 0 > (i64.wrap (x.Length - 1)) then 0 else (i64.wrap (x.Length - 1))) } : RTone))) [], .yes, .yes, .yes, .yes, .lit 1] (J (Eq.refl (0 : Int)) (J (by decide : 0 < 4) (J (by decide : ((32 : Int) ≠ 0)) (J (by decide : ((2 : Int) ≠ 0)) (J c1 (J (Eq.refl (0 : Int)) (J (by decide : 0 < 4) (J c2 (J c3 (J c4 (J c4 (J (Eq.refl (1 : Int)) (J (by decide : 1 < 4) (J c4 (J c4 (J c4 (J c5 (J c5 (J (Eq.refl (1 : Int)) (J (by decide : 1 < 4) (J c5 (J c5 (J (by decide : ((8 : Int) ≠ 0)) (J c5 (J c5 (J c6 (J c6 (J (rMute_ok ({ x with Length := (if 0 > (i64.wrap (x.Length - 1)) then 0 else (i64.wrap (x.Length - 1))) } : RTone) (⟨hg.reg, hg.period, hg.step, hg.kind⟩ : Good ({ x with Length := (if 0 > (i64.wrap (x.Length - 1)) then 0 else (i64.wrap (x.Length - 1))) } : RTone))) (J c6 (J c6 (J c7 (J (rTarget_ok ({ x with Length := (if 0 > (i64.wrap (x.Length - 1)) then 0 else (i64.wrap (x.Length - 1))) } : RTone) (⟨hg.reg, hg.period, hg.step, hg.kind⟩ : Good ({ x with Length := (if 0 > (i64.wrap (x.Length - 1)) then 0 else (i64.wrap (x.Length - 1))) } : RTone))) (J c4 (J c4 (J c4 (J T1 (J (Eq.refl (1 : Int)) (J (by decide : 1 < 4) (J (by decide : ((16 : Int) ≠ 0)) (J (by decide : ((8 : Int) ≠ 0)) trivial)))))))))))))))))))))))))))))))))))))))) (by kernel_rfl)
              · rw [if_neg (nt c7)]
                exact fn_of_x hG hM Tryd.func64 (by kernel_rfl) (by kernel_rfl) 400 [.group [1, 1, 4, 1, 1, 1, 1, 1, 1, 1, 1, 1, 1, 1], .segs [.one (.int .i64 0), .one (.bool false), .ints .i64 4 (fun _ => 0), .one (.int .i64 0), .one (.int .i64 0), .one (.int .i64 0), .one (.int .i64 0), .one (.bool false), .one (.bool false), .one (.int .i64 0), .one (.int .i64 0), .one (.int .i64 0), .one (.int .i64 0), .one (.slice none 0 0)], .lit 0, .yes, .lit 0, .yes, .no, .yes, .yes, .lit 1, .yes, .yes, .yes, .yes, .yes, .lit 1, .yes, .yes, .yes, .yes, .yes, .yes, .call [] [] 1000 (.bool (rMute ({ x with Length := (if 0 > (i64.wrap (x.Length - 1)) then 0 else (i64.wrap (x.Length - 1))) } : RTone))) [], .yes, .yes, .no, .yes, .yes, .yes, .yes, .lit 1] (J (Eq.refl (0 : Int)) (J (by decide : 0 < 4) (J (by decide : ((32 : Int) ≠ 0)) (J (by decide : ((2 : Int) ≠ 0)) (J c1 (J (Eq.refl (0 : Int)) (J (by decide : 0 < 4) (J c2 (J c3 (J c4 (J c4 (J (Eq.refl (1 : Int)) (J (by decide : 1 < 4) (J c4 (J c4 (J c4 (J c5 (J c5 (J (Eq.refl (1 : Int)) (J (by decide : 1 < 4) (J c5 (J c5 (J (by decide : ((8 : Int) ≠ 0)) (J c5 (J c5 (J c6 (J c6 (J (rMute_ok ({ x with Length := (if 0 > (i64.wrap (x.Length - 1)) then 0 else (i64.wrap (x.Length - 1))) } : RTone) (⟨hg.reg, hg.period, hg.step, hg.kind⟩ : Good ({ x with Length := (if 0 > (i64.wrap (x.Length - 1)) then 0 else (i64.wrap (x.Length - 1))) } : RTone))) (J c6 (J c6 (J c7 (J c4 (J c4 (J c4 (J T1 (J (Eq.refl (1 : Int)) (J (by decide : 1 < 4) (J (by decide : ((16 : Int) ≠ 0)) (J (by decide : ((8 : Int) ≠ 0)) trivial))))))))))))))))))))))))))))))))))))))) (by kernel_rfl)
            · rw [if_neg (nt c6)]
              exact fn_of_x hG hM Tryd.func64 (by kernel_rfl) (by kernel_rfl) 400 [.group [1, 1, 4, 1, 1, 1, 1, 1, 1, 1, 1, 1, 1, 1], .segs [.one (.int .i64 0), .one (.bool false), .ints .i64 4 (fun _ => 0), .one (.int .i64 0), .one (.int .i64 0), .one (.int .i64 0), .one (.int .i64 0), .one (.bool false), .one (.bool false), .one (.int .i64 0), .one (.int .i64 0), .one (.int .i64 0), .one (.int .i64 0), .one (.slice none 0 0)], .lit 0, .yes, .lit 0, .yes, .no, .yes, .yes, .lit 1, .yes, .yes, .yes, .yes, .yes, .lit 1, .yes, .yes, .yes, .yes, .no, .no, .no, .no, .no, .yes, .yes, .yes, .yes, .lit 1] (J (Eq.refl (0 : Int)) (J (by decide : 0 < 4) (J (by decide : ((32 : Int) ≠ 0)) (J (by decide : ((2 : Int) ≠ 0)) (J c1 (J (Eq.refl (0 : Int)) (J (by decide : 0 < 4) (J c2 (J c3 (J c4 (J c4 (J (Eq.refl (1 : Int)) (J (by decide : 1 < 4) (J c4 (J c4 (J c4 (J c5 (J c5 (J (Eq.refl (1 : Int)) (J (by decide : 1 < 4) (J c5 (J c5 (J (by decide : ((8 : Int) ≠ 0)) (J c5 (J c5 (J c6 (J c6 (J c6 (J c6 (J T0 (J c4 (J c4 (J c4 (J T1 (J (Eq.refl (1 : Int)) (J (by decide : 1 < 4) (J (by decide : ((16 : Int) ≠ 0)) (J (by decide : ((8 : Int) ≠ 0)) trivial)))))))))))))))))))))))))))))))))))))) (by kernel_rfl)
          · rw [if_neg (nt c5)]
            exact fn_of_x hG hM Tryd.func64 (by kernel_rfl) (by kernel_rfl) 400 [.group [1, 1, 4, 1, 1, 1, 1, 1, 1, 1, 1, 1, 1, 1], .segs [.one (.int .i64 0), .one (.bool false), .ints .i64 4 (fun _ => 0), .one (.int .i64 0), .one (.int .i64 0), .one (.int .i64 0), .one (.int .i64 0), .one (.bool false), .one (.bool false), .one (.int .i64 0), .one (.int .i64 0), .one (.int .i64 0), .one (.int .i64 0), .one (.slice none 0 0)], .lit 0, .yes, .lit 0, .yes, .no, .yes, .yes, .lit 1, .yes, .yes, .yes, .no, .no, .no, .no, .no, .no, .no, .no, .no, .no, .no, .yes, .yes, .yes, .yes, .lit 1] (J (Eq.refl (0 : Int)) (J (by decide : 0 < 4) (J (by decide : ((32 : Int) ≠ 0)) (J (by decide : ((2 : Int) ≠ 0)) (J c1 (J (Eq.refl (0 : Int)) (J (by decide : 0 < 4) (J c2 (J c3 (J c4 (J c4 (J (Eq.refl (1 : Int)) (J (by decide : 1 < 4) (J c4 (J c4 (J c4 (J c5 (J c5 (J c5 (J c5 (J c5 (J c5 (J T0 (J T0 (J T0 (J T0 (J T0 (J c4 (J c4 (J c4 (J T1 (J (Eq.refl (1 : Int)) (J (by decide : 1 < 4) (J (by decide : ((16 : Int) ≠ 0)) (J (by decide : ((8 : Int) ≠ 0)) trivial))))))))))))))))))))))))))))))))))) (by kernel_rfl)
        · rw [if_neg (nt c4)]
          rcases bt x.Swept with c5 | c5
          · rw [if_pos c5]
            exact fn_of_x hG hM Tryd.func64 (by kernel_rfl) (by kernel_rfl) 400 [.group [1, 1, 4, 1, 1, 1, 1, 1, 1, 1, 1, 1, 1, 1], .segs [.one (.int .i64 0), .one (.bool false), .ints .i64 4 (fun _ => 0), .one (.int .i64 0), .one (.int .i64 0), .one (.int .i64 0), .one (.int .i64 0), .one (.bool false), .one (.bool false), .one (.int .i64 0), .one (.int .i64 0), .one (.int .i64 0), .one (.int .i64 0), .one (.slice none 0 0)], .lit 0, .yes, .lit 0, .yes, .no, .no, .no, .no, .no, .no, .no, .no, .no, .no, .no, .no, .no, .no, .no, .no, .no, .no, .no, .no, .yes, .lit 1] (J (Eq.refl (0 : Int)) (J (by decide : 0 < 4) (J (by decide : ((32 : Int) ≠ 0)) (J (by decide : ((2 : Int) ≠ 0)) (J c1 (J (Eq.refl (0 : Int)) (J (by decide : 0 < 4) (J c2 (J c3 (J c4 (J c4 (J c4 (J c4 (J c4 (J T0 (J T0 (J T0 (J T0 (J T0 (J T0 (J T0 (J T0 (J T0 (J T0 (J T0 (J c4 (J c4 (J c4 (J c5 (J (Eq.refl (1 : Int)) (J (by decide : 1 < 4) (J (by decide : ((16 : Int) ≠ 0)) (J (by decide : ((8 : Int) ≠ 0)) trivial))))))))))))))))))))))))))))))))) (by kernel_rfl)
          · rw [if_neg (nt c5)]
            exact fn_of_x hG hM Tryd.func64 (by kernel_rfl) (by kernel_rfl) 400 [.group [1, 1, 4, 1, 1, 1, 1, 1, 1, 1, 1, 1, 1, 1], .segs [.one (.int .i64 0), .one (.bool false), .ints .i64 4 (fun _ => 0), .one (.int .i64 0), .one (.int .i64 0), .one (.int .i64 0), .one (.int .i64 0), .one (.bool false), .one (.bool false), .one (.int .i64 0), .one (.int .i64 0), .one (.int .i64 0), .one (.int .i64 0), .one (.slice none 0 0)], .lit 0, .yes, .lit 0, .yes, .no, .no, .no, .no, .no, .no, .no, .no, .no, .no, .no, .no, .no, .no, .no, .no, .no, .no, .no, .no, .no] (J (Eq.refl (0 : Int)) (J (by decide : 0 < 4) (J (by decide : ((32 : Int) ≠ 0)) (J (by decide : ((2 : Int) ≠ 0)) (J c1 (J (Eq.refl (0 : Int)) (J (by decide : 0 < 4) (J c2 (J c3 (J c4 (J c4 (J c4 (J c4 (J c4 (J T0 (J T0 (J T0 (J T0 (J T0 (J T0 (J T0 (J T0 (J T0 (J T0 (J T0 (J c4 (J c4 (J c4 (J c5 trivial))))))))))))))))))))))))))))) (by kernel_rfl)
    · rw [if_neg (nt c2)]
      rcases bt (decide (x.Kind > 1)) with c3 | c3
      · rw [if_pos c3]
        exact fn_of_x hG hM Tryd.func64 (by kernel_rfl) (by kernel_rfl) 400 [.group [1, 1, 4, 1, 1, 1, 1, 1, 1, 1, 1, 1, 1, 1], .segs [.one (.int .i64 0), .one (.bool false), .ints .i64 4 (fun _ => 0), .one (.int .i64 0), .one (.int .i64 0), .one (.int .i64 0), .one (.int .i64 0), .one (.bool false), .one (.bool false), .one (.int .i64 0), .one (.int .i64 0), .one (.int .i64 0), .one (.int .i64 0), .one (.slice none 0 0)], .lit 0, .yes, .lit 0, .no, .yes] (J (Eq.refl (0 : Int)) (J (by decide : 0 < 4) (J (by decide : ((32 : Int) ≠ 0)) (J (by decide : ((2 : Int) ≠ 0)) (J c1 (J (Eq.refl (0 : Int)) (J (by decide : 0 < 4) (J c2 (J c3 trivial))))))))) (by kernel_rfl)
      · rw [if_neg (nt c3)]
        rcases bt (x.Sweep == 0) with c4 | c4
        · rw [if_pos c4]
          rcases bt (decide ((x.Reg 1) ≥ 128)) with c5 | c5
          · rw [if_pos c5]
            rcases bt (decide ((Int.tmod (x.Reg 1) 8) > 0)) with c6 | c6
            · rw [if_pos c6]
              rcases bt (!(rMute x)) with c7 | c7
              · rw [if_pos c7]
                exact fn_of_x hG hM Tryd.func64 (by kernel_rfl) (by kernel_rfl) 400 [.group [1, 1, 4, 1, 1, 1, 1, 1, 1, 1, 1, 1, 1, 1], .segs [.one (.int .i64 0), .one (.bool false), .ints .i64 4 (fun _ => 0), .one (.int .i64 0), .one (.int .i64 0), .one (.int .i64 0), .one (.int .i64 0), .one (.bool false), .one (.bool false), .one (.int .i64 0), .one (.int .i64 0), .one (.int .i64 0), .one (.int .i64 0), .one (.slice none 0 0)], .lit 0, .yes, .lit 0, .no, .no, .yes, .yes, .lit 1, .yes, .yes, .yes, .yes, .yes, .lit 1, .yes, .yes, .yes, .yes, .yes, .yes, .call [] [] 1000 (.bool (rMute x)) [], .yes, .yes, .yes, .call [] [] 1000 (.int .i64 (rTarget x)) [], .yes, .yes, .yes, .yes, .lit 1] (J (Eq.refl (0 : Int)) (J (by decide : 0 < 4) (J (by decide : ((32 : Int) ≠ 0)) (J (by decide : ((2 : Int) ≠ 0)) (J c1 (J (Eq.refl (0 : Int)) (J (by decide : 0 < 4) (J c2 (J c3 (J c4 (J c4 (J (Eq.refl (1 : Int)) (J (by decide : 1 < 4) (J c4 (J c4 (J c4 (J c5 (J c5 (J (Eq.refl (1 : Int)) (J (by decide : 1 < 4) (J c5 (J c5 (J (by decide : ((8 : Int) ≠ 0)) (J c5 (J c5 (J c6 (J c6 (J (rMute_ok x hg) (J c6 (J c6 (J c7 (J (rTarget_ok x hg) (J c4 (J c4 (J c4 (J T1 (J (Eq.refl (1 : Int)) (J (by decide : 1 < 4) (J (by decide : ((16 : Int) ≠ 0)) (J (by decide : ((8 : Int) ≠ 0)) trivial)))))))))))))))))))))))))))))))))))))))) (by kernel_rfl)
              · rw [if_neg (nt c7)]
                exact fn_of_x hG hM Tryd.func64 (by kernel_rfl) (by kernel_rfl) 400 [.group [1, 1, 4, 1, 1, 1, 1, 1, 1, 1, 1, 1, 1, 1], .segs [.one (.int .i64 0), .one (.bool false), .ints .i64 4 (fun _ => 0), .one (.int .i64 0), .one (.int .i64 0), .one (.int .i64 0), .one (.int .i64 0), .one (.bool false), .one (.bool false), .one (.int .i64 0), .one (.int .i64 0), .one (.int .i64 0), .one (.int .i64 0), .one (.slice none 0 0)], .lit 0, .yes, .lit 0, .no, .no, .yes, .yes, .lit 1, .yes, .yes, .yes, .yes, .yes, .lit 1, .yes, .yes, .yes, .yes, .yes, .yes, .call [] [] 1000 (.bool (rMute x)) [], .yes, .yes, .no, .yes, .yes, .yes, .yes, .lit 1] (J (Eq.refl (0 : Int)) (J (by decide : 0 < 4) (J (by decide : ((32 : Int) ≠ 0)) (J (by decide : ((2 : Int) ≠ 0)) (J c1 (J (Eq.refl (0 : Int)) (J (by decide : 0 < 4) (J c2 (J c3 (J c4 (J c4 (J (Eq.refl (1 : Int)) (J (by decide : 1 < 4) (J c4 (J c4 (J c4 (J c5 (J c5 (J (Eq.refl (1 : Int)) (J (by decide : 1 < 4) (J c5 (J c5 (J (by decide : ((8 : Int) ≠ 0)) (J c5 (J c5 (J c6 (J c6 (J (rMute_ok x hg) (J c6 (J c6 (J c7 (J c4 (J c4 (J c4 (J T1 (J (Eq.refl (1 : Int)) (J (by decide : 1 < 4) (J (by decide : ((16 : Int) ≠ 0)) (J (by decide : ((8 : Int) ≠ 0)) trivial))))))))))))))))))))))))))))))))))))))) (by kernel_rfl)
            · rw [if_neg (nt c6)]
              exact fn_of_x hG hM Tryd.func64 (by kernel_rfl) (by kernel_rfl) 400 [.group [1, 1, 4, 1, 1, 1, 1, 1, 1, 1, 1, 1, 1, 1], .segs [.one (.int .i64 0), .one (.bool false), .ints .i64 4 (fun _ => 0), .one (.int .i64 0), .one (.int .i64 0), .one (.int .i64 0), .one (.int .i64 0), .one (.bool false), .one (.bool false), .one (.int .i64 0), .one (.int .i64 0), .one (.int .i64 0), .one (.int .i64 0), .one (.slice none 0 0)], .lit 0, .yes, .lit 0, .no, .no, .yes, .yes, .lit 1, .yes, .yes, .yes, .yes, .yes, .lit 1, .yes, .yes, .yes, .yes, .no, .no, .no, .no, .no, .yes, .yes, .yes, .yes, .lit 1] (J (Eq.refl (0 : Int)) (J (by decide : 0 < 4) (J (by decide : ((32 : Int) ≠ 0)) (J (by decide : ((2 : Int) ≠ 0)) (J c1 (J (Eq.refl (0 : Int)) (J (by decide : 0 < 4) (J c2 (J c3 (J c4 (J c4 (J (Eq.refl (1 : Int)) (J (by decide : 1 < 4) (J c4 (J c4 (J c4 (J c5 (J c5 (J (Eq.refl (1 : Int)) (J (by decide : 1 < 4) (J c5 (J c5 (J (by decide : ((8 : Int) ≠ 0)) (J c5 (J c5 (J c6 (J c6 (J c6 (J c6 (J T0 (J c4 (J c4 (J c4 (J T1 (J (Eq.refl (1 : Int)) (J (by decide : 1 < 4) (J (by decide : ((16 : Int) ≠ 0)) (J (by decide : ((8 : Int) ≠ 0)) trivial)))))))))))))))))))))))))))))))))))))) (by kernel_rfl)
          · rw [if_neg (nt c5)]
            exact fn_of_x hG hM Tryd.func64 (by kernel_rfl) (by kernel_rfl) 400 [.group [1, 1, 4, 1, 1, 1, 1, 1, 1, 1, 1, 1, 1, 1], .segs [.one (.int .i64 0), .one (.bool false), .ints .i64 4 (fun _ => 0), .one (.int .i64 0), .one (.int .i64 0), .one (.int .i64 0), .one (.int .i64 0), .one (.bool false), .one (.bool false), .one (.int .i64 0), .one (.int .i64 0), .one (.int .i64 0), .one (.int .i64 0), .one (.slice none 0 0)], .lit 0, .yes, .lit 0, .no, .no, .yes, .yes, .lit 1, .yes, .yes, .yes, .no, .no, .no, .no, .no, .no, .no, .no, .no, .no, .no, .yes, .yes, .yes, .yes, .lit 1] (J (Eq.refl (0 : Int)) (J (by decide : 0 < 4) (J (by decide : ((32 : Int) ≠ 0)) (J (by decide : ((2 : Int) ≠ 0)) (J c1 (J (Eq.refl (0 : Int)) (J (by decide : 0 < 4) (J c2 (J c3 (J c4 (J c4 (J (Eq.refl (1 : Int)) (J (by decide : 1 < 4) (J c4 (J c4 (J c4 (J c5 (J c5 (J c5 (J c5 (J c5 (J c5 (J T0 (J T0 (J T0 (J T0 (J T0 (J c4 (J c4 (J c4 (J T1 (J (Eq.refl (1 : Int)) (J (by decide : 1 < 4) (J (by decide : ((16 : Int) ≠ 0)) (J (by decide : ((8 : Int) ≠ 0)) trivial))))))))))))))))))))))))))))))))))) (by kernel_rfl)
        · rw [if_neg (nt c4)]
          rcases bt x.Swept with c5 | c5
          · rw [if_pos c5]
            exact fn_of_x hG hM Tryd.func64 (by kernel_rfl) (by kernel_rfl) 400 [.group [1, 1, 4, 1, 1, 1, 1, 1, 1, 1, 1, 1, 1, 1], .segs [.one (.int .i64 0), .one (.bool false), .ints .i64 4 (fun _ => 0), .one (.int .i64 0), .one (.int .i64 0), .one (.int .i64 0), .one (.int .i64 0), .one (.bool false), .one (.bool false), .one (.int .i64 0), .one (.int .i64 0), .one (.int .i64 0), .one (.int .i64 0), .one (.slice none 0 0)], .lit 0, .yes, .lit 0, .no, .no, .no, .no, .no, .no, .no, .no, .no, .no, .no, .no, .no, .no, .no, .no, .no, .no, .no, .no, .no, .yes, .lit 1] (J (Eq.refl (0 : Int)) (J (by decide : 0 < 4) (J (by decide : ((32 : Int) ≠ 0)) (J (by decide : ((2 : Int) ≠ 0)) (J c1 (J (Eq.refl (0 : Int)) (J (by decide : 0 < 4) (J c2 (J c3 (J c4 (J c4 (J c4 (J c4 (J c4 (J T0 (J T0 (J T0 (J T0 (J T0 (J T0 (J T0 (J T0 (J T0 (J T0 (J T0 (J c4 (J c4 (J c4 (J c5 (J (Eq.refl (1 : Int)) (J (by decide : 1 < 4) (J (by decide : ((16 : Int) ≠ 0)) (J (by decide : ((8 : Int) ≠ 0)) trivial))))))))))))))))))))))))))))))))) (by kernel_rfl)
          · rw [if_neg (nt c5)]
            exact fn_of_x hG hM Tryd.func64 (by kernel_rfl) (by kernel_rfl) 400 [.group [1, 1, 4, 1, 1, 1, 1, 1, 1, 1, 1, 1, 1, 1], .segs [.one (.int .i64 0), .one (.bool false), .ints .i64 4 (fun _ => 0), .one (.int .i64 0), .one (.int .i64 0), .one (.int .i64 0), .one (.int .i64 0), .one (.bool false), .one (.bool false), .one (.int .i64 0), .one (.int .i64 0), .one (.int .i64 0), .one (.int .i64 0), .one (.slice none 0 0)], .lit 0, .yes, .lit 0, .no, .no, .no, .no, .no, .no, .no, .no, .no, .no, .no, .no, .no, .no, .no, .no, .no, .no, .no, .no, .no, .no] (J (Eq.refl (0 : Int)) (J (by decide : 0 < 4) (J (by decide : ((32 : Int) ≠ 0)) (J (by decide : ((2 : Int) ≠ 0)) (J c1 (J (Eq.refl (0 : Int)) (J (by decide : 0 < 4) (J c2 (J c3 (J c4 (J c4 (J c4 (J c4 (J c4 (J T0 (J T0 (J T0 (J T0 (J T0 (J T0 (J T0 (J T0 (J T0 (J T0 (J T0 (J c4 (J c4 (J c4 (J c5 trivial))))))))))))))))))))))))))))) (by kernel_rfl)
  · rw [if_neg (nt c1)]
    rcases bt (!((Int.tmod (i64.wrap (Int.tdiv (x.Reg 0) 32)) 2) == 1)) with c2 | c2
    · rw [if_pos c2]
      rcases bt (decide (x.Kind > 1)) with c3 | c3
      · rw [if_pos c3]
        exact fn_of_x hG hM Tryd.func64 (by kernel_rfl) (by kernel_rfl) 400 [.group [1, 1, 4, 1, 1, 1, 1, 1, 1, 1, 1, 1, 1, 1], .segs [.one (.int .i64 0), .one (.bool false), .ints .i64 4 (fun _ => 0), .one (.int .i64 0), .one (.int .i64 0), .one (.int .i64 0), .one (.int .i64 0), .one (.bool false), .one (.bool false), .one (.int .i64 0), .one (.int .i64 0), .one (.int .i64 0), .one (.int .i64 0), .one (.slice none 0 0)], .lit 0, .no, .yes, .yes] (J (Eq.refl (0 : Int)) (J (by decide : 0 < 4) (J (by decide : ((32 : Int) ≠ 0)) (J (by decide : ((2 : Int) ≠ 0)) (J c1 (J c2 (J c3 trivial))))))) (by kernel_rfl)
      · rw [if_neg (nt c3)]
        rcases bt (x.Sweep == 0) with c4 | c4
        · rw [if_pos c4]
          rcases bt (decide ((x.Reg 1) ≥ 128)) with c5 | c5
          · rw [if_pos c5]
            rcases bt (decide ((Int.tmod (x.Reg 1) 8) > 0)) with c6 | c6
            · rw [if_pos c6]
              rcases bt (!(rMute ({ x with Length := (if 0 > (i64.wrap (x.Length - 1)) then 0 else (i64.wrap (x.Length - 1))) } : RTone))) with c7 | c7
              · rw [if_pos c7]
                exact fn_of_x hG hM Tryd.func64 (by kernel_rfl) (by kernel_rfl) 400 [.group [1, 1, 4, 1, 1, 1, 1, 1, 1, 1, 1, 1, 1, 1], .segs [.one (.int .i64 0), .one (.bool false), .ints .i64 4 (fun _ => 0), .one (.int .i64 0), .one (.int .i64 0), .one (.int .i64 0), .one (.int .i64 0), .one (.bool false), .one (.bool false), .one (.int .i64 0), .one (.int .i64 0), .one (.int .i64 0), .one (.int .i64 0), .one (.slice none 0 0)], .lit 0, .no, .yes, .no, .yes, .yes, .lit 1, .yes, .yes, .yes, .yes, .yes, .lit 1, .yes, .yes, .yes, .yes, .yes, .yes, .call [] [] 1000 (.bool (rMute ({ x with Length := (if 0 > (i64.wrap (x.Length - 1)) then 0 else (i64.wrap (x.Length - 1))) } : RTone))) [], .yes, .yes, .yes, .call [] [] 1000 (.int .i64 (rTarget ({ x with Length := (if 0 > (i64.wrap (x.Length - 1)) then 0 else (i64.wrap (x.Length - 1))) } : RTone))) [], .yes, .yes, .yes, .yes, .lit 1] (J (Eq.refl (0 : Int)) (J (by decide : 0 < 4) (J (by decide : ((32 : Int) ≠ 0)) (J (by decide : ((2 : Int) ≠ 0)) (J c1 (J c2 (J c3 (J c4 (J c4 (J (Eq.refl (1 : Int)) (J (by decide : 1 < 4) (J c4 (J c4 (J c4 (J c5 (J c5 (J (Eq.refl (1 : Int)) (J (by decide : 1 < 4) (J c5 (J c5 (J (by decide : ((8 : Int) ≠ 0)) (J c5 (J c5 (J c6 (J c6 (J (rMute_ok ({ x with Length := (if 0 > (i64.wrap (x.Length - 1)) then 0 else (i64.wrap (x.Length - 1))) } : RTone) (⟨hg.reg, hg.period, hg.step, hg.kind⟩ : Good ({ x with Length := (if 0 > (i64.wrap (x.Length - 1)) then 0 else (i64.wrap (x.Length - 1))) } : RTone))) (J c6 (J c6 (J c7 (J (rTarget_ok ({ x with Length := (if 0 > (i64.wrap (x.Length - 1)) then 0 else (i64.wrap (x.Length - 1))) } : RTone) (⟨hg.reg, hg.period, hg.step, hg.kind⟩ : Good ({ x with Length := (if 0 > (i64.wrap (x.Length - 1)) then 0 else (i64.wrap (x.Length - 1))) } : RTone))) (J c4 (J c4 (J c4 (J T1 (J (Eq.refl (1 : Int)) (J (by decide : 1 < 4) (J (by decide : ((16 : Int) ≠ 0)) (J (by decide : ((8 : Int) ≠ 0)) trivial)))))))))))))))))))))))))))))))))))))) (by kernel_rfl)
              · rw [if_neg (nt c7)]
                exact fn_of_x hG hM Tryd.func64 (by kernel_rfl) (by kernel_rfl) 400 [.group [1, 1, 4, 1, 1, 1, 1, 1, 1, 1, 1, 1, 1, 1], .segs [.one (.int .i64 0), .one (.bool false), .ints .i64 4 (fun _ => 0), .one (.int .i64 0), .one (.int .i64 0), .one (.int .i64 0), .one (.int .i64 0), .one (.bool false), .one (.bool false), .one (.int .i64 0), .one (.int .i64 0), .one (.int .i64 0), .one (.int .i64 0), .one (.slice none 0 0)], .lit 0, .no, .yes, .no, .yes, .yes, .lit 1, .yes, .yes, .yes, .yes, .yes, .lit 1, .yes, .yes, .yes, .yes, .yes, .yes, .call [] [] 1000 (.bool (rMute ({ x with Length := (if 0 > (i64.wrap (x.Length - 1)) then 0 else (i64.wrap (x.Length - 1))) } : RTone))) [], .yes, .yes, .no, .yes, .yes, .yes, .yes, .lit 1] (J (Eq.refl (0 : Int)) (J (by decide : 0 < 4) (J (by decide : ((32 : Int) ≠ 0)) (J (by decide : ((2 : Int) ≠ 0)) (J c1 (J c2 (J c3 (J c4 (J c4 (J (Eq.refl (1 : Int)) (J (by decide : 1 < 4) (J c4 (J c4 (J c4 (J c5 (J c5 (J (Eq.refl (1 : Int)) (J (by decide : 1 < 4) (J c5 (J c5 (J (by decide : ((8 : Int) ≠ 0)) (J c5 (J c5 (J c6 (J c6 (J (rMute_ok ({ x with Length := (if 0 > (i64.wrap (x.Length - 1)) then 0 else (i64.wrap (x.Length - 1))) } : RTone) (⟨hg.reg, hg.period, hg.step, hg.kind⟩ : Good ({ x with Length := (if 0 > (i64.wrap (x.Length - 1)) then 0 else (i64.wrap (x.Length - 1))) } : RTone))) (J c6 (J c6 (J c7 (J c4 (J c4 (J c4 (J T1 (J (Eq.refl (1 : Int)) (J (by decide : 1 < 4) (J (by decide : ((16 : Int) ≠ 0)) (J (by decide : ((8 : Int) ≠ 0)) trivial))))))))))))))))))))))))))))))))))))) (by kernel_rfl)
            · rw [if_neg (nt c6)]
              exact fn_of_x hG hM Tryd.func64 (by kernel_rfl) (by kernel_rfl) 400 [.group [1, 1, 4, 1, 1, 1, 1, 1, 1, 1, 1, 1, 1, 1], .segs [.one (.int .i64 0), .one (.bool false), .ints .i64 4 (fun _ => 0), .one (.int .i64 0), .one (.int .i64 0), .one (.int .i64 0), .one (.int .i64 0), .one (.bool false), .one (.bool false), .one (.int .i64 0), .one (.int .i64 0), .one (.int .i64 0), .one (.int .i64 0), .one (.slice none 0 0)], .lit 0, .no, .yes, .no, .yes, .yes, .lit 1, .yes, .yes, .yes, .yes, .yes, .lit 1, .yes, .yes, .yes, .yes, .no, .no, .no, .no, .no, .yes, .yes, .yes, .yes, .lit 1] (J (Eq.refl (0 : Int)) (J (by decide : 0 < 4) (J (by decide : ((32 : Int) ≠ 0)) (J (by decide : ((2 : Int) ≠ 0)) (J c1 (J c2 (J c3 (J c4 (J c4 (J (Eq.refl (1 : Int)) (J (by decide : 1 < 4) (J c4 (J c4 (J c4 (J c5 (J c5 (J (Eq.refl (1 : Int)) (J (by decide : 1 < 4) (J c5 (J c5 (J (by decide : ((8 : Int) ≠ 0)) (J c5 (J c5 (J c6 (J c6 (J c6 (J c6 (J T0 (J c4 (J c4 (J c4 (J T1 (J (Eq.refl (1 : Int)) (J (by decide : 1 < 4) (J (by decide : ((16 : Int) ≠ 0)) (J (by decide : ((8 : Int) ≠ 0)) trivial)))))))))))))))))))))))))))))))))))) (by kernel_rfl)
          · rw [if_neg (nt c5)]
            exact fn_of_x hG hM Tryd.func64 (by kernel_rfl) (by kernel_rfl) 400 [.group [1, 1, 4, 1, 1, 1, 1, 1, 1, 1, 1, 1, 1, 1], .segs [.one (.int .i64 0), .one (.bool false), .ints .i64 4 (fun _ => 0), .one (.int .i64 0), .one (.int .i64 0), .one (.int .i64 0), .one (.int .i64 0), .one (.bool false), .one (.bool false), .one (.int .i64 0), .one (.int .i64 0), .one (.int .i64 0), .one (.int .i64 0), .one (.slice none 0 0)], .lit 0, .no, .yes, .no, .yes, .yes, .lit 1, .yes, .yes, .yes, .no, .no, .no, .no, .no, .no, .no, .no, .no, .no, .no, .yes, .yes, .yes, .yes, .lit 1] (J (Eq.refl (0 : Int)) (J (by decide : 0 < 4) (J (by decide : ((32 : Int) ≠ 0)) (J (by decide : ((2 : Int) ≠ 0)) (J c1 (J c2 (J c3 (J c4 (J c4 (J (Eq.refl (1 : Int)) (J (by decide : 1 < 4) (J c4 (J c4 (J c4 (J c5 (J c5 (J c5 (J c5 (J c5 (J c5 (J T0 (J T0 (J T0 (J T0 (J T0 (J c4 (J c4 (J c4 (J T1 (J (Eq.refl (1 : Int)) (J (by decide : 1 < 4) (J (by decide : ((16 : Int) ≠ 0)) (J (by decide : ((8 : Int) ≠ 0)) trivial))))))))))))))))))))))))))))))))) (by kernel_rfl)
        · rw [if_neg (nt c4)]
          rcases bt x.Swept with c5 | c5
          · rw [if_pos c5]
            exact fn_of_x hG hM Tryd.func64 (by kernel_rfl) (by kernel_rfl) 400 [.group [1, 1, 4, 1, 1, 1, 1, 1, 1, 1, 1, 1, 1, 1], .segs [.one (.int .i64 0), .one (.bool false), .ints .i64 4 (fun _ => 0), .one (.int .i64 0), .one (.int .i64 0), .one (.int .i64 0), .one (.int .i64 0), .one (.bool false), .one (.bool false), .one (.int .i64 0), .one (.int .i64 0), .one (.int .i64 0), .one (.int .i64 0), .one (.slice none 0 0)], .lit 0, .no, .yes, .no, .no, .no, .no, .no, .no, .no, .no, .no, .no, .no, .no, .no, .no, .no, .no, .no, .no, .no, .no, .yes, .lit 1] (J (Eq.refl (0 : Int)) (J (by decide : 0 < 4) (J (by decide : ((32 : Int) ≠ 0)) (J (by decide : ((2 : Int) ≠ 0)) (J c1 (J c2 (J c3 (J c4 (J c4 (J c4 (J c4 (J c4 (J T0 (J T0 (J T0 (J T0 (J T0 (J T0 (J T0 (J T0 (J T0 (J T0 (J T0 (J c4 (J c4 (J c4 (J c5 (J (Eq.refl (1 : Int)) (J (by decide : 1 < 4) (J (by decide : ((16 : Int) ≠ 0)) (J (by decide : ((8 : Int) ≠ 0)) trivial))))))))))))))))))))))))))))))) (by kernel_rfl)
          · rw [if_neg (nt c5)]
            exact fn_of_x hG hM Tryd.func64 (by kernel_rfl) (by kernel_rfl) 400 [.group [1, 1, 4, 1, 1, 1, 1, 1, 1, 1, 1, 1, 1, 1], .segs [.one (.int .i64 0), .one (.bool false), .ints .i64 4 (fun _ => 0), .one (.int .i64 0), .one (.int .i64 0), .one (.int .i64 0), .one (.int .i64 0), .one (.bool false), .one (.bool false), .one (.int .i64 0), .one (.int .i64 0), .one (.int .i64 0), .one (.int .i64 0), .one (.slice none 0 0)], .lit 0, .no, .yes, .no, .no, .no, .no, .no, .no, .no, .no, .no, .no, .no, .no, .no, .no, .no, .no, .no, .no, .no, .no, .no] (J (Eq.refl (0 : Int)) (J (by decide : 0 < 4) (J (by decide : ((32 : Int) ≠ 0)) (J (by decide : ((2 : Int) ≠ 0)) (J c1 (J c2 (J c3 (J c4 (J c4 (J c4 (J c4 (J c4 (J T0 (J T0 (J T0 (J T0 (J T0 (J T0 (J T0 (J T0 (J T0 (J T0 (J T0 (J c4 (J c4 (J c4 (J c5 trivial))))))))))))))))))))))))))) (by kernel_rfl)
    · rw [if_neg (nt c2)]
      rcases bt (decide (x.Kind > 1)) with c3 | c3
      · rw [if_pos c3]
        exact fn_of_x hG hM Tryd.func64 (by kernel_rfl) (by kernel_rfl) 400 [.group [1, 1, 4, 1, 1, 1, 1, 1, 1, 1, 1, 1, 1, 1], .segs [.one (.int .i64 0), .one (.bool false), .ints .i64 4 (fun _ => 0), .one (.int .i64 0), .one (.int .i64 0), .one (.int .i64 0), .one (.int .i64 0), .one (.bool false), .one (.bool false), .one (.int .i64 0), .one (.int .i64 0), .one (.int .i64 0), .one (.int .i64 0), .one (.slice none 0 0)], .lit 0, .no, .no, .yes] (J (Eq.refl (0 : Int)) (J (by decide : 0 < 4) (J (by decide : ((32 : Int) ≠ 0)) (J (by decide : ((2 : Int) ≠ 0)) (J c1 (J c2 (J c3 trivial))))))) (by kernel_rfl)
      · rw [if_neg (nt c3)]
        rcases bt (x.Sweep == 0) with c4 | c4
        · rw [if_pos c4]
          rcases bt (decide ((x.Reg 1) ≥ 128)) with c5 | c5
          · rw [if_pos c5]
            rcases bt (decide ((Int.tmod (x.Reg 1) 8) > 0)) with c6 | c6
            · rw [if_pos c6]
              rcases bt (!(rMute x)) with c7 | c7
              · rw [if_pos c7]
                exact fn_of_x hG hM Tryd.func64 (by kernel_rfl) (by kernel_rfl) 400 [.group [1, 1, 4, 1, 1, 1, 1, 1, 1, 1, 1, 1, 1, 1], .segs [.one (.int .i64 0), .one (.bool false), .ints .i64 4 (fun _ => 0), .one (.int .i64 0), .one (.int .i64 0), .one (.int .i64 0), .one (.int .i64 0), .one (.bool false), .one (.bool false), .one (.int .i64 0), .one (.int .i64 0), .one (.int .i64 0), .one (.int .i64 0), .one (.slice none 0 0)], .lit 0, .no, .no, .no, .yes, .yes, .lit 1, .yes, .yes, .yes, .yes, .yes, .lit 1, .yes, .yes, .yes, .yes, .yes, .yes, .call [] [] 1000 (.bool (rMute x)) [], .yes, .yes, .yes, .call [] [] 1000 (.int .i64 (rTarget x)) [], .yes, .yes, .yes, .yes, .lit 1] (J (Eq.refl (0 : Int)) (J (by decide : 0 < 4) (J (by decide : ((32 : Int) ≠ 0)) (J (by decide : ((2 : Int) ≠ 0)) (J c1 (J c2 (J c3 (J c4 (J c4 (J (Eq.refl (1 : Int)) (J (by decide : 1 < 4) (J c4 (J c4 (J c4 (J c5 (J c5 (J (Eq.refl (1 : Int)) (J (by decide : 1 < 4) (J c5 (J c5 (J (by decide : ((8 : Int) ≠ 0)) (J c5 (J c5 (J c6 (J c6 (J (rMute_ok x hg) (J c6 (J c6 (J c7 (J (rTarget_ok x hg) (J c4 (J c4 (J c4 (J T1 (J (Eq.refl (1 : Int)) (J (by decide : 1 < 4) (J (by decide : ((16 : Int) ≠ 0)) (J (by decide : ((8 : Int) ≠ 0)) trivial)))))))))))))))))))))))))))))))))))))) (by kernel_rfl)
              · rw [if_neg (nt c7)]
                exact fn_of_x hG hM Tryd.func64 (by kernel_rfl) (by kernel_rfl) 400 [.group [1, 1, 4, 1, 1, 1, 1, 1, 1, 1, 1, 1, 1, 1], .segs [.one (.int .i64 0), .one (.bool false), .ints .i64 4 (fun _ => 0), .one (.int .i64 0), .one (.int .i64 0), .one (.int .i64 0), .one (.int .i64 0), .one (.bool false), .one (.bool false), .one (.int .i64 0), .one (.int .i64 0), .one (.int .i64 0), .one (.int .i64 0), .one (.slice none 0 0)], .lit 0, .no, .no, .no, .yes, .yes, .lit 1, .yes, .yes, .yes, .yes, .yes, .lit 1, .yes, .yes, .yes, .yes, .yes, .yes, .call [] [] 1000 (.bool (rMute x)) [], .yes, .yes, .no, .yes, .yes, .yes, .yes, .lit 1] (J (Eq.refl (0 : Int)) (J (by decide : 0 < 4) (J (by decide : ((32 : Int) ≠ 0)) (J (by decide : ((2 : Int) ≠ 0)) (J c1 (J c2 (J c3 (J c4 (J c4 (J (Eq.refl (1 : Int)) (J (by decide : 1 < 4) (J c4 (J c4 (J c4 (J c5 (J c5 (J (Eq.refl (1 : Int)) (J (by decide : 1 < 4) (J c5 (J c5 (J (by decide : ((8 : Int) ≠ 0)) (J c5 (J c5 (J c6 (J c6 (J (rMute_ok x hg) (J c6 (J c6 (J c7 (J c4 (J c4 (J c4 (J T1 (J (Eq.refl (1 : Int)) (J (by decide : 1 < 4) (J (by decide : ((16 : Int) ≠ 0)) (J (by decide : ((8 : Int) ≠ 0)) trivial))))))))))))))))))))))))))))))))))))) (by kernel_rfl)
            · rw [if_neg (nt c6)]
              exact fn_of_x hG hM Tryd.func64 (by kernel_rfl) (by kernel_rfl) 400 [.group [1, 1, 4, 1, 1, 1, 1, 1, 1, 1, 1, 1, 1, 1], .segs [.one (.int .i64 0), .one (.bool false), .ints .i64 4 (fun _ => 0), .one (.int .i64 0), .one (.int .i64 0), .one (.int .i64 0), .one (.int .i64 0), .one (.bool false), .one (.bool false), .one (.int .i64 0), .one (.int .i64 0), .one (.int .i64 0), .one (.int .i64 0), .one (.slice none 0 0)], .lit 0, .no, .no, .no, .yes, .yes, .lit 1, .yes, .yes, .yes, .yes, .yes, .lit 1, .yes, .yes, .yes, .yes, .no, .no, .no, .no, .no, .yes, .yes, .yes, .yes, .lit 1] (J (Eq.refl (0 : Int)) (J (by decide : 0 < 4) (J (by decide : ((32 : Int) ≠ 0)) (J (by decide : ((2 : Int) ≠ 0)) (J c1 (J c2 (J c3 (J c4 (J c4 (J (Eq.refl (1 : Int)) (J (by decide : 1 < 4) (J c4 (J c4 (J c4 (J c5 (J c5 (J (Eq.refl (1 : Int)) (J (by decide : 1 < 4) (J c5 (J c5 (J (by decide : ((8 : Int) ≠ 0)) (J c5 (J c5 (J c6 (J c6 (J c6 (J c6 (J T0 (J c4 (J c4 (J c4 (J T1 (J (Eq.refl (1 : Int)) (J (by decide : 1 < 4) (J (by decide : ((16 : Int) ≠ 0)) (J (by decide : ((8 : Int) ≠ 0)) trivial)))))))))))))))))))))))))))))))))))) (by kernel_rfl)
          · rw [if_neg (nt c5)]
            exact fn_of_x hG hM Tryd.func64 (by kernel_rfl) (by kernel_rfl) 400 [.group [1, 1, 4, 1, 1, 1, 1, 1, 1, 1, 1, 1, 1, 1], .segs [.one (.int .i64 0), .one (.bool false), .ints .i64 4 (fun _ => 0), .one (.int .i64 0), .one (.int .i64 0), .one (.int .i64 0), .one (.int .i64 0), .one (.bool false), .one (.bool false), .one (.int .i64 0), .one (.int .i64 0), .one (.int .i64 0), .one (.int .i64 0), .one (.slice none 0 0)], .lit 0, .no, .no, .no, .yes, .yes, .lit 1, .yes, .yes, .yes, .no, .no, .no, .no, .no, .no, .no, .no, .no, .no, .no, .yes, .yes, .yes, .yes, .lit 1] (J (Eq.refl (0 : Int)) (J (by decide : 0 < 4) (J (by decide : ((32 : Int) ≠ 0)) (J (by decide : ((2 : Int) ≠ 0)) (J c1 (J c2 (J c3 (J c4 (J c4 (J (Eq.refl (1 : Int)) (J (by decide : 1 < 4) (J c4 (J c4 (J c4 (J c5 (J c5 (J c5 (J c5 (J c5 (J c5 (J T0 (J T0 (J T0 (J T0 (J T0 (J c4 (J c4 (J c4 (J T1 (J (Eq.refl (1 : Int)) (J (by decide : 1 < 4) (J (by decide : ((16 : Int) ≠ 0)) (J (by decide : ((8 : Int) ≠ 0)) trivial))))))))))))))))))))))))))))))))) (by kernel_rfl)
        · rw [if_neg (nt c4)]
          rcases bt x.Swept with c5 | c5
          · rw [if_pos c5]
            exact fn_of_x hG hM Tryd.func64 (by kernel_rfl) (by kernel_rfl) 400 [.group [1, 1, 4, 1, 1, 1, 1, 1, 1, 1, 1, 1, 1, 1], .segs [.one (.int .i64 0), .one (.bool false), .ints .i64 4 (fun _ => 0), .one (.int .i64 0), .one (.int .i64 0), .one (.int .i64 0), .one (.int .i64 0), .one (.bool false), .one (.bool false), .one (.int .i64 0), .one (.int .i64 0), .one (.int .i64 0), .one (.int .i64 0), .one (.slice none 0 0)], .lit 0, .no, .no, .no, .no, .no, .no, .no, .no, .no, .no, .no, .no, .no, .no, .no, .no, .no, .no, .no, .no, .no, .no, .yes, .lit 1] (J (Eq.refl (0 : Int)) (J (by decide : 0 < 4) (J (by decide : ((32 : Int) ≠ 0)) (J (by decide : ((2 : Int) ≠ 0)) (J c1 (J c2 (J c3 (J c4 (J c4 (J c4 (J c4 (J c4 (J T0 (J T0 (J T0 (J T0 (J T0 (J T0 (J T0 (J T0 (J T0 (J T0 (J T0 (J c4 (J c4 (J c4 (J c5 (J (Eq.refl (1 : Int)) (J (by decide : 1 < 4) (J (by decide : ((16 : Int) ≠ 0)) (J (by decide : ((8 : Int) ≠ 0)) trivial))))))))))))))))))))))))))))))) (by kernel_rfl)
          · rw [if_neg (nt c5)]
            exact fn_of_x hG hM Tryd.func64 (by kernel_rfl) (by kernel_rfl) 400 [.group [1, 1, 4, 1, 1, 1, 1, 1, 1, 1, 1, 1, 1, 1], .segs [.one (.int .i64 0), .one (.bool false), .ints .i64 4 (fun _ => 0), .one (.int .i64 0), .one (.int .i64 0), .one (.int .i64 0), .one (.int .i64 0), .one (.bool false), .one (.bool false), .one (.int .i64 0), .one (.int .i64 0), .one (.int .i64 0), .one (.int .i64 0), .one (.slice none 0 0)], .lit 0, .no, .no, .no, .no, .no, .no, .no, .no, .no, .no, .no, .no, .no, .no, .no, .no, .no, .no, .no, .no, .no, .no, .no] (J (Eq.refl (0 : Int)) (J (by decide : 0 < 4) (J (by decide : ((32 : Int) ≠ 0)) (J (by decide : ((2 : Int) ≠ 0)) (J c1 (J c2 (J c3 (J c4 (J c4 (J c4 (J c4 (J c4 (J T0 (J T0 (J T0 (J T0 (J T0 (J T0 (J T0 (J T0 (J T0 (J T0 (J T0 (J c4 (J c4 (J c4 (J c5 trivial))))))))))))))))))))))))))) (by kernel_rfl)
def rOut_0 (x : RTone) : Int :=
  if (x.Kind == 2) = true then
    if (decide (x.Step < 16)) = true then
      (i64.wrap (15 - x.Step))
    else
      (i64.wrap (x.Step - 16))
  else
    if (x.Kind == 3) = true then
      if (decide (x.Length > 0)) = true then
        if (!((x.Row 0) == 0)) = true then
          0
        else
          if ((Int.tmod (i64.wrap (Int.tdiv (x.Reg 0) 16)) 2) == 1) = true then
            (Int.tmod (x.Reg 0) 16)
          else
            x.Level
      else
        0
    else
      if (decide (x.Length > 0)) = true then
        if (!(rMute x)) = true then
          if (!((strAt ⟨#[48, 49, 48, 48, 48, 48, 48, 48]⟩ (Int.toNat x.Step)) == 49)) = true then
            0
          else
            if ((Int.tmod (i64.wrap (Int.tdiv (x.Reg 0) 16)) 2) == 1) = true then
              (Int.tmod (x.Reg 0) 16)
            else
              x.Level
        else
          0
      else
        0
theorem rOut_0_ok (x : RTone) (hg : Good x) (hd : (i64.wrap (Int.tdiv (x.Reg 0) 64)) = 0) : FnSpec Tryd.prog 51 1000 [RTone.enc x] [] (.int .i64 (rOut_0 x)) [] := by
  unfold rOut_0
  rcases bt (x.Kind == 2) with c1 | c1
  · rw [if_pos c1]
    rcases bt (decide (x.Step < 16)) with c2 | c2
    · rw [if_pos c2]
      exact fn_of_x hG hM Tryd.func51 (by kernel_rfl) (by kernel_rfl) 400 [.group [1, 1, 4, 1, 1, 1, 1, 1, 1, 1, 1, 1, 1, 1], .yes, .yes] (J c1 (J c2 trivial)) (by kernel_rfl)
    · rw [if_neg (nt c2)]
      exact fn_of_x hG hM Tryd.func51 (by kernel_rfl) (by kernel_rfl) 400 [.group [1, 1, 4, 1, 1, 1, 1, 1, 1, 1, 1, 1, 1, 1], .yes, .no] (J c1 (J c2 trivial)) (by kernel_rfl)
  · rw [if_neg (nt c1)]
    rcases bt (x.Kind == 3) with c2 | c2
    · rw [if_pos c2]
      rcases bt (decide (x.Length > 0)) with c3 | c3
      · rw [if_pos c3]
        rcases bt (!((x.Row 0) == 0)) with c4 | c4
        · rw [if_pos c4]
          exact fn_of_x hG hM Tryd.func51 (by kernel_rfl) (by kernel_rfl) 400 [.group [1, 1, 4, 1, 1, 1, 1, 1, 1, 1, 1, 1, 1, 1], .no, .yes, .yes, .yes, .yes, .lit 0, .yes, .yes, .yes, .yes] (J c1 (J c2 (J c3 (J c3 (J c3 (J T1 (J (Eq.refl (0 : Int)) (J c3 (J c3 (J c3 (J c4 trivial))))))))))) (by kernel_rfl)
        · rw [if_neg (nt c4)]
          rcases bt ((Int.tmod (i64.wrap (Int.tdiv (x.Reg 0) 16)) 2) == 1) with c5 | c5
          · rw [if_pos c5]
            exact fn_of_x hG hM Tryd.func51 (by kernel_rfl) (by kernel_rfl) 400 [.group [1, 1, 4, 1, 1, 1, 1, 1, 1, 1, 1, 1, 1, 1], .no, .yes, .yes, .yes, .yes, .lit 0, .yes, .yes, .yes, .no, .lit 0, .yes, .lit 0] (J c1 (J c2 (J c3 (J c3 (J c3 (J T1 (J (Eq.refl (0 : Int)) (J c3 (J c3 (J c3 (J c4 (J (Eq.refl (0 : Int)) (J (by decide : 0 < 4) (J (by decide : ((16 : Int) ≠ 0)) (J (by decide : ((2 : Int) ≠ 0)) (J c5 (J (Eq.refl (0 : Int)) (J (by decide : 0 < 4) (J (by decide : ((16 : Int) ≠ 0)) trivial))))))))))))))))))) (by kernel_rfl)
          · rw [if_neg (nt c5)]
            exact fn_of_x hG hM Tryd.func51 (by kernel_rfl) (by kernel_rfl) 400 [.group [1, 1, 4, 1, 1, 1, 1, 1, 1, 1, 1, 1, 1, 1], .no, .yes, .yes, .yes, .yes, .lit 0, .yes, .yes, .yes, .no, .lit 0, .no] (J c1 (J c2 (J c3 (J c3 (J c3 (J T1 (J (Eq.refl (0 : Int)) (J c3 (J c3 (J c3 (J c4 (J (Eq.refl (0 : Int)) (J (by decide : 0 < 4) (J (by decide : ((16 : Int) ≠ 0)) (J (by decide : ((2 : Int) ≠ 0)) (J c5 trivial)))))))))))))))) (by kernel_rfl)
      · rw [if_neg (nt c3)]
        exact fn_of_x hG hM Tryd.func51 (by kernel_rfl) (by kernel_rfl) 400 [.group [1, 1, 4, 1, 1, 1, 1, 1, 1, 1, 1, 1, 1, 1], .no, .yes, .no, .no, .no, .no, .no, .no, .yes] (J c1 (J c2 (J c3 (J c3 (J c3 (J c3 (J c3 (J c3 (J T1 trivial))))))))) (by kernel_rfl)
    · rw [if_neg (nt c2)]
      rcases bt (decide (x.Length > 0)) with c3 | c3
      · rw [if_pos c3]
        rcases bt (!(rMute x)) with c4 | c4
        · rw [if_pos c4]
          rcases bt (!((strAt ⟨#[48, 49, 48, 48, 48, 48, 48, 48]⟩ (Int.toNat x.Step)) == 49)) with c5 | c5
          · rw [if_pos c5]
            have o1 : (0 : Int) ≤ x.Step ∧ x.Step < ((ByteArray.size ⟨#[48, 49, 48, 48, 48, 48, 48, 48]⟩ : Nat) : Int) := by first | decide | exact step8 hg (by assumption) rfl | omega | exact hg | exact ⟨hg.reg, hg.period, hg.step, hg.kind⟩ | exact Good.put hg _ | exact Good.len hg | exact Good.sweep hg _ | (have h0 := hg.reg 0; have h1 := hg.reg 1; have h2 := hg.reg 2; have h4 := hg.step; have t1 := Int.tdiv_eq_ediv_of_nonneg (b := 8) h1.1; have t2 := Int.tmod_eq_emod_of_nonneg (b := 16) h2.1; have t3 := Int.tdiv_eq_ediv_of_nonneg (b := 64) h0.1; simp only [decide_eq_true_eq, decide_eq_false_iff_not, t1, t2, t3, IntKind.wrap_i64] at *; omega)
            exact fn_of_x hG hM Tryd.func51 (by kernel_rfl) (by kernel_rfl) 400 [.group [1, 1, 4, 1, 1, 1, 1, 1, 1, 1, 1, 1, 1, 1], .no, .no, .lit 0, .eq 35 (.int .i64 0), .lit 0, .yes, .yes, .call [] [] 1000 (.bool (rMute x)) [], .yes, .yes, .yes, .yes, .yes, .yes, .yes, .yes, .yes] (J c1 (J c2 (J (Eq.refl (0 : Int)) (J (by decide : 0 < 4) (J (congrArg (Value.int .i64) hd : Value.int .i64 (i64.wrap (Int.tdiv (x.Reg 0) 64)) = Value.int .i64 0) (J (by decide : ((64 : Int) ≠ 0)) (J (Eq.refl (0 : Int)) (J (by decide : 0 < 4) (J c3 (J c3 (J (rMute_ok x hg) (J c3 (J c3 (J c4 (J c4 (J c4 (J c4 (J o1 (J c4 (J c4 (J c5 trivial))))))))))))))))))))) (by kernel_rfl)
          · rw [if_neg (nt c5)]
            rcases bt ((Int.tmod (i64.wrap (Int.tdiv (x.Reg 0) 16)) 2) == 1) with c6 | c6
            · rw [if_pos c6]
              have o1 : (0 : Int) ≤ x.Step ∧ x.Step < ((ByteArray.size ⟨#[48, 49, 48, 48, 48, 48, 48, 48]⟩ : Nat) : Int) := by first | decide | exact step8 hg (by assumption) rfl | omega | exact hg | exact ⟨hg.reg, hg.period, hg.step, hg.kind⟩ | exact Good.put hg _ | exact Good.len hg | exact Good.sweep hg _ | (have h0 := hg.reg 0; have h1 := hg.reg 1; have h2 := hg.reg 2; have h4 := hg.step; have t1 := Int.tdiv_eq_ediv_of_nonneg (b := 8) h1.1; have t2 := Int.tmod_eq_emod_of_nonneg (b := 16) h2.1; have t3 := Int.tdiv_eq_ediv_of_nonneg (b := 64) h0.1; simp only [decide_eq_true_eq, decide_eq_false_iff_not, t1, t2, t3, IntKind.wrap_i64] at *; omega)
              exact fn_of_x hG hM Tryd.func51 (by kernel_rfl) (by kernel_rfl) 400 [.group [1, 1, 4, 1, 1, 1, 1, 1, 1, 1, 1, 1, 1, 1], .no, .no, .lit 0, .eq 35 (.int .i64 0), .lit 0, .yes, .yes, .call [] [] 1000 (.bool (rMute x)) [], .yes, .yes, .yes, .yes, .yes, .yes, .yes, .yes, .no, .lit 0, .yes, .lit 0] (J c1 (J c2 (J (Eq.refl (0 : Int)) (J (by decide : 0 < 4) (J (congrArg (Value.int .i64) hd : Value.int .i64 (i64.wrap (Int.tdiv (x.Reg 0) 64)) = Value.int .i64 0) (J (by decide : ((64 : Int) ≠ 0)) (J (Eq.refl (0 : Int)) (J (by decide : 0 < 4) (J c3 (J c3 (J (rMute_ok x hg) (J c3 (J c3 (J c4 (J c4 (J c4 (J c4 (J o1 (J c4 (J c4 (J c5 (J (Eq.refl (0 : Int)) (J (by decide : 0 < 4) (J (by decide : ((16 : Int) ≠ 0)) (J (by decide : ((2 : Int) ≠ 0)) (J c6 (J (Eq.refl (0 : Int)) (J (by decide : 0 < 4) (J (by decide : ((16 : Int) ≠ 0)) trivial))))))))))))))))))))))))))))) (by kernel_rfl)
            · rw [if_neg (nt c6)]
              have o1 : (0 : Int) ≤ x.Step ∧ x.Step < ((ByteArray.size ⟨#[48, 49, 48, 48, 48, 48, 48, 48]⟩ : Nat) : Int) := by first | decide | exact step8 hg (by assumption) rfl | omega | exact hg | exact ⟨hg.reg, hg.period, hg.step, hg.kind⟩ | exact Good.put hg _ | exact Good.len hg | exact Good.sweep hg _ | (have h0 := hg.reg 0; have h1 := hg.reg 1; have h2 := hg.reg 2; have h4 := hg.step; have t1 := Int.tdiv_eq_ediv_of_nonneg (b := 8) h1.1; have t2 := Int.tmod_eq_emod_of_nonneg (b := 16) h2.1; have t3 := Int.tdiv_eq_ediv_of_nonneg (b := 64) h0.1; simp only [decide_eq_true_eq, decide_eq_false_iff_not, t1, t2, t3, IntKind.wrap_i64] at *; omega)
              exact fn_of_x hG hM Tryd.func51 (by kernel_rfl) (by kernel_rfl) 400 [.group [1, 1, 4, 1, 1, 1, 1, 1, 1, 1, 1, 1, 1, 1], .no, .no, .lit 0, .eq 35 (.int .i64 0), .lit 0, .yes, .yes, .call [] [] 1000 (.bool (rMute x)) [], .yes, .yes, .yes, .yes, .yes, .yes, .yes, .yes, .no, .lit 0, .no] (J c1 (J c2 (J (Eq.refl (0 : Int)) (J (by decide : 0 < 4) (J (congrArg (Value.int .i64) hd : Value.int .i64 (i64.wrap (Int.tdiv (x.Reg 0) 64)) = Value.int .i64 0) (J (by decide : ((64 : Int) ≠ 0)) (J (Eq.refl (0 : Int)) (J (by decide : 0 < 4) (J c3 (J c3 (J (rMute_ok x hg) (J c3 (J c3 (J c4 (J c4 (J c4 (J c4 (J o1 (J c4 (J c4 (J c5 (J (Eq.refl (0 : Int)) (J (by decide : 0 < 4) (J (by decide : ((16 : Int) ≠ 0)) (J (by decide : ((2 : Int) ≠ 0)) (J c6 trivial)))))))))))))))))))))))))) (by kernel_rfl)
        · rw [if_neg (nt c4)]
          exact fn_of_x hG hM Tryd.func51 (by kernel_rfl) (by kernel_rfl) 400 [.group [1, 1, 4, 1, 1, 1, 1, 1, 1, 1, 1, 1, 1, 1], .no, .no, .lit 0, .eq 35 (.int .i64 0), .lit 0, .yes, .yes, .call [] [] 1000 (.bool (rMute x)) [], .yes, .yes, .no, .no, .no, .no, .no, .no, .yes] (J c1 (J c2 (J (Eq.refl (0 : Int)) (J (by decide : 0 < 4) (J (congrArg (Value.int .i64) hd : Value.int .i64 (i64.wrap (Int.tdiv (x.Reg 0) 64)) = Value.int .i64 0) (J (by decide : ((64 : Int) ≠ 0)) (J (Eq.refl (0 : Int)) (J (by decide : 0 < 4) (J c3 (J c3 (J (rMute_ok x hg) (J c3 (J c3 (J c4 (J c4 (J c4 (J c4 (J c4 (J c4 (J T1 trivial)))))))))))))))))))) (by kernel_rfl)
      · rw [if_neg (nt c3)]
        exact fn_of_x hG hM Tryd.func51 (by kernel_rfl) (by kernel_rfl) 400 [.group [1, 1, 4, 1, 1, 1, 1, 1, 1, 1, 1, 1, 1, 1], .no, .no, .lit 0, .eq 35 (.int .i64 0), .lit 0, .no, .no, .no, .no, .no, .no, .no, .no, .no, .no, .yes] (J c1 (J c2 (J (Eq.refl (0 : Int)) (J (by decide : 0 < 4) (J (congrArg (Value.int .i64) hd : Value.int .i64 (i64.wrap (Int.tdiv (x.Reg 0) 64)) = Value.int .i64 0) (J (by decide : ((64 : Int) ≠ 0)) (J (Eq.refl (0 : Int)) (J (by decide : 0 < 4) (J c3 (J c3 (J c3 (J c3 (J T0 (J T0 (J T0 (J T0 (J T0 (J T0 (J T1 trivial))))))))))))))))))) (by kernel_rfl)
def rOut_1 (x : RTone) : Int :=
  if (x.Kind == 2) = true then
    if (decide (x.Step < 16)) = true then
      (i64.wrap (15 - x.Step))
    else
      (i64.wrap (x.Step - 16))
  else
    if (x.Kind == 3) = true then
      if (decide (x.Length > 0)) = true then
        if (!((x.Row 0) == 0)) = true then
          0
        else
          if ((Int.tmod (i64.wrap (Int.tdiv (x.Reg 0) 16)) 2) == 1) = true then
            (Int.tmod (x.Reg 0) 16)
          else
            x.Level
      else
        0
    else
      if (decide (x.Length > 0)) = true then
        if (!(rMute x)) = true then
          if (!((strAt ⟨#[48, 49, 49, 48, 48, 48, 48, 48]⟩ (Int.toNat x.Step)) == 49)) = true then
            0
          else
            if ((Int.tmod (i64.wrap (Int.tdiv (x.Reg 0) 16)) 2) == 1) = true then
              (Int.tmod (x.Reg 0) 16)
            else
              x.Level
        else
          0
      else
        0
theorem rOut_1_ok (x : RTone) (hg : Good x) (hd : (i64.wrap (Int.tdiv (x.Reg 0) 64)) = 1) : FnSpec Tryd.prog 51 1000 [RTone.enc x] [] (.int .i64 (rOut_1 x)) [] := by
  unfold rOut_1
  rcases bt (x.Kind == 2) with c1 | c1
  · rw [if_pos c1]
    rcases bt (decide (x.Step < 16)) with c2 | c2
    · rw [if_pos c2]
      exact fn_of_x hG hM Tryd.func51 (by kernel_rfl) (by kernel_rfl) 400 [.group [1, 1, 4, 1, 1, 1, 1, 1, 1, 1, 1, 1, 1, 1], .yes, .yes] (J c1 (J c2 trivial)) (by kernel_rfl)
    · rw [if_neg (nt c2)]
      exact fn_of_x hG hM Tryd.func51 (by kernel_rfl) (by kernel_rfl) 400 [.group [1, 1, 4, 1, 1, 1, 1, 1, 1, 1, 1, 1, 1, 1], .yes, .no] (J c1 (J c2 trivial)) (by kernel_rfl)
  · rw [if_neg (nt c1)]
    rcases bt (x.Kind == 3) with c2 | c2
    · rw [if_pos c2]
      rcases bt (decide (x.Length > 0)) with c3 | c3
      · rw [if_pos c3]
        rcases bt (!((x.Row 0) == 0)) with c4 | c4
        · rw [if_pos c4]
          exact fn_of_x hG hM Tryd.func51 (by kernel_rfl) (by kernel_rfl) 400 [.group [1, 1, 4, 1, 1, 1, 1, 1, 1, 1, 1, 1, 1, 1], .no, .yes, .yes, .yes, .yes, .lit 0, .yes, .yes, .yes, .yes] (J c1 (J c2 (J c3 (J c3 (J c3 (J T1 (J (Eq.refl (0 : Int)) (J c3 (J c3 (J c3 (J c4 trivial))))))))))) (by kernel_rfl)
        · rw [if_neg (nt c4)]
          rcases bt ((Int.tmod (i64.wrap (Int.tdiv (x.Reg 0) 16)) 2) == 1) with c5 | c5
          · rw [if_pos c5]
            exact fn_of_x hG hM Tryd.func51 (by kernel_rfl) (by kernel_rfl) 400 [.group [1, 1, 4, 1, 1, 1, 1, 1, 1, 1, 1, 1, 1, 1], .no, .yes, .yes, .yes, .yes, .lit 0, .yes, .yes, .yes, .no, .lit 0, .yes, .lit 0] (J c1 (J c2 (J c3 (J c3 (J c3 (J T1 (J (Eq.refl (0 : Int)) (J c3 (J c3 (J c3 (J c4 (J (Eq.refl (0 : Int)) (J (by decide : 0 < 4) (J (by decide : ((16 : Int) ≠ 0)) (J (by decide : ((2 : Int) ≠ 0)) (J c5 (J (Eq.refl (0 : Int)) (J (by decide : 0 < 4) (J (by decide : ((16 : Int) ≠ 0)) trivial))))))))))))))))))) (by kernel_rfl)
          · rw [if_neg (nt c5)]
            exact fn_of_x hG hM Tryd.func51 (by kernel_rfl) (by kernel_rfl) 400 [.group [1, 1, 4, 1, 1, 1, 1, 1, 1, 1, 1, 1, 1, 1], .no, .yes, .yes, .yes, .yes, .lit 0, .yes, .yes, .yes, .no, .lit 0, .no] (J c1 (J c2 (J c3 (J c3 (J c3 (J T1 (J (Eq.refl (0 : Int)) (J c3 (J c3 (J c3 (J c4 (J (Eq.refl (0 : Int)) (J (by decide : 0 < 4) (J (by decide : ((16 : Int) ≠ 0)) (J (by decide : ((2 : Int) ≠ 0)) (J c5 trivial)))))))))))))))) (by kernel_rfl)
      · rw [if_neg (nt c3)]
        exact fn_of_x hG hM Tryd.func51 (by kernel_rfl) (by kernel_rfl) 400 [.group [1, 1, 4, 1, 1, 1, 1, 1, 1, 1, 1, 1, 1, 1], .no, .yes, .no, .no, .no, .no, .no, .no, .yes] (J c1 (J c2 (J c3 (J c3 (J c3 (J c3 (J c3 (J c3 (J T1 trivial))))))))) (by kernel_rfl)
    · rw [if_neg (nt c2)]
      rcases bt (decide (x.Length > 0)) with c3 | c3
      · rw [if_pos c3]
        rcases bt (!(rMute x)) with c4 | c4
        · rw [if_pos c4]
          rcases bt (!((strAt ⟨#[48, 49, 49, 48, 48, 48, 48, 48]⟩ (Int.toNat x.Step)) == 49)) with c5 | c5
          · rw [if_pos c5]
            have o1 : (0 : Int) ≤ x.Step ∧ x.Step < ((ByteArray.size ⟨#[48, 49, 49, 48, 48, 48, 48, 48]⟩ : Nat) : Int) := by first | decide | exact step8 hg (by assumption) rfl | omega | exact hg | exact ⟨hg.reg, hg.period, hg.step, hg.kind⟩ | exact Good.put hg _ | exact Good.len hg | exact Good.sweep hg _ | (have h0 := hg.reg 0; have h1 := hg.reg 1; have h2 := hg.reg 2; have h4 := hg.step; have t1 := Int.tdiv_eq_ediv_of_nonneg (b := 8) h1.1; have t2 := Int.tmod_eq_emod_of_nonneg (b := 16) h2.1; have t3 := Int.tdiv_eq_ediv_of_nonneg (b := 64) h0.1; simp only [decide_eq_true_eq, decide_eq_false_iff_not, t1, t2, t3, IntKind.wrap_i64] at *; omega)
            exact fn_of_x hG hM Tryd.func51 (by kernel_rfl) (by kernel_rfl) 400 [.group [1, 1, 4, 1, 1, 1, 1, 1, 1, 1, 1, 1, 1, 1], .no, .no, .lit 0, .eq 35 (.int .i64 1), .lit 1, .yes, .yes, .call [] [] 1000 (.bool (rMute x)) [], .yes, .yes, .yes, .yes, .yes, .yes, .yes, .yes, .yes] (J c1 (J c2 (J (Eq.refl (0 : Int)) (J (by decide : 0 < 4) (J (congrArg (Value.int .i64) hd : Value.int .i64 (i64.wrap (Int.tdiv (x.Reg 0) 64)) = Value.int .i64 1) (J (by decide : ((64 : Int) ≠ 0)) (J (Eq.refl (1 : Int)) (J (by decide : 1 < 4) (J c3 (J c3 (J (rMute_ok x hg) (J c3 (J c3 (J c4 (J c4 (J c4 (J c4 (J o1 (J c4 (J c4 (J c5 trivial))))))))))))))))))))) (by kernel_rfl)
          · rw [if_neg (nt c5)]
            rcases bt ((Int.tmod (i64.wrap (Int.tdiv (x.Reg 0) 16)) 2) == 1) with c6 | c6
            · rw [if_pos c6]
              have o1 : (0 : Int) ≤ x.Step ∧ x.Step < ((ByteArray.size ⟨#[48, 49, 49, 48, 48, 48, 48, 48]⟩ : Nat) : Int) := by first | decide | exact step8 hg (by assumption) rfl | omega | exact hg | exact ⟨hg.reg, hg.period, hg.step, hg.kind⟩ | exact Good.put hg _ | exact Good.len hg | exact Good.sweep hg _ | (have h0 := hg.reg 0; have h1 := hg.reg 1; have h2 := hg.reg 2; have h4 := hg.step; have t1 := Int.tdiv_eq_ediv_of_nonneg (b := 8) h1.1; have t2 := Int.tmod_eq_emod_of_nonneg (b := 16) h2.1; have t3 := Int.tdiv_eq_ediv_of_nonneg (b := 64) h0.1; simp only [decide_eq_true_eq, decide_eq_false_iff_not, t1, t2, t3, IntKind.wrap_i64] at *; omega)
              exact fn_of_x hG hM Tryd.func51 (by kernel_rfl) (by kernel_rfl) 400 [.group [1, 1, 4, 1, 1, 1, 1, 1, 1, 1, 1, 1, 1, 1], .no, .no, .lit 0, .eq 35 (.int .i64 1), .lit 1, .yes, .yes, .call [] [] 1000 (.bool (rMute x)) [], .yes, .yes, .yes, .yes, .yes, .yes, .yes, .yes, .no, .lit 0, .yes, .lit 0] (J c1 (J c2 (J (Eq.refl (0 : Int)) (J (by decide : 0 < 4) (J (congrArg (Value.int .i64) hd : Value.int .i64 (i64.wrap (Int.tdiv (x.Reg 0) 64)) = Value.int .i64 1) (J (by decide : ((64 : Int) ≠ 0)) (J (Eq.refl (1 : Int)) (J (by decide : 1 < 4) (J c3 (J c3 (J (rMute_ok x hg) (J c3 (J c3 (J c4 (J c4 (J c4 (J c4 (J o1 (J c4 (J c4 (J c5 (J (Eq.refl (0 : Int)) (J (by decide : 0 < 4) (J (by decide : ((16 : Int) ≠ 0)) (J (by decide : ((2 : Int) ≠ 0)) (J c6 (J (Eq.refl (0 : Int)) (J (by decide : 0 < 4) (J (by decide : ((16 : Int) ≠ 0)) trivial))))))))))))))))))))))))))))) (by kernel_rfl)
            · rw [if_neg (nt c6)]
              have o1 : (0 : Int) ≤ x.Step ∧ x.Step < ((ByteArray.size ⟨#[48, 49, 49, 48, 48, 48, 48, 48]⟩ : Nat) : Int) := by first | decide | exact step8 hg (by assumption) rfl | omega | exact hg | exact ⟨hg.reg, hg.period, hg.step, hg.kind⟩ | exact Good.put hg _ | exact Good.len hg | exact Good.sweep hg _ | (have h0 := hg.reg 0; have h1 := hg.reg 1; have h2 := hg.reg 2; have h4 := hg.step; have t1 := Int.tdiv_eq_ediv_of_nonneg (b := 8) h1.1; have t2 := Int.tmod_eq_emod_of_nonneg (b := 16) h2.1; have t3 := Int.tdiv_eq_ediv_of_nonneg (b := 64) h0.1; simp only [decide_eq_true_eq, decide_eq_false_iff_not, t1, t2, t3, IntKind.wrap_i64] at *; omega)
              exact fn_of_x hG hM Tryd.func51 (by kernel_rfl) (by kernel_rfl) 400 [.group [1, 1, 4, 1, 1, 1, 1, 1, 1, 1, 1, 1, 1, 1], .no, .no, .lit 0, .eq 35 (.int .i64 1), .lit 1, .yes, .yes, .call [] [] 1000 (.bool (rMute x)) [], .yes, .yes, .yes, .yes, .yes, .yes, .yes, .yes, .no, .lit 0, .no] (J c1 (J c2 (J (Eq.refl (0 : Int)) (J (by decide : 0 < 4) (J (congrArg (Value.int .i64) hd : Value.int .i64 (i64.wrap (Int.tdiv (x.Reg 0) 64)) = Value.int .i64 1) (J (by decide : ((64 : Int) ≠ 0)) (J (Eq.refl (1 : Int)) (J (by decide : 1 < 4) (J c3 (J c3 (J (rMute_ok x hg) (J c3 (J c3 (J c4 (J c4 (J c4 (J c4 (J o1 (J c4 (J c4 (J c5 (J (Eq.refl (0 : Int)) (J (by decide : 0 < 4) (J (by decide : ((16 : Int) ≠ 0)) (J (by decide : ((2 : Int) ≠ 0)) (J c6 trivial)))))))))))))))))))))))))) (by kernel_rfl)
        · rw [if_neg (nt c4)]
          exact fn_of_x hG hM Tryd.func51 (by kernel_rfl) (by kernel_rfl) 400 [.group [1, 1, 4, 1, 1, 1, 1, 1, 1, 1, 1, 1, 1, 1], .no, .no, .lit 0, .eq 35 (.int .i64 1), .lit 1, .yes, .yes, .call [] [] 1000 (.bool (rMute x)) [], .yes, .yes, .no, .no, .no, .no, .no, .no, .yes] (J c1 (J c2 (J (Eq.refl (0 : Int)) (J (by decide : 0 < 4) (J (congrArg (Value.int .i64) hd : Value.int .i64 (i64.wrap (Int.tdiv (x.Reg 0) 64)) = Value.int .i64 1) (J (by decide : ((64 : Int) ≠ 0)) (J (Eq.refl (1 : Int)) (J (by decide : 1 < 4) (J c3 (J c3 (J (rMute_ok x hg) (J c3 (J c3 (J c4 (J c4 (J c4 (J c4 (J c4 (J c4 (J T1 trivial)))))))))))))))))))) (by kernel_rfl)
      · rw [if_neg (nt c3)]
        exact fn_of_x hG hM Tryd.func51 (by kernel_rfl) (by kernel_rfl) 400 [.group [1, 1, 4, 1, 1, 1, 1, 1, 1, 1, 1, 1, 1, 1], .no, .no, .lit 0, .eq 35 (.int .i64 1), .lit 1, .no, .no, .no, .no, .no, .no, .no, .no, .no, .no, .yes] (J c1 (J c2 (J (Eq.refl (0 : Int)) (J (by decide : 0 < 4) (J (congrArg (Value.int .i64) hd : Value.int .i64 (i64.wrap (Int.tdiv (x.Reg 0) 64)) = Value.int .i64 1) (J (by decide : ((64 : Int) ≠ 0)) (J (Eq.refl (1 : Int)) (J (by decide : 1 < 4) (J c3 (J c3 (J c3 (J c3 (J T0 (J T0 (J T0 (J T0 (J T0 (J T0 (J T1 trivial))))))))))))))))))) (by kernel_rfl)
def rOut_2 (x : RTone) : Int :=
  if (x.Kind == 2) = true then
    if (decide (x.Step < 16)) = true then
      (i64.wrap (15 - x.Step))
    else
      (i64.wrap (x.Step - 16))
  else
    if (x.Kind == 3) = true then
      if (decide (x.Length > 0)) = true then
        if (!((x.Row 0) == 0)) = true then
          0
        else
          if ((Int.tmod (i64.wrap (Int.tdiv (x.Reg 0) 16)) 2) == 1) = true then
            (Int.tmod (x.Reg 0) 16)
          else
            x.Level
      else
        0
    else
      if (decide (x.Length > 0)) = true then
        if (!(rMute x)) = true then
          if (!((strAt ⟨#[48, 49, 49, 49, 49, 48, 48, 48]⟩ (Int.toNat x.Step)) == 49)) = true then
            0
          else
            if ((Int.tmod (i64.wrap (Int.tdiv (x.Reg 0) 16)) 2) == 1) = true then
              (Int.tmod (x.Reg 0) 16)
            else
              x.Level
        else
          0
      else
        0
theorem rOut_2_ok (x : RTone) (hg : Good x) (hd : (i64.wrap (Int.tdiv (x.Reg 0) 64)) = 2) : FnSpec Tryd.prog 51 1000 [RTone.enc x] [] (.int .i64 (rOut_2 x)) [] := by
  unfold rOut_2
  rcases bt (x.Kind == 2) with c1 | c1
  · rw [if_pos c1]
    rcases bt (decide (x.Step < 16)) with c2 | c2
    · rw [if_pos c2]
      exact fn_of_x hG hM Tryd.func51 (by kernel_rfl) (by kernel_rfl) 400 [.group [1, 1, 4, 1, 1, 1, 1, 1, 1, 1, 1, 1, 1, 1], .yes, .yes] (J c1 (J c2 trivial)) (by kernel_rfl)
    · rw [if_neg (nt c2)]
      exact fn_of_x hG hM Tryd.func51 (by kernel_rfl) (by kernel_rfl) 400 [.group [1, 1, 4, 1, 1, 1, 1, 1, 1, 1, 1, 1, 1, 1], .yes, .no] (J c1 (J c2 trivial)) (by kernel_rfl)
  · rw [if_neg (nt c1)]
    rcases bt (x.Kind == 3) with c2 | c2
    · rw [if_pos c2]
      rcases bt (decide (x.Length > 0)) with c3 | c3
      · rw [if_pos c3]
        rcases bt (!((x.Row 0) == 0)) with c4 | c4
        · rw [if_pos c4]
          exact fn_of_x hG hM Tryd.func51 (by kernel_rfl) (by kernel_rfl) 400 [.group [1, 1, 4, 1, 1, 1, 1, 1, 1, 1, 1, 1, 1, 1], .no, .yes, .yes, .yes, .yes, .lit 0, .yes, .yes, .yes, .yes] (J c1 (J c2 (J c3 (J c3 (J c3 (J T1 (J (Eq.refl (0 : Int)) (J c3 (J c3 (J c3 (J c4 trivial))))))))))) (by kernel_rfl)
        · rw [if_neg (nt c4)]
          rcases bt ((Int.tmod (i64.wrap (Int.tdiv (x.Reg 0) 16)) 2) == 1) with c5 | c5
          · rw [if_pos c5]
            exact fn_of_x hG hM Tryd.func51 (by kernel_rfl) (by kernel_rfl) 400 [.group [1, 1, 4, 1, 1, 1, 1, 1, 1, 1, 1, 1, 1, 1], .no, .yes, .yes, .yes, .yes, .lit 0, .yes, .yes, .yes, .no, .lit 0, .yes, .lit 0] (J c1 (J c2 (J c3 (J c3 (J c3 (J T1 (J (Eq.refl (0 : Int)) (J c3 (J c3 (J c3 (J c4 (J (Eq.refl (0 : Int)) (J (by decide : 0 < 4) (J (by decide : ((16 : Int) ≠ 0)) (J (by decide : ((2 : Int) ≠ 0)) (J c5 (J (Eq.refl (0 : Int)) (J (by decide : 0 < 4) (J (by decide : ((16 : Int) ≠ 0)) trivial))))))))))))))))))) (by kernel_rfl)
          · rw [if_neg (nt c5)]
            exact fn_of_x hG hM Tryd.func51 (by kernel_rfl) (by kernel_rfl) 400 [.group [1, 1, 4, 1, 1, 1, 1, 1, 1, 1, 1, 1, 1, 1], .no, .yes, .yes, .yes, .yes, .lit 0, .yes, .yes, .yes, .no, .lit 0, .no] (J c1 (J c2 (J c3 (J c3 (J c3 (J T1 (J (Eq.refl (0 : Int)) (J c3 (J c3 (J c3 (J c4 (J (Eq.refl (0 : Int)) (J (by decide : 0 < 4) (J (by decide : ((16 : Int) ≠ 0)) (J (by decide : ((2 : Int) ≠ 0)) (J c5 trivial)))))))))))))))) (by kernel_rfl)
      · rw [if_neg (nt c3)]
        exact fn_of_x hG hM Tryd.func51 (by kernel_rfl) (by kernel_rfl) 400 [.group [1, 1, 4, 1, 1, 1, 1, 1, 1, 1, 1, 1, 1, 1], .no, .yes, .no, .no, .no, .no, .no, .no, .yes] (J c1 (J c2 (J c3 (J c3 (J c3 (J c3 (J c3 (J c3 (J T1 trivial))))))))) (by kernel_rfl)
    · rw [if_neg (nt c2)]
      rcases bt (decide (x.Length > 0)) with c3 | c3
      · rw [if_pos c3]
        rcases bt (!(rMute x)) with c4 | c4
        · rw [if_pos c4]
          rcases bt (!((strAt ⟨#[48, 49, 49, 49, 49, 48, 48, 48]⟩ (Int.toNat x.Step)) == 49)) with c5 | c5
          · rw [if_pos c5]
            have o1 : (0 : Int) ≤ x.Step ∧ x.Step < ((ByteArray.size ⟨#[48, 49, 49, 49, 49, 48, 48, 48]⟩ : Nat) : Int) := by first | decide | exact step8 hg (by assumption) rfl | omega | exact hg | exact ⟨hg.reg, hg.period, hg.step, hg.kind⟩ | exact Good.put hg _ | exact Good.len hg | exact Good.sweep hg _ | (have h0 := hg.reg 0; have h1 := hg.reg 1; have h2 := hg.reg 2; have h4 := hg.step; have t1 := Int.tdiv_eq_ediv_of_nonneg (b := 8) h1.1; have t2 := Int.tmod_eq_emod_of_nonneg (b := 16) h2.1; have t3 := Int.tdiv_eq_ediv_of_nonneg (b := 64) h0.1; simp only [decide_eq_true_eq, decide_eq_false_iff_not, t1, t2, t3, IntKind.wrap_i64] at *; omega)
            exact fn_of_x hG hM Tryd.func51 (by kernel_rfl) (by kernel_rfl) 400 [.group [1, 1, 4, 1, 1, 1, 1, 1, 1, 1, 1, 1, 1, 1], .no, .no, .lit 0, .eq 35 (.int .i64 2), .lit 2, .yes, .yes, .call [] [] 1000 (.bool (rMute x)) [], .yes, .yes, .yes, .yes, .yes, .yes, .yes, .yes, .yes] (J c1 (J c2 (J (Eq.refl (0 : Int)) (J (by decide : 0 < 4) (J (congrArg (Value.int .i64) hd : Value.int .i64 (i64.wrap (Int.tdiv (x.Reg 0) 64)) = Value.int .i64 2) (J (by decide : ((64 : Int) ≠ 0)) (J (Eq.refl (2 : Int)) (J (by decide : 2 < 4) (J c3 (J c3 (J (rMute_ok x hg) (J c3 (J c3 (J c4 (J c4 (J c4 (J c4 (J o1 (J c4 (J c4 (J c5 trivial))))))))))))))))))))) (by kernel_rfl)
          · rw [if_neg (nt c5)]
            rcases bt ((Int.tmod (i64.wrap (Int.tdiv (x.Reg 0) 16)) 2) == 1) with c6 | c6
            · rw [if_pos c6]
              have o1 : (0 : Int) ≤ x.Step ∧ x.Step < ((ByteArray.size ⟨#[48, 49, 49, 49, 49, 48, 48, 48]⟩ : Nat) : Int) := by first | decide | exact step8 hg (by assumption) rfl | omega | exact hg | exact ⟨hg.reg, hg.period, hg.step, hg.kind⟩ | exact Good.put hg _ | exact Good.len hg | exact Good.sweep hg _ | (have h0 := hg.reg 0; have h1 := hg.reg 1; have h2 := hg.reg 2; have h4 := hg.step; have t1 := Int.tdiv_eq_ediv_of_nonneg (b := 8) h1.1; have t2 := Int.tmod_eq_emod_of_nonneg (b := 16) h2.1; have t3 := Int.tdiv_eq_ediv_of_nonneg (b := 64) h0.1; simp only [decide_eq_true_eq, decide_eq_false_iff_not, t1, t2, t3, IntKind.wrap_i64] at *; omega)
              exact fn_of_x hG hM Tryd.func51 (by kernel_rfl) (by kernel_rfl) 400 [.group [1, 1, 4, 1, 1, 1, 1, 1, 1, 1, 1, 1, 1, 1], .no, .no, .lit 0, .eq 35 (.int .i64 2), .lit 2, .yes, .yes, .call [] [] 1000 (.bool (rMute x)) [], .yes, .yes, .yes, .yes, .yes, .yes, .yes, .yes, .no, .lit 0, .yes, .lit 0] (J c1 (J c2 (J (Eq.refl (0 : Int)) (J (by decide : 0 < 4) (J (congrArg (Value.int .i64) hd : Value.int .i64 (i64.wrap (Int.tdiv (x.Reg 0) 64)) = Value.int .i64 2) (J (by decide : ((64 : Int) ≠ 0)) (J (Eq.refl (2 : Int)) (J (by decide : 2 < 4) (J c3 (J c3 (J (rMute_ok x hg) (J c3 (J c3 (J c4 (J c4 (J c4 (J c4 (J o1 (J c4 (J c4 (J c5 (J (Eq.refl (0 : Int)) (J (by decide : 0 < 4) (J (by decide : ((16 : Int) ≠ 0)) (J (by decide : ((2 : Int) ≠ 0)) (J c6 (J (Eq.refl (0 : Int)) (J (by decide : 0 < 4) (J (by decide : ((16 : Int) ≠ 0)) trivial))))))))))))))))))))))))))))) (by kernel_rfl)
            · rw [if_neg (nt c6)]
              have o1 : (0 : Int) ≤ x.Step ∧ x.Step < ((ByteArray.size ⟨#[48, 49, 49, 49, 49, 48, 48, 48]⟩ : Nat) : Int) := by first | decide | exact step8 hg (by assumption) rfl | omega | exact hg | exact ⟨hg.reg, hg.period, hg.step, hg.kind⟩ | exact Good.put hg _ | exact Good.len hg | exact Good.sweep hg _ | (have h0 := hg.reg 0; have h1 := hg.reg 1; have h2 := hg.reg 2; have h4 := hg.step; have t1 := Int.tdiv_eq_ediv_of_nonneg (b := 8) h1.1; have t2 := Int.tmod_eq_emod_of_nonneg (b := 16) h2.1; have t3 := Int.tdiv_eq_ediv_of_nonneg (b := 64) h0.1; simp only [decide_eq_true_eq, decide_eq_false_iff_not, t1, t2, t3, IntKind.wrap_i64] at *; omega)
              exact fn_of_x hG hM Tryd.func51 (by kernel_rfl) (by kernel_rfl) 400 [.group [1, 1, 4, 1, 1, 1, 1, 1, 1, 1, 1, 1, 1, 1], .no, .no, .lit 0, .eq 35 (.int .i64 2), .lit 2, .yes, .yes, .call [] [] 1000 (.bool (rMute x)) [], .yes, .yes, .yes, .yes, .yes, .yes, .yes, .yes, .no, .lit 0, .no] (J c1 (J c2 (J (Eq.refl (0 : Int)) (J (by decide : 0 < 4) (J (congrArg (Value.int .i64) hd : Value.int .i64 (i64.wrap (Int.tdiv (x.Reg 0) 64)) = Value.int .i64 2) (J (by decide : ((64 : Int) ≠ 0)) (J (Eq.refl (2 : Int)) (J (by decide : 2 < 4) (J c3 (J c3 (J (rMute_ok x hg) (J c3 (J c3 (J c4 (J c4 (J c4 (J c4 (J o1 (J c4 (J c4 (J c5 (J (Eq.refl (0 : Int)) (J (by decide : 0 < 4) (J (by decide : ((16 : Int) ≠ 0)) (J (by decide : ((2 : Int) ≠ 0)) (J c6 trivial)))))))))))))))))))))))))) (by kernel_rfl)
        · rw [if_neg (nt c4)]
          exact fn_of_x hG hM Tryd.func51 (by kernel_rfl) (by kernel_rfl) 400 [.group [1, 1, 4, 1, 1, 1, 1, 1, 1, 1, 1, 1, 1, 1], .no, .no, .lit 0, .eq 35 (.int .i64 2), .lit 2, .yes, .yes, .call [] [] 1000 (.bool (rMute x)) [], .yes, .yes, .no, .no, .no, .no, .no, .no, .yes] (J c1 (J c2 (J (Eq.refl (0 : Int)) (J (by decide : 0 < 4) (J (congrArg (Value.int .i64) hd : Value.int .i64 (i64.wrap (Int.tdiv (x.Reg 0) 64)) = Value.int .i64 2) (J (by decide : ((64 : Int) ≠ 0)) (J (Eq.refl (2 : Int)) (J (by decide : 2 < 4) (J c3 (J c3 (J (rMute_ok x hg) (J c3 (J c3 (J c4 (J c4 (J c4 (J c4 (J c4 (J c4 (J T1 trivial)))))))))))))))))))) (by kernel_rfl)
      · rw [if_neg (nt c3)]
        exact fn_of_x hG hM Tryd.func51 (by kernel_rfl) (by kernel_rfl) 400 [.group [1, 1, 4, 1, 1, 1, 1, 1, 1, 1, 1, 1, 1, 1], .no, .no, .lit 0, .eq 35 (.int .i64 2), .lit 2, .no, .no, .no, .no, .no, .no, .no, .no, .no, .no, .yes] (J c1 (J c2 (J (Eq.refl (0 : Int)) (J (by decide : 0 < 4) (J (congrArg (Value.int .i64) hd : Value.int .i64 (i64.wrap (Int.tdiv (x.Reg 0) 64)) = Value.int .i64 2) (J (by decide : ((64 : Int) ≠ 0)) (J (Eq.refl (2 : Int)) (J (by decide : 2 < 4) (J c3 (J c3 (J c3 (J c3 (J T0 (J T0 (J T0 (J T0 (J T0 (J T0 (J T1 trivial))))))))))))))))))) (by kernel_rfl)
def rOut_3 (x : RTone) : Int :=
  if (x.Kind == 2) = true then
    if (decide (x.Step < 16)) = true then
      (i64.wrap (15 - x.Step))
    else
      (i64.wrap (x.Step - 16))
  else
    if (x.Kind == 3) = true then
      if (decide (x.Length > 0)) = true then
        if (!((x.Row 0) == 0)) = true then
          0
        else
          if ((Int.tmod (i64.wrap (Int.tdiv (x.Reg 0) 16)) 2) == 1) = true then
            (Int.tmod (x.Reg 0) 16)
          else
            x.Level
      else
        0
    else
      if (decide (x.Length > 0)) = true then
        if (!(rMute x)) = true then
          if (!((strAt ⟨#[49, 48, 48, 49, 49, 49, 49, 49]⟩ (Int.toNat x.Step)) == 49)) = true then
            0
          else
            if ((Int.tmod (i64.wrap (Int.tdiv (x.Reg 0) 16)) 2) == 1) = true then
              (Int.tmod (x.Reg 0) 16)
            else
              x.Level
        else
          0
      else
        0
theorem rOut_3_ok (x : RTone) (hg : Good x) (hd : (i64.wrap (Int.tdiv (x.Reg 0) 64)) = 3) : FnSpec Tryd.prog 51 1000 [RTone.enc x] [] (.int .i64 (rOut_3 x)) [] := by
  unfold rOut_3
  rcases bt (x.Kind == 2) with c1 | c1
  · rw [if_pos c1]
    rcases bt (decide (x.Step < 16)) with c2 | c2
    · rw [if_pos c2]
      exact fn_of_x hG hM Tryd.func51 (by kernel_rfl) (by kernel_rfl) 400 [.group [1, 1, 4, 1, 1, 1, 1, 1, 1, 1, 1, 1, 1, 1], .yes, .yes] (J c1 (J c2 trivial)) (by kernel_rfl)
    · rw [if_neg (nt c2)]
      exact fn_of_x hG hM Tryd.func51 (by kernel_rfl) (by kernel_rfl) 400 [.group [1, 1, 4, 1, 1, 1, 1, 1, 1, 1, 1, 1, 1, 1], .yes, .no] (J c1 (J c2 trivial)) (by kernel_rfl)
  · rw [if_neg (nt c1)]
    rcases bt (x.Kind == 3) with c2 | c2
    · rw [if_pos c2]
      rcases bt (decide (x.Length > 0)) with c3 | c3
      · rw [if_pos c3]
        rcases bt (!((x.Row 0) == 0)) with c4 | c4
        · rw [if_pos c4]
          exact fn_of_x hG hM Tryd.func51 (by kernel_rfl) (by kernel_rfl) 400 [.group [1, 1, 4, 1, 1, 1, 1, 1, 1, 1, 1, 1, 1, 1], .no, .yes, .yes, .yes, .yes, .lit 0, .yes, .yes, .yes, .yes] (J c1 (J c2 (J c3 (J c3 (J c3 (J T1 (J (Eq.refl (0 : Int)) (J c3 (J c3 (J c3 (J c4 trivial))))))))))) (by kernel_rfl)
        · rw [if_neg (nt c4)]
          rcases bt ((Int.tmod (i64.wrap (Int.tdiv (x.Reg 0) 16)) 2) == 1) with c5 | c5
          · rw [if_pos c5]
            exact fn_of_x hG hM Tryd.func51 (by kernel_rfl) (by kernel_rfl) 400 [.group [1, 1, 4, 1, 1, 1, 1, 1, 1, 1, 1, 1, 1, 1], .no, .yes, .yes, .yes, .yes, .lit 0, .yes, .yes, .yes, .no, .lit 0, .yes, .lit 0] (J c1 (J c2 (J c3 (J c3 (J c3 (J T1 (J (Eq.refl (0 : Int)) (J c3 (J c3 (J c3 (J c4 (J (Eq.refl (0 : Int)) (J (by decide : 0 < 4) (J (by decide : ((16 : Int) ≠ 0)) (J (by decide : ((2 : Int) ≠ 0)) (J c5 (J (Eq.refl (0 : Int)) (J (by decide : 0 < 4) (J (by decide : ((16 : Int) ≠ 0)) trivial))))))))))))))))))) (by kernel_rfl)
          · rw [if_neg (nt c5)]
            exact fn_of_x hG hM Tryd.func51 (by kernel_rfl) (by kernel_rfl) 400 [.group [1, 1, 4, 1, 1, 1, 1, 1, 1, 1, 1, 1, 1, 1], .no, .yes, .yes, .yes, .yes, .lit 0, .yes, .yes, .yes, .no, .lit 0, .no] (J c1 (J c2 (J c3 (J c3 (J c3 (J T1 (J (Eq.refl (0 : Int)) (J c3 (J c3 (J c3 (J c4 (J (Eq.refl (0 : Int)) (J (by decide : 0 < 4) (J (by decide : ((16 : Int) ≠ 0)) (J (by decide : ((2 : Int) ≠ 0)) (J c5 trivial)))))))))))))))) (by kernel_rfl)
      · rw [if_neg (nt c3)]
        exact fn_of_x hG hM Tryd.func51 (by kernel_rfl) (by kernel_rfl) 400 [.group [1, 1, 4, 1, 1, 1, 1, 1, 1, 1, 1, 1, 1, 1], .no, .yes, .no, .no, .no, .no, .no, .no, .yes] (J c1 (J c2 (J c3 (J c3 (J c3 (J c3 (J c3 (J c3 (J T1 trivial))))))))) (by kernel_rfl)
    · rw [if_neg (nt c2)]
      rcases bt (decide (x.Length > 0)) with c3 | c3
      · rw [if_pos c3]
        rcases bt (!(rMute x)) with c4 | c4
        · rw [if_pos c4]
          rcases bt (!((strAt ⟨#[49, 48, 48, 49, 49, 49, 49, 49]⟩ (Int.toNat x.Step)) == 49)) with c5 | c5
          · rw [if_pos c5]
            have o1 : (0 : Int) ≤ x.Step ∧ x.Step < ((ByteArray.size ⟨#[49, 48, 48, 49, 49, 49, 49, 49]⟩ : Nat) : Int) := by first | decide | exact step8 hg (by assumption) rfl | omega | exact hg | exact ⟨hg.reg, hg.period, hg.step, hg.kind⟩ | exact Good.put hg _ | exact Good.len hg | exact Good.sweep hg _ | (have h0 := hg.reg 0; have h1 := hg.reg 1; have h2 := hg.reg 2; have h4 := hg.step; have t1 := Int.tdiv_eq_ediv_of_nonneg (b := 8) h1.1; have t2 := Int.tmod_eq_emod_of_nonneg (b := 16) h2.1; have t3 := Int.tdiv_eq_ediv_of_nonneg (b := 64) h0.1; simp only [decide_eq_true_eq, decide_eq_false_iff_not, t1, t2, t3, IntKind.wrap_i64] at *; omega)
            exact fn_of_x hG hM Tryd.func51 (by kernel_rfl) (by kernel_rfl) 400 [.group [1, 1, 4, 1, 1, 1, 1, 1, 1, 1, 1, 1, 1, 1], .no, .no, .lit 0, .eq 35 (.int .i64 3), .lit 3, .yes, .yes, .call [] [] 1000 (.bool (rMute x)) [], .yes, .yes, .yes, .yes, .yes, .yes, .yes, .yes, .yes] (J c1 (J c2 (J (Eq.refl (0 : Int)) (J (by decide : 0 < 4) (J (congrArg (Value.int .i64) hd : Value.int .i64 (i64.wrap (Int.tdiv (x.Reg 0) 64)) = Value.int .i64 3) (J (by decide : ((64 : Int) ≠ 0)) (J (Eq.refl (3 : Int)) (J (by decide : 3 < 4) (J c3 (J c3 (J (rMute_ok x hg) (J c3 (J c3 (J c4 (J c4 (J c4 (J c4 (J o1 (J c4 (J c4 (J c5 trivial))))))))))))))))))))) (by kernel_rfl)
          · rw [if_neg (nt c5)]
            rcases bt ((Int.tmod (i64.wrap (Int.tdiv (x.Reg 0) 16)) 2) == 1) with c6 | c6
            · rw [if_pos c6]
              have o1 : (0 : Int) ≤ x.Step ∧ x.Step < ((ByteArray.size ⟨#[49, 48, 48, 49, 49, 49, 49, 49]⟩ : Nat) : Int) := by first | decide | exact step8 hg (by assumption) rfl | omega | exact hg | exact ⟨hg.reg, hg.period, hg.step, hg.kind⟩ | exact Good.put hg _ | exact Good.len hg | exact Good.sweep hg _ | (have h0 := hg.reg 0; have h1 := hg.reg 1; have h2 := hg.reg 2; have h4 := hg.step; have t1 := Int.tdiv_eq_ediv_of_nonneg (b := 8) h1.1; have t2 := Int.tmod_eq_emod_of_nonneg (b := 16) h2.1; have t3 := Int.tdiv_eq_ediv_of_nonneg (b := 64) h0.1; simp only [decide_eq_true_eq, decide_eq_false_iff_not, t1, t2, t3, IntKind.wrap_i64] at *; omega)
              exact fn_of_x hG hM Tryd.func51 (by kernel_rfl) (by kernel_rfl) 400 [.group [1, 1, 4, 1, 1, 1, 1, 1, 1, 1, 1, 1, 1, 1], .no, .no, .lit 0, .eq 35 (.int .i64 3), .lit 3, .yes, .yes, .call [] [] 1000 (.bool (rMute x)) [], .yes, .yes, .yes, .yes, .yes, .yes, .yes, .yes, .no, .lit 0, .yes, .lit 0] (J c1 (J c2 (J (Eq.refl (0 : Int)) (J (by decide : 0 < 4) (J (congrArg (Value.int .i64) hd : Value.int .i64 (i64.wrap (Int.tdiv (x.Reg 0) 64)) = Value.int .i64 3) (J (by decide : ((64 : Int) ≠ 0)) (J (Eq.refl (3 : Int)) (J (by decide : 3 < 4) (J c3 (J c3 (J (rMute_ok x hg) (J c3 (J c3 (J c4 (J c4 (J c4 (J c4 (J o1 (J c4 (J c4 (J c5 (J (Eq.refl (0 : Int)) (J (by decide : 0 < 4) (J (by decide : ((16 : Int) ≠ 0)) (J (by decide : ((2 : Int) ≠ 0)) (J c6 (J (Eq.refl (0 : Int)) (J (by decide : 0 < 4) (J (by decide : ((16 : Int) ≠ 0)) trivial))))))))))))))))))))))))))))) (by kernel_rfl)
            · rw [if_neg (nt c6)]
              have o1 : (0 : Int) ≤ x.Step ∧ x.Step < ((ByteArray.size ⟨#[49, 48, 48, 49, 49, 49, 49, 49]⟩ : Nat) : Int) := by first | decide | exact step8 hg (by assumption) rfl | omega | exact hg | exact ⟨hg.reg, hg.period, hg.step, hg.kind⟩ | exact Good.put hg _ | exact Good.len hg | exact Good.sweep hg _ | (have h0 := hg.reg 0; have h1 := hg.reg 1; have h2 := hg.reg 2; have h4 := hg.step; have t1 := Int.tdiv_eq_ediv_of_nonneg (b := 8) h1.1; have t2 := Int.tmod_eq_emod_of_nonneg (b := 16) h2.1; have t3 := Int.tdiv_eq_ediv_of_nonneg (b := 64) h0.1; simp only [decide_eq_true_eq, decide_eq_false_iff_not, t1, t2, t3, IntKind.wrap_i64] at *; omega)
              exact fn_of_x hG hM Tryd.func51 (by kernel_rfl) (by kernel_rfl) 400 [.group [1, 1, 4, 1, 1, 1, 1, 1, 1, 1, 1, 1, 1, 1], .no, .no, .lit 0, .eq 35 (.int .i64 3), .lit 3, .yes, .yes, .call [] [] 1000 (.bool (rMute x)) [], .yes, .yes, .yes, .yes, .yes, .yes, .yes, .yes, .no, .lit 0, .no] (J c1 (J c2 (J (Eq.refl (0 : Int)) (J (by decide : 0 < 4) (J (congrArg (Value.int .i64) hd : Value.int .i64 (i64.wrap (Int.tdiv (x.Reg 0) 64)) = Value.int .i64 3) (J (by decide : ((64 : Int) ≠ 0)) (J (Eq.refl (3 : Int)) (J (by decide : 3 < 4) (J c3 (J c3 (J (rMute_ok x hg) (J c3 (J c3 (J c4 (J c4 (J c4 (J c4 (J o1 (J c4 (J c4 (J c5 (J (Eq.refl (0 : Int)) (J (by decide : 0 < 4) (J (by decide : ((16 : Int) ≠ 0)) (J (by decide : ((2 : Int) ≠ 0)) (J c6 trivial)))))))))))))))))))))))))) (by kernel_rfl)
        · rw [if_neg (nt c4)]
          exact fn_of_x hG hM Tryd.func51 (by kernel_rfl) (by kernel_rfl) 400 [.group [1, 1, 4, 1, 1, 1, 1, 1, 1, 1, 1, 1, 1, 1], .no, .no, .lit 0, .eq 35 (.int .i64 3), .lit 3, .yes, .yes, .call [] [] 1000 (.bool (rMute x)) [], .yes, .yes, .no, .no, .no, .no, .no, .no, .yes] (J c1 (J c2 (J (Eq.refl (0 : Int)) (J (by decide : 0 < 4) (J (congrArg (Value.int .i64) hd : Value.int .i64 (i64.wrap (Int.tdiv (x.Reg 0) 64)) = Value.int .i64 3) (J (by decide : ((64 : Int) ≠ 0)) (J (Eq.refl (3 : Int)) (J (by decide : 3 < 4) (J c3 (J c3 (J (rMute_ok x hg) (J c3 (J c3 (J c4 (J c4 (J c4 (J c4 (J c4 (J c4 (J T1 trivial)))))))))))))))))))) (by kernel_rfl)
      · rw [if_neg (nt c3)]
        exact fn_of_x hG hM Tryd.func51 (by kernel_rfl) (by kernel_rfl) 400 [.group [1, 1, 4, 1, 1, 1, 1, 1, 1, 1, 1, 1, 1, 1], .no, .no, .lit 0, .eq 35 (.int .i64 3), .lit 3, .no, .no, .no, .no, .no, .no, .no, .no, .no, .no, .yes] (J c1 (J c2 (J (Eq.refl (0 : Int)) (J (by decide : 0 < 4) (J (congrArg (Value.int .i64) hd : Value.int .i64 (i64.wrap (Int.tdiv (x.Reg 0) 64)) = Value.int .i64 3) (J (by decide : ((64 : Int) ≠ 0)) (J (Eq.refl (3 : Int)) (J (by decide : 3 < 4) (J c3 (J c3 (J c3 (J c3 (J T0 (J T0 (J T0 (J T0 (J T0 (J T0 (J T1 trivial))))))))))))))))))) (by kernel_rfl)
end Go.Proofs.YtgpcfjokmonlgaaDoor
namespace Go.Proofs.YtgpcfjokmonlgaaDoor
open Go VX IntWalk
open Go.IntKind (i64 u8 u16)
set_option maxRecDepth 100000
set_option linter.unusedSimpArgs false
set_option linter.unusedVariables false
def rOut (x : RTone) : Int :=
  if x.Reg 0 / 64 = 0 then rOut_0 x else if x.Reg 0 / 64 = 1 then rOut_1 x else if x.Reg 0 / 64 = 2 then rOut_2 x else rOut_3 x
theorem rOut_ok (x : RTone) (hg : Good x) : FnSpec Tryd.prog 51 1000 [RTone.enc x] [] (.int .i64 (rOut x)) [] := by
  obtain ⟨r0, r1⟩ := hg.reg 0
  have ed : (i64.wrap (Int.tdiv (x.Reg 0) 64)) = x.Reg 0 / 64 := by
    rw [Int.tdiv_eq_ediv_of_nonneg r0, i64_in _ (by omega)]
  unfold rOut
  by_cases c0 : x.Reg 0 / 64 = 0
  · rw [if_pos c0]; exact rOut_0_ok x hg (by rw [ed, c0])
  · rw [if_neg c0]
    by_cases c1 : x.Reg 0 / 64 = 1
    · rw [if_pos c1]; exact rOut_1_ok x hg (by rw [ed, c1])
    · rw [if_neg c1]
      by_cases c2 : x.Reg 0 / 64 = 2
      · rw [if_pos c2]; exact rOut_2_ok x hg (by rw [ed, c2])
      · rw [if_neg c2]; exact rOut_3_ok x hg (by rw [ed]; omega)
end Go.Proofs.YtgpcfjokmonlgaaDoor
namespace Go.Proofs.YtgpcfjokmonlgaaDoor
open Go VX
open Go.IntKind (i64 u8 u16)
set_option linter.unusedVariables false
set_option linter.unusedSimpArgs false
set_option maxRecDepth 100000
structure RSmp where
  Reg : Nat → Int
  Level : Int
  Next : Int
  Row : Nat → Int
  Bits : Int
  Silent : Bool
  Timer : Int
  At : Int
  Left : Int
  IRQ : Bool
  told : Bool
def RSmp.enc (s : RSmp) : Value := .agg ⟨[.int .i64 (s.Reg 0), .int .i64 (s.Reg 1), .int .i64 (s.Reg 2), .int .i64 (s.Reg 3), .int .i64 s.Level, .int .i64 s.Next, .func (.yield 1) ⟨[.int .i64 (s.Row 0), .int .i64 (s.Row 1), .int .i64 (s.Row 2), .int .i64 (s.Row 3), .int .i64 (s.Row 4), .int .i64 (s.Row 5), .int .i64 (s.Row 6), .int .i64 (s.Row 7)]⟩ ⟨[.bool s.told]⟩, .int .i64 s.Bits, .bool s.Silent, .int .i64 s.Timer, .int .i64 s.At, .int .i64 s.Left, .bool s.IRQ]⟩
def RSmp.blk (s : RSmp) : Blk := ⟨[.ints .i64 4 s.Reg, .one (.int .i64 s.Level), .one (.int .i64 s.Next), .one (.func (.yield 1) ⟨[.int .i64 (s.Row 0), .int .i64 (s.Row 1), .int .i64 (s.Row 2), .int .i64 (s.Row 3), .int .i64 (s.Row 4), .int .i64 (s.Row 5), .int .i64 (s.Row 6), .int .i64 (s.Row 7)]⟩ ⟨[.bool s.told]⟩), .one (.int .i64 s.Bits), .one (.bool s.Silent), .one (.int .i64 s.Timer), .one (.int .i64 s.At), .one (.int .i64 s.Left), .one (.bool s.IRQ)], 50, false⟩
def RSmp.cells (s : RSmp) : List Value := [.int .i64 (s.Reg 0), .int .i64 (s.Reg 1), .int .i64 (s.Reg 2), .int .i64 (s.Reg 3), .int .i64 s.Level, .int .i64 s.Next, .func (.yield 1) ⟨[.int .i64 (s.Row 0), .int .i64 (s.Row 1), .int .i64 (s.Row 2), .int .i64 (s.Row 3), .int .i64 (s.Row 4), .int .i64 (s.Row 5), .int .i64 (s.Row 6), .int .i64 (s.Row 7)]⟩ ⟨[.bool s.told]⟩, .int .i64 s.Bits, .bool s.Silent, .int .i64 s.Timer, .int .i64 s.At, .int .i64 s.Left, .bool s.IRQ]
structure RSnd where
  Tones_0 : RTone
  Tones_1 : RTone
  Tones_2 : RTone
  Tones_3 : RTone
  M : RSmp
  Count : Int
  Long : Bool
  Barred : Bool
  IRQ : Bool
  Cycles : Int
def RSnd.enc (s : RSnd) : Value := .agg ⟨[.int .i64 s.Tones_0.Kind, .bool s.Tones_0.On, .int .i64 (s.Tones_0.Reg 0), .int .i64 (s.Tones_0.Reg 1), .int .i64 (s.Tones_0.Reg 2), .int .i64 (s.Tones_0.Reg 3), .int .i64 s.Tones_0.Length, .int .i64 s.Tones_0.Timer, .int .i64 s.Tones_0.Period, .int .i64 s.Tones_0.Step, .bool s.Tones_0.Anew, .bool s.Tones_0.Swept, .int .i64 s.Tones_0.Level, .int .i64 s.Tones_0.Count, .int .i64 s.Tones_0.Line, .int .i64 s.Tones_0.Sweep, .func (.yield 1) ⟨[.int .i64 (s.Tones_0.Row 0), .int .i64 (s.Tones_0.Row 1), .int .i64 (s.Tones_0.Row 2), .int .i64 (s.Tones_0.Row 3), .int .i64 (s.Tones_0.Row 4), .int .i64 (s.Tones_0.Row 5), .int .i64 (s.Tones_0.Row 6), .int .i64 (s.Tones_0.Row 7), .int .i64 (s.Tones_0.Row 8), .int .i64 (s.Tones_0.Row 9), .int .i64 (s.Tones_0.Row 10), .int .i64 (s.Tones_0.Row 11), .int .i64 (s.Tones_0.Row 12), .int .i64 (s.Tones_0.Row 13), .int .i64 (s.Tones_0.Row 14)]⟩ ⟨[.bool true]⟩, .int .i64 s.Tones_1.Kind, .bool s.Tones_1.On, .int .i64 (s.Tones_1.Reg 0), .int .i64 (s.Tones_1.Reg 1), .int .i64 (s.Tones_1.Reg 2), .int .i64 (s.Tones_1.Reg 3), .int .i64 s.Tones_1.Length, .int .i64 s.Tones_1.Timer, .int .i64 s.Tones_1.Period, .int .i64 s.Tones_1.Step, .bool s.Tones_1.Anew, .bool s.Tones_1.Swept, .int .i64 s.Tones_1.Level, .int .i64 s.Tones_1.Count, .int .i64 s.Tones_1.Line, .int .i64 s.Tones_1.Sweep, .func (.yield 1) ⟨[.int .i64 (s.Tones_1.Row 0), .int .i64 (s.Tones_1.Row 1), .int .i64 (s.Tones_1.Row 2), .int .i64 (s.Tones_1.Row 3), .int .i64 (s.Tones_1.Row 4), .int .i64 (s.Tones_1.Row 5), .int .i64 (s.Tones_1.Row 6), .int .i64 (s.Tones_1.Row 7), .int .i64 (s.Tones_1.Row 8), .int .i64 (s.Tones_1.Row 9), .int .i64 (s.Tones_1.Row 10), .int .i64 (s.Tones_1.Row 11), .int .i64 (s.Tones_1.Row 12), .int .i64 (s.Tones_1.Row 13), .int .i64 (s.Tones_1.Row 14)]⟩ ⟨[.bool true]⟩, .int .i64 s.Tones_2.Kind, .bool s.Tones_2.On, .int .i64 (s.Tones_2.Reg 0), .int .i64 (s.Tones_2.Reg 1), .int .i64 (s.Tones_2.Reg 2), .int .i64 (s.Tones_2.Reg 3), .int .i64 s.Tones_2.Length, .int .i64 s.Tones_2.Timer, .int .i64 s.Tones_2.Period, .int .i64 s.Tones_2.Step, .bool s.Tones_2.Anew, .bool s.Tones_2.Swept, .int .i64 s.Tones_2.Level, .int .i64 s.Tones_2.Count, .int .i64 s.Tones_2.Line, .int .i64 s.Tones_2.Sweep, .func (.yield 1) ⟨[.int .i64 (s.Tones_2.Row 0), .int .i64 (s.Tones_2.Row 1), .int .i64 (s.Tones_2.Row 2), .int .i64 (s.Tones_2.Row 3), .int .i64 (s.Tones_2.Row 4), .int .i64 (s.Tones_2.Row 5), .int .i64 (s.Tones_2.Row 6), .int .i64 (s.Tones_2.Row 7), .int .i64 (s.Tones_2.Row 8), .int .i64 (s.Tones_2.Row 9), .int .i64 (s.Tones_2.Row 10), .int .i64 (s.Tones_2.Row 11), .int .i64 (s.Tones_2.Row 12), .int .i64 (s.Tones_2.Row 13), .int .i64 (s.Tones_2.Row 14)]⟩ ⟨[.bool true]⟩, .int .i64 s.Tones_3.Kind, .bool s.Tones_3.On, .int .i64 (s.Tones_3.Reg 0), .int .i64 (s.Tones_3.Reg 1), .int .i64 (s.Tones_3.Reg 2), .int .i64 (s.Tones_3.Reg 3), .int .i64 s.Tones_3.Length, .int .i64 s.Tones_3.Timer, .int .i64 s.Tones_3.Period, .int .i64 s.Tones_3.Step, .bool s.Tones_3.Anew, .bool s.Tones_3.Swept, .int .i64 s.Tones_3.Level, .int .i64 s.Tones_3.Count, .int .i64 s.Tones_3.Line, .int .i64 s.Tones_3.Sweep, .func (.yield 1) ⟨[.int .i64 (s.Tones_3.Row 0), .int .i64 (s.Tones_3.Row 1), .int .i64 (s.Tones_3.Row 2), .int .i64 (s.Tones_3.Row 3), .int .i64 (s.Tones_3.Row 4), .int .i64 (s.Tones_3.Row 5), .int .i64 (s.Tones_3.Row 6), .int .i64 (s.Tones_3.Row 7), .int .i64 (s.Tones_3.Row 8), .int .i64 (s.Tones_3.Row 9), .int .i64 (s.Tones_3.Row 10), .int .i64 (s.Tones_3.Row 11), .int .i64 (s.Tones_3.Row 12), .int .i64 (s.Tones_3.Row 13), .int .i64 (s.Tones_3.Row 14)]⟩ ⟨[.bool true]⟩, .int .i64 (s.M.Reg 0), .int .i64 (s.M.Reg 1), .int .i64 (s.M.Reg 2), .int .i64 (s.M.Reg 3), .int .i64 s.M.Level, .int .i64 s.M.Next, .func (.yield 1) ⟨[.int .i64 (s.M.Row 0), .int .i64 (s.M.Row 1), .int .i64 (s.M.Row 2), .int .i64 (s.M.Row 3), .int .i64 (s.M.Row 4), .int .i64 (s.M.Row 5), .int .i64 (s.M.Row 6), .int .i64 (s.M.Row 7)]⟩ ⟨[.bool s.M.told]⟩, .int .i64 s.M.Bits, .bool s.M.Silent, .int .i64 s.M.Timer, .int .i64 s.M.At, .int .i64 s.M.Left, .bool s.M.IRQ, .int .i64 s.Count, .bool s.Long, .bool s.Barred, .bool s.IRQ, .int .i64 s.Cycles]⟩
def RSnd.blk (s : RSnd) : Blk := ⟨[.one (.int .i64 s.Tones_0.Kind), .one (.bool s.Tones_0.On), .ints .i64 4 s.Tones_0.Reg, .one (.int .i64 s.Tones_0.Length), .one (.int .i64 s.Tones_0.Timer), .one (.int .i64 s.Tones_0.Period), .one (.int .i64 s.Tones_0.Step), .one (.bool s.Tones_0.Anew), .one (.bool s.Tones_0.Swept), .one (.int .i64 s.Tones_0.Level), .one (.int .i64 s.Tones_0.Count), .one (.int .i64 s.Tones_0.Line), .one (.int .i64 s.Tones_0.Sweep), .one (.func (.yield 1) ⟨[.int .i64 (s.Tones_0.Row 0), .int .i64 (s.Tones_0.Row 1), .int .i64 (s.Tones_0.Row 2), .int .i64 (s.Tones_0.Row 3), .int .i64 (s.Tones_0.Row 4), .int .i64 (s.Tones_0.Row 5), .int .i64 (s.Tones_0.Row 6), .int .i64 (s.Tones_0.Row 7), .int .i64 (s.Tones_0.Row 8), .int .i64 (s.Tones_0.Row 9), .int .i64 (s.Tones_0.Row 10), .int .i64 (s.Tones_0.Row 11), .int .i64 (s.Tones_0.Row 12), .int .i64 (s.Tones_0.Row 13), .int .i64 (s.Tones_0.Row 14)]⟩ ⟨[.bool true]⟩), .one (.int .i64 s.Tones_1.Kind), .one (.bool s.Tones_1.On), .ints .i64 4 s.Tones_1.Reg, .one (.int .i64 s.Tones_1.Length), .one (.int .i64 s.Tones_1.Timer), .one (.int .i64 s.Tones_1.Period), .one (.int .i64 s.Tones_1.Step), .one (.bool s.Tones_1.Anew), .one (.bool s.Tones_1.Swept), .one (.int .i64 s.Tones_1.Level), .one (.int .i64 s.Tones_1.Count), .one (.int .i64 s.Tones_1.Line), .one (.int .i64 s.Tones_1.Sweep), .one (.func (.yield 1) ⟨[.int .i64 (s.Tones_1.Row 0), .int .i64 (s.Tones_1.Row 1), .int .i64 (s.Tones_1.Row 2), .int .i64 (s.Tones_1.Row 3), .int .i64 (s.Tones_1.Row 4), .int .i64 (s.Tones_1.Row 5), .int .i64 (s.Tones_1.Row 6), .int .i64 (s.Tones_1.Row 7), .int .i64 (s.Tones_1.Row 8), .int .i64 (s.Tones_1.Row 9), .int .i64 (s.Tones_1.Row 10), .int .i64 (s.Tones_1.Row 11), .int .i64 (s.Tones_1.Row 12), .int .i64 (s.Tones_1.Row 13), .int .i64 (s.Tones_1.Row 14)]⟩ ⟨[.bool true]⟩), .one (.int .i64 s.Tones_2.Kind), .one (.bool s.Tones_2.On), .ints .i64 4 s.Tones_2.Reg, .one (.int .i64 s.Tones_2.Length), .one (.int .i64 s.Tones_2.Timer), .one (.int .i64 s.Tones_2.Period), .one (.int .i64 s.Tones_2.Step), .one (.bool s.Tones_2.Anew), .one (.bool s.Tones_2.Swept), .one (.int .i64 s.Tones_2.Level), .one (.int .i64 s.Tones_2.Count), .one (.int .i64 s.Tones_2.Line), .one (.int .i64 s.Tones_2.Sweep), .one (.func (.yield 1) ⟨[.int .i64 (s.Tones_2.Row 0), .int .i64 (s.Tones_2.Row 1), .int .i64 (s.Tones_2.Row 2), .int .i64 (s.Tones_2.Row 3), .int .i64 (s.Tones_2.Row 4), .int .i64 (s.Tones_2.Row 5), .int .i64 (s.Tones_2.Row 6), .int .i64 (s.Tones_2.Row 7), .int .i64 (s.Tones_2.Row 8), .int .i64 (s.Tones_2.Row 9), .int .i64 (s.Tones_2.Row 10), .int .i64 (s.Tones_2.Row 11), .int .i64 (s.Tones_2.Row 12), .int .i64 (s.Tones_2.Row 13), .int .i64 (s.Tones_2.Row 14)]⟩ ⟨[.bool true]⟩), .one (.int .i64 s.Tones_3.Kind), .one (.bool s.Tones_3.On), .ints .i64 4 s.Tones_3.Reg, .one (.int .i64 s.Tones_3.Length), .one (.int .i64 s.Tones_3.Timer), .one (.int .i64 s.Tones_3.Period), .one (.int .i64 s.Tones_3.Step), .one (.bool s.Tones_3.Anew), .one (.bool s.Tones_3.Swept), .one (.int .i64 s.Tones_3.Level), .one (.int .i64 s.Tones_3.Count), .one (.int .i64 s.Tones_3.Line), .one (.int .i64 s.Tones_3.Sweep), .one (.func (.yield 1) ⟨[.int .i64 (s.Tones_3.Row 0), .int .i64 (s.Tones_3.Row 1), .int .i64 (s.Tones_3.Row 2), .int .i64 (s.Tones_3.Row 3), .int .i64 (s.Tones_3.Row 4), .int .i64 (s.Tones_3.Row 5), .int .i64 (s.Tones_3.Row 6), .int .i64 (s.Tones_3.Row 7), .int .i64 (s.Tones_3.Row 8), .int .i64 (s.Tones_3.Row 9), .int .i64 (s.Tones_3.Row 10), .int .i64 (s.Tones_3.Row 11), .int .i64 (s.Tones_3.Row 12), .int .i64 (s.Tones_3.Row 13), .int .i64 (s.Tones_3.Row 14)]⟩ ⟨[.bool true]⟩), .ints .i64 4 s.M.Reg, .one (.int .i64 s.M.Level), .one (.int .i64 s.M.Next), .one (.func (.yield 1) ⟨[.int .i64 (s.M.Row 0), .int .i64 (s.M.Row 1), .int .i64 (s.M.Row 2), .int .i64 (s.M.Row 3), .int .i64 (s.M.Row 4), .int .i64 (s.M.Row 5), .int .i64 (s.M.Row 6), .int .i64 (s.M.Row 7)]⟩ ⟨[.bool s.M.told]⟩), .one (.int .i64 s.M.Bits), .one (.bool s.M.Silent), .one (.int .i64 s.M.Timer), .one (.int .i64 s.M.At), .one (.int .i64 s.M.Left), .one (.bool s.M.IRQ), .one (.int .i64 s.Count), .one (.bool s.Long), .one (.bool s.Barred), .one (.bool s.IRQ), .one (.int .i64 s.Cycles)], 52, false⟩
def RSnd.cells (s : RSnd) : List Value := [.int .i64 s.Tones_0.Kind, .bool s.Tones_0.On, .int .i64 (s.Tones_0.Reg 0), .int .i64 (s.Tones_0.Reg 1), .int .i64 (s.Tones_0.Reg 2), .int .i64 (s.Tones_0.Reg 3), .int .i64 s.Tones_0.Length, .int .i64 s.Tones_0.Timer, .int .i64 s.Tones_0.Period, .int .i64 s.Tones_0.Step, .bool s.Tones_0.Anew, .bool s.Tones_0.Swept, .int .i64 s.Tones_0.Level, .int .i64 s.Tones_0.Count, .int .i64 s.Tones_0.Line, .int .i64 s.Tones_0.Sweep, .func (.yield 1) ⟨[.int .i64 (s.Tones_0.Row 0), .int .i64 (s.Tones_0.Row 1), .int .i64 (s.Tones_0.Row 2), .int .i64 (s.Tones_0.Row 3), .int .i64 (s.Tones_0.Row 4), .int .i64 (s.Tones_0.Row 5), .int .i64 (s.Tones_0.Row 6), .int .i64 (s.Tones_0.Row 7), .int .i64 (s.Tones_0.Row 8), .int .i64 (s.Tones_0.Row 9), .int .i64 (s.Tones_0.Row 10), .int .i64 (s.Tones_0.Row 11), .int .i64 (s.Tones_0.Row 12), .int .i64 (s.Tones_0.Row 13), .int .i64 (s.Tones_0.Row 14)]⟩ ⟨[.bool true]⟩, .int .i64 s.Tones_1.Kind, .bool s.Tones_1.On, .int .i64 (s.Tones_1.Reg 0), .int .i64 (s.Tones_1.Reg 1), .int .i64 (s.Tones_1.Reg 2), .int .i64 (s.Tones_1.Reg 3), .int .i64 s.Tones_1.Length, .int .i64 s.Tones_1.Timer, .int .i64 s.Tones_1.Period, .int .i64 s.Tones_1.Step, .bool s.Tones_1.Anew, .bool s.Tones_1.Swept, .int .i64 s.Tones_1.Level, .int .i64 s.Tones_1.Count, .int .i64 s.Tones_1.Line, .int .i64 s.Tones_1.Sweep, .func (.yield 1) ⟨[.int .i64 (s.Tones_1.Row 0), .int .i64 (s.Tones_1.Row 1), .int .i64 (s.Tones_1.Row 2), .int .i64 (s.Tones_1.Row 3), .int .i64 (s.Tones_1.Row 4), .int .i64 (s.Tones_1.Row 5), .int .i64 (s.Tones_1.Row 6), .int .i64 (s.Tones_1.Row 7), .int .i64 (s.Tones_1.Row 8), .int .i64 (s.Tones_1.Row 9), .int .i64 (s.Tones_1.Row 10), .int .i64 (s.Tones_1.Row 11), .int .i64 (s.Tones_1.Row 12), .int .i64 (s.Tones_1.Row 13), .int .i64 (s.Tones_1.Row 14)]⟩ ⟨[.bool true]⟩, .int .i64 s.Tones_2.Kind, .bool s.Tones_2.On, .int .i64 (s.Tones_2.Reg 0), .int .i64 (s.Tones_2.Reg 1), .int .i64 (s.Tones_2.Reg 2), .int .i64 (s.Tones_2.Reg 3), .int .i64 s.Tones_2.Length, .int .i64 s.Tones_2.Timer, .int .i64 s.Tones_2.Period, .int .i64 s.Tones_2.Step, .bool s.Tones_2.Anew, .bool s.Tones_2.Swept, .int .i64 s.Tones_2.Level, .int .i64 s.Tones_2.Count, .int .i64 s.Tones_2.Line, .int .i64 s.Tones_2.Sweep, .func (.yield 1) ⟨[.int .i64 (s.Tones_2.Row 0), .int .i64 (s.Tones_2.Row 1), .int .i64 (s.Tones_2.Row 2), .int .i64 (s.Tones_2.Row 3), .int .i64 (s.Tones_2.Row 4), .int .i64 (s.Tones_2.Row 5), .int .i64 (s.Tones_2.Row 6), .int .i64 (s.Tones_2.Row 7), .int .i64 (s.Tones_2.Row 8), .int .i64 (s.Tones_2.Row 9), .int .i64 (s.Tones_2.Row 10), .int .i64 (s.Tones_2.Row 11), .int .i64 (s.Tones_2.Row 12), .int .i64 (s.Tones_2.Row 13), .int .i64 (s.Tones_2.Row 14)]⟩ ⟨[.bool true]⟩, .int .i64 s.Tones_3.Kind, .bool s.Tones_3.On, .int .i64 (s.Tones_3.Reg 0), .int .i64 (s.Tones_3.Reg 1), .int .i64 (s.Tones_3.Reg 2), .int .i64 (s.Tones_3.Reg 3), .int .i64 s.Tones_3.Length, .int .i64 s.Tones_3.Timer, .int .i64 s.Tones_3.Period, .int .i64 s.Tones_3.Step, .bool s.Tones_3.Anew, .bool s.Tones_3.Swept, .int .i64 s.Tones_3.Level, .int .i64 s.Tones_3.Count, .int .i64 s.Tones_3.Line, .int .i64 s.Tones_3.Sweep, .func (.yield 1) ⟨[.int .i64 (s.Tones_3.Row 0), .int .i64 (s.Tones_3.Row 1), .int .i64 (s.Tones_3.Row 2), .int .i64 (s.Tones_3.Row 3), .int .i64 (s.Tones_3.Row 4), .int .i64 (s.Tones_3.Row 5), .int .i64 (s.Tones_3.Row 6), .int .i64 (s.Tones_3.Row 7), .int .i64 (s.Tones_3.Row 8), .int .i64 (s.Tones_3.Row 9), .int .i64 (s.Tones_3.Row 10), .int .i64 (s.Tones_3.Row 11), .int .i64 (s.Tones_3.Row 12), .int .i64 (s.Tones_3.Row 13), .int .i64 (s.Tones_3.Row 14)]⟩ ⟨[.bool true]⟩, .int .i64 (s.M.Reg 0), .int .i64 (s.M.Reg 1), .int .i64 (s.M.Reg 2), .int .i64 (s.M.Reg 3), .int .i64 s.M.Level, .int .i64 s.M.Next, .func (.yield 1) ⟨[.int .i64 (s.M.Row 0), .int .i64 (s.M.Row 1), .int .i64 (s.M.Row 2), .int .i64 (s.M.Row 3), .int .i64 (s.M.Row 4), .int .i64 (s.M.Row 5), .int .i64 (s.M.Row 6), .int .i64 (s.M.Row 7)]⟩ ⟨[.bool s.M.told]⟩, .int .i64 s.M.Bits, .bool s.M.Silent, .int .i64 s.M.Timer, .int .i64 s.M.At, .int .i64 s.M.Left, .bool s.M.IRQ, .int .i64 s.Count, .bool s.Long, .bool s.Barred, .bool s.IRQ, .int .i64 s.Cycles]
theorem rQuarter_same (x : RTone) : (rQuarter x).Kind = x.Kind ∧ (rQuarter x).Period = x.Period ∧ (rQuarter x).Step = x.Step ∧ (rQuarter x).Reg = stN 4 (fun _ => 0) x.Reg := by
  unfold rQuarter
  (repeat' split) <;> exact ⟨rfl, rfl, rfl, rfl⟩
theorem good_q {x : RTone} (h : Good x) : Good ({ (rQuarter x) with Reg := (stN 4 x.Reg ((rQuarter x).Reg)) } : RTone) := by
  obtain ⟨h1, h2, h3, h4⟩ := rQuarter_same x
  refine ⟨fun j => ?_, by show 0 ≤ (rQuarter x).Period ∧ (rQuarter x).Period < 65536; rw [h2]; exact h.period, by show 0 ≤ (rQuarter x).Step ∧ (rQuarter x).Step < 32; rw [h3]; exact h.step, by show (rQuarter x).Kind = 2 ∨ (rQuarter x).Step < 8; rw [h1, h3]; exact h.kind⟩
  show 0 ≤ (stN 4 x.Reg ((rQuarter x).Reg)) j ∧ (stN 4 x.Reg ((rQuarter x).Reg)) j < 256
  rw [h4, stN_lt]
  by_cases c : j < 4
  · rw [if_pos c, stN_lt, if_pos c]; exact h.reg j
  · rw [if_neg c]; exact h.reg j
def rBit (n : Int) (of_ : Int) : Bool :=
  ((Int.tmod (i64.wrap (Int.tdiv n of_)) 2) == 1)
theorem rBit_ok (n : Int) (of_ : Int) (ho : of_ ≠ 0) : FnSpec Tryd.prog 45 1000 [.int .i64 n, .int .i64 of_] [] (.bool (rBit n of_)) [] := by
  unfold rBit
  exact fn_of_x hG hM Tryd.func45 (by kernel_rfl) (by kernel_rfl) 400 [] (J ho (J (by decide : ((2 : Int) ≠ 0)) trivial)) (by kernel_rfl)
def rBegin (m : RSmp) : RSmp :=
  ({ m with Reg := (stN 4 (fun _ => 0) m.Reg), At := (i64.wrap (49152 + (i64.wrap (64 * (m.Reg 2))))), Left := (i64.wrap ((i64.wrap (16 * (m.Reg 3))) + 1)) } : RSmp)
theorem rBegin_ok (m : RSmp) : FnSpec Tryd.prog 47 1000 [RSmp.enc m] [] (RSmp.enc (rBegin m)) [] := by
  unfold rBegin
  exact fn_of_x hG hM Tryd.func47 (by kernel_rfl) (by kernel_rfl) 400 [.group [4, 1, 1, 1, 1, 1, 1, 1, 1, 1], .segs [.ints .i64 4 (fun _ => 0), .one (.int .i64 0), .one (.int .i64 0), .one (.slice none 0 0), .one (.int .i64 0), .one (.bool false), .one (.int .i64 0), .one (.int .i64 0), .one (.int .i64 0), .one (.bool false)], .lit 2, .lit 3] (J (Eq.refl (2 : Int)) (J (by decide : 2 < 4) (J (Eq.refl (3 : Int)) (J (by decide : 3 < 4) trivial)))) (by kernel_rfl)
def rsNew  : RSnd :=
  ({ Tones_0 := ({ rNew_0 with Reg := (stN 4 (fun j => List.getD [0, 0, 0, 0] j 0) rNew_0.Reg) } : RTone), Tones_1 := ({ rNew_1 with Reg := (stN 4 (fun j => List.getD [0, 0, 0, 0] j 0) rNew_1.Reg) } : RTone), Tones_2 := ({ rNew_2 with Reg := (stN 4 (fun j => List.getD [0, 0, 0, 0] j 0) rNew_2.Reg) } : RTone), Tones_3 := ({ rNew_3 with Reg := (stN 4 (fun j => List.getD [0, 0, 0, 0] j 0) rNew_3.Reg) } : RTone), M := ({ Reg := (fun j => List.getD [0, 0, 0, 0] j 0), Level := 0, Next := (-1), Row := (fun _ => 0), Bits := 8, Silent := true, Timer := 0, At := 0, Left := 0, IRQ := false, told := false } : RSmp), Count := 0, Long := false, Barred := false, IRQ := false, Cycles := 0 } : RSnd)
theorem rsNew_ok  : FnSpec Tryd.prog 19 1000 [] [] (.pointer (some ⟨1000, 0, none⟩)) [(1000, RSnd.blk rsNew)] := by
  unfold rsNew
  exact (fn_of_x (H' := [(1000, ⟨[.one (.int .i64 rNew_0.Kind), .one (.bool rNew_0.On), .ints .i64 4 (stN 4 (fun j => List.getD [0, 0, 0, 0] j 0) rNew_0.Reg), .one (.int .i64 rNew_0.Length), .one (.int .i64 rNew_0.Timer), .one (.int .i64 rNew_0.Period), .one (.int .i64 rNew_0.Step), .one (.bool rNew_0.Anew), .one (.bool rNew_0.Swept), .one (.int .i64 rNew_0.Level), .one (.int .i64 rNew_0.Count), .one (.int .i64 rNew_0.Line), .one (.int .i64 rNew_0.Sweep), .one (.func (.yield 1) ⟨[.int .i64 (rNew_0.Row 0), .int .i64 (rNew_0.Row 1), .int .i64 (rNew_0.Row 2), .int .i64 (rNew_0.Row 3), .int .i64 (rNew_0.Row 4), .int .i64 (rNew_0.Row 5), .int .i64 (rNew_0.Row 6), .int .i64 (rNew_0.Row 7), .int .i64 (rNew_0.Row 8), .int .i64 (rNew_0.Row 9), .int .i64 (rNew_0.Row 10), .int .i64 (rNew_0.Row 11), .int .i64 (rNew_0.Row 12), .int .i64 (rNew_0.Row 13), .int .i64 (rNew_0.Row 14)]⟩ ⟨[.bool true]⟩), .one (.int .i64 rNew_1.Kind), .one (.bool rNew_1.On), .ints .i64 4 (stN 4 (fun j => List.getD [0, 0, 0, 0] j 0) rNew_1.Reg), .one (.int .i64 rNew_1.Length), .one (.int .i64 rNew_1.Timer), .one (.int .i64 rNew_1.Period), .one (.int .i64 rNew_1.Step), .one (.bool rNew_1.Anew), .one (.bool rNew_1.Swept), .one (.int .i64 rNew_1.Level), .one (.int .i64 rNew_1.Count), .one (.int .i64 rNew_1.Line), .one (.int .i64 rNew_1.Sweep), .one (.func (.yield 1) ⟨[.int .i64 (rNew_1.Row 0), .int .i64 (rNew_1.Row 1), .int .i64 (rNew_1.Row 2), .int .i64 (rNew_1.Row 3), .int .i64 (rNew_1.Row 4), .int .i64 (rNew_1.Row 5), .int .i64 (rNew_1.Row 6), .int .i64 (rNew_1.Row 7), .int .i64 (rNew_1.Row 8), .int .i64 (rNew_1.Row 9), .int .i64 (rNew_1.Row 10), .int .i64 (rNew_1.Row 11), .int .i64 (rNew_1.Row 12), .int .i64 (rNew_1.Row 13), .int .i64 (rNew_1.Row 14)]⟩ ⟨[.bool true]⟩), .one (.int .i64 rNew_2.Kind), .one (.bool rNew_2.On), .ints .i64 4 (stN 4 (fun j => List.getD [0, 0, 0, 0] j 0) rNew_2.Reg), .one (.int .i64 rNew_2.Length), .one (.int .i64 rNew_2.Timer), .one (.int .i64 rNew_2.Period), .one (.int .i64 rNew_2.Step), .one (.bool rNew_2.Anew), .one (.bool rNew_2.Swept), .one (.int .i64 rNew_2.Level), .one (.int .i64 rNew_2.Count), .one (.int .i64 rNew_2.Line), .one (.int .i64 rNew_2.Sweep), .one (.func (.yield 1) ⟨[.int .i64 (rNew_2.Row 0), .int .i64 (rNew_2.Row 1), .int .i64 (rNew_2.Row 2), .int .i64 (rNew_2.Row 3), .int .i64 (rNew_2.Row 4), .int .i64 (rNew_2.Row 5), .int .i64 (rNew_2.Row 6), .int .i64 (rNew_2.Row 7), .int .i64 (rNew_2.Row 8), .int .i64 (rNew_2.Row 9), .int .i64 (rNew_2.Row 10), .int .i64 (rNew_2.Row 11), .int .i64 (rNew_2.Row 12), .int .i64 (rNew_2.Row 13), .int .i64 (rNew_2.Row 14)]⟩ ⟨[.bool true]⟩), .one (.int .i64 rNew_3.Kind), .one (.bool rNew_3.On), .ints .i64 4 (stN 4 (fun j => List.getD [0, 0, 0, 0] j 0) rNew_3.Reg), .one (.int .i64 rNew_3.Length), .one (.int .i64 rNew_3.Timer), .one (.int .i64 rNew_3.Period), .one (.int .i64 rNew_3.Step), .one (.bool rNew_3.Anew), .one (.bool rNew_3.Swept), .one (.int .i64 rNew_3.Level), .one (.int .i64 rNew_3.Count), .one (.int .i64 rNew_3.Line), .one (.int .i64 rNew_3.Sweep), .one (.func (.yield 1) ⟨[.int .i64 (rNew_3.Row 0), .int .i64 (rNew_3.Row 1), .int .i64 (rNew_3.Row 2), .int .i64 (rNew_3.Row 3), .int .i64 (rNew_3.Row 4), .int .i64 (rNew_3.Row 5), .int .i64 (rNew_3.Row 6), .int .i64 (rNew_3.Row 7), .int .i64 (rNew_3.Row 8), .int .i64 (rNew_3.Row 9), .int .i64 (rNew_3.Row 10), .int .i64 (rNew_3.Row 11), .int .i64 (rNew_3.Row 12), .int .i64 (rNew_3.Row 13), .int .i64 (rNew_3.Row 14)]⟩ ⟨[.bool true]⟩), .ints .i64 4 (fun j => List.getD [0, 0, 0, 0] j 0), .one (.int .i64 0), .one (.int .i64 (-1)), .one (.slice none 0 0), .one (.int .i64 8), .one (.bool true), .one (.int .i64 0), .one (.int .i64 0), .one (.int .i64 0), .one (.bool false), .one (.int .i64 0), .one (.bool false), .one (.bool false), .one (.bool false), .one (.int .i64 0)], 52, false⟩)]) hG hM Tryd.func19 (by kernel_rfl) (by kernel_rfl) 400 [.group [1, 1, 4, 1, 1, 1, 1, 1, 1, 1, 1, 1, 1, 1, 1, 1, 4, 1, 1, 1, 1, 1, 1, 1, 1, 1, 1, 1, 1, 1, 4, 1, 1, 1, 1, 1, 1, 1, 1, 1, 1, 1, 1, 1, 4, 1, 1, 1, 1, 1, 1, 1, 1, 1, 1, 1, 4, 1, 1, 1, 1, 1, 1, 1, 1, 1, 1, 1, 1, 1, 1], .unroll, .yes, .call [] [] 1000 (RTone.enc rNew_0) [], .lit 0, .unroll, .yes, .call [] [] 1000 (RTone.enc rNew_1) [], .lit 1, .unroll, .yes, .call [] [] 1000 (RTone.enc rNew_2) [], .lit 2, .unroll, .yes, .call [] [] 1000 (RTone.enc rNew_3) [], .lit 3, .unroll, .no] (J T1 (J (rNew_0_ok) (J (Eq.refl (0 : Int)) (J (by decide : 0 < 4) (J T1 (J (rNew_1_ok) (J (Eq.refl (1 : Int)) (J (by decide : 1 < 4) (J T1 (J (rNew_2_ok) (J (Eq.refl (2 : Int)) (J (by decide : 2 < 4) (J T1 (J (rNew_3_ok) (J (Eq.refl (3 : Int)) (J (by decide : 3 < 4) (J T0 trivial))))))))))))))))) (by kernel_rfl)).weak (by dsimp only; repeat' (first | exact HW.nil | exact SW.nil | refine HW.cons _ ?_ ?_ ?_ ?_ | exact rfl | refine SW.cons _ ?_ | refine SW.one (VW.nil 1 _ rfl) ?_))
def rsQ (x : RSnd) : RSnd :=
  ({ x with Tones_0 := ({ (rQuarter x.Tones_0) with Reg := (stN 4 x.Tones_0.Reg ((rQuarter x.Tones_0).Reg)) } : RTone), Tones_1 := ({ (rQuarter x.Tones_1) with Reg := (stN 4 x.Tones_1.Reg ((rQuarter x.Tones_1).Reg)) } : RTone), Tones_2 := ({ (rQuarter x.Tones_2) with Reg := (stN 4 x.Tones_2.Reg ((rQuarter x.Tones_2).Reg)) } : RTone), Tones_3 := ({ (rQuarter x.Tones_3) with Reg := (stN 4 x.Tones_3.Reg ((rQuarter x.Tones_3).Reg)) } : RTone) } : RSnd)
theorem rsQ_ok (x : RSnd) : FnSpec Tryd.prog 48 1001 [.pointer (some ⟨1000, 0, none⟩), .bool false] [(1000, RSnd.blk x)] (.tuple ⟨[]⟩) [(1000, RSnd.blk (rsQ x))] := by
  unfold rsQ
  exact fn_of_x hG hM Tryd.func48 (by kernel_rfl) (by kernel_rfl) 400 [.unroll, .yes, .lit 0, .call [] [] 1000 (RTone.enc (rQuarter x.Tones_0)) [], .lit 0, .no, .unroll, .yes, .lit 1, .call [] [] 1000 (RTone.enc (rQuarter x.Tones_1)) [], .lit 1, .no, .unroll, .yes, .lit 2, .call [] [] 1000 (RTone.enc (rQuarter x.Tones_2)) [], .lit 2, .no, .unroll, .yes, .lit 3, .call [] [] 1000 (RTone.enc (rQuarter x.Tones_3)) [], .lit 3, .no, .unroll, .no] (J T1 (J (Eq.refl (0 : Int)) (J (by decide : 0 < 4) (J (rQuarter_ok x.Tones_0) (J (Eq.refl (0 : Int)) (J (by decide : 0 < 4) (J T0 (J T1 (J (Eq.refl (1 : Int)) (J (by decide : 1 < 4) (J (rQuarter_ok x.Tones_1) (J (Eq.refl (1 : Int)) (J (by decide : 1 < 4) (J T0 (J T1 (J (Eq.refl (2 : Int)) (J (by decide : 2 < 4) (J (rQuarter_ok x.Tones_2) (J (Eq.refl (2 : Int)) (J (by decide : 2 < 4) (J T0 (J T1 (J (Eq.refl (3 : Int)) (J (by decide : 3 < 4) (J (rQuarter_ok x.Tones_3) (J (Eq.refl (3 : Int)) (J (by decide : 3 < 4) (J T0 (J T0 trivial))))))))))))))))))))))))))))) (by kernel_rfl)
def rsH (x : RSnd) : RSnd :=
  ({ x with Tones_0 := ({ (rHalf ({ (rQuarter x.Tones_0) with Reg := (stN 4 x.Tones_0.Reg ((rQuarter x.Tones_0).Reg)) } : RTone)) with Reg := (stN 4 (stN 4 x.Tones_0.Reg ((rQuarter x.Tones_0).Reg)) ((rHalf ({ (rQuarter x.Tones_0) with Reg := (stN 4 x.Tones_0.Reg ((rQuarter x.Tones_0).Reg)) } : RTone)).Reg)) } : RTone), Tones_1 := ({ (rHalf ({ (rQuarter x.Tones_1) with Reg := (stN 4 x.Tones_1.Reg ((rQuarter x.Tones_1).Reg)) } : RTone)) with Reg := (stN 4 (stN 4 x.Tones_1.Reg ((rQuarter x.Tones_1).Reg)) ((rHalf ({ (rQuarter x.Tones_1) with Reg := (stN 4 x.Tones_1.Reg ((rQuarter x.Tones_1).Reg)) } : RTone)).Reg)) } : RTone), Tones_2 := ({ (rHalf ({ (rQuarter x.Tones_2) with Reg := (stN 4 x.Tones_2.Reg ((rQuarter x.Tones_2).Reg)) } : RTone)) with Reg := (stN 4 (stN 4 x.Tones_2.Reg ((rQuarter x.Tones_2).Reg)) ((rHalf ({ (rQuarter x.Tones_2) with Reg := (stN 4 x.Tones_2.Reg ((rQuarter x.Tones_2).Reg)) } : RTone)).Reg)) } : RTone), Tones_3 := ({ (rHalf ({ (rQuarter x.Tones_3) with Reg := (stN 4 x.Tones_3.Reg ((rQuarter x.Tones_3).Reg)) } : RTone)) with Reg := (stN 4 (stN 4 x.Tones_3.Reg ((rQuarter x.Tones_3).Reg)) ((rHalf ({ (rQuarter x.Tones_3) with Reg := (stN 4 x.Tones_3.Reg ((rQuarter x.Tones_3).Reg)) } : RTone)).Reg)) } : RTone) } : RSnd)
theorem rsH_ok (x : RSnd) (g0 : Good x.Tones_0) (g1 : Good x.Tones_1) (g2 : Good x.Tones_2) (g3 : Good x.Tones_3) : FnSpec Tryd.prog 48 1001 [.pointer (some ⟨1000, 0, none⟩), .bool true] [(1000, RSnd.blk x)] (.tuple ⟨[]⟩) [(1000, RSnd.blk (rsH x))] := by
  unfold rsH
  exact fn_of_x hG hM Tryd.func48 (by kernel_rfl) (by kernel_rfl) 400 [.unroll, .yes, .lit 0, .call [] [] 1000 (RTone.enc (rQuarter x.Tones_0)) [], .lit 0, .yes, .lit 0, .call [] [] 1000 (RTone.enc (rHalf ({ (rQuarter x.Tones_0) with Reg := (stN 4 x.Tones_0.Reg ((rQuarter x.Tones_0).Reg)) } : RTone))) [], .lit 0, .unroll, .yes, .lit 1, .call [] [] 1000 (RTone.enc (rQuarter x.Tones_1)) [], .lit 1, .yes, .lit 1, .call [] [] 1000 (RTone.enc (rHalf ({ (rQuarter x.Tones_1) with Reg := (stN 4 x.Tones_1.Reg ((rQuarter x.Tones_1).Reg)) } : RTone))) [], .lit 1, .unroll, .yes, .lit 2, .call [] [] 1000 (RTone.enc (rQuarter x.Tones_2)) [], .lit 2, .yes, .lit 2, .call [] [] 1000 (RTone.enc (rHalf ({ (rQuarter x.Tones_2) with Reg := (stN 4 x.Tones_2.Reg ((rQuarter x.Tones_2).Reg)) } : RTone))) [], .lit 2, .unroll, .yes, .lit 3, .call [] [] 1000 (RTone.enc (rQuarter x.Tones_3)) [], .lit 3, .yes, .lit 3, .call [] [] 1000 (RTone.enc (rHalf ({ (rQuarter x.Tones_3) with Reg := (stN 4 x.Tones_3.Reg ((rQuarter x.Tones_3).Reg)) } : RTone))) [], .lit 3, .unroll, .no] (J T1 (J (Eq.refl (0 : Int)) (J (by decide : 0 < 4) (J (rQuarter_ok x.Tones_0) (J (Eq.refl (0 : Int)) (J (by decide : 0 < 4) (J T1 (J (Eq.refl (0 : Int)) (J (by decide : 0 < 4) (J (rHalf_ok ({ (rQuarter x.Tones_0) with Reg := (stN 4 x.Tones_0.Reg ((rQuarter x.Tones_0).Reg)) } : RTone) (good_q g0)) (J (Eq.refl (0 : Int)) (J (by decide : 0 < 4) (J T1 (J (Eq.refl (1 : Int)) (J (by decide : 1 < 4) (J (rQuarter_ok x.Tones_1) (J (Eq.refl (1 : Int)) (J (by decide : 1 < 4) (J T1 (J (Eq.refl (1 : Int)) (J (by decide : 1 < 4) (J (rHalf_ok ({ (rQuarter x.Tones_1) with Reg := (stN 4 x.Tones_1.Reg ((rQuarter x.Tones_1).Reg)) } : RTone) (good_q g1)) (J (Eq.refl (1 : Int)) (J (by decide : 1 < 4) (J T1 (J (Eq.refl (2 : Int)) (J (by decide : 2 < 4) (J (rQuarter_ok x.Tones_2) (J (Eq.refl (2 : Int)) (J (by decide : 2 < 4) (J T1 (J (Eq.refl (2 : Int)) (J (by decide : 2 < 4) (J (rHalf_ok ({ (rQuarter x.Tones_2) with Reg := (stN 4 x.Tones_2.Reg ((rQuarter x.Tones_2).Reg)) } : RTone) (good_q g2)) (J (Eq.refl (2 : Int)) (J (by decide : 2 < 4) (J T1 (J (Eq.refl (3 : Int)) (J (by decide : 3 < 4) (J (rQuarter_ok x.Tones_3) (J (Eq.refl (3 : Int)) (J (by decide : 3 < 4) (J T1 (J (Eq.refl (3 : Int)) (J (by decide : 3 < 4) (J (rHalf_ok ({ (rQuarter x.Tones_3) with Reg := (stN 4 x.Tones_3.Reg ((rQuarter x.Tones_3).Reg)) } : RTone) (good_q g3)) (J (Eq.refl (3 : Int)) (J (by decide : 3 < 4) (J T0 trivial))))))))))))))))))))))))))))))))))))))))))))))))) (by kernel_rfl)
end Go.Proofs.YtgpcfjokmonlgaaDoor
namespace Go.Proofs.YtgpcfjokmonlgaaDoor
open Go VX
open Go.IntKind (i64 u8 u16)
set_option linter.unusedVariables false
set_option linter.unusedSimpArgs false
set_option maxRecDepth 100000
def rsPut_16 (x : RSnd) (b : Int) : RSnd :=
  if (!(rBit b 128)) = true then
    ({ x with M := ({ x.M with Reg := (upd x.M.Reg 0 b), IRQ := false } : RSmp) } : RSnd)
  else
    ({ x with M := ({ x.M with Reg := (upd x.M.Reg 0 b) } : RSmp) } : RSnd)
theorem rsPut_16_ok (x : RSnd) (b : Int) (hb : 0 ≤ b ∧ b < 256) : FnSpec Tryd.prog 22 1001 [.pointer (some ⟨1000, 0, none⟩), .int .i64 16400, .int .i64 b] [(1000, RSnd.blk x)] (.tuple ⟨[]⟩) [(1000, RSnd.blk (rsPut_16 x b))] := by
  unfold rsPut_16
  rcases bt (!(rBit b 128)) with c1 | c1
  · rw [if_pos c1]
    exact fn_of_x hG hM Tryd.func22 (by kernel_rfl) (by kernel_rfl) 400 [.yes, .yes, .yes, .no, .yes, .yes, .yes, .yes, .lit 0, .yes, .call [] [] 1000 (.bool (rBit b 128)) [], .yes] (J T1 (J T1 (J T1 (J T0 (J T1 (J T1 (J T1 (J T1 (J (by decide : ((4 : Int) ≠ 0)) (J (Eq.refl (0 : Int)) (J (by decide : 0 < 4) (J T1 (J (rBit_ok b 128 (by decide)) (J c1 trivial)))))))))))))) (by kernel_rfl)
  · rw [if_neg (nt c1)]
    exact fn_of_x hG hM Tryd.func22 (by kernel_rfl) (by kernel_rfl) 400 [.yes, .yes, .yes, .no, .yes, .yes, .yes, .yes, .lit 0, .yes, .call [] [] 1000 (.bool (rBit b 128)) [], .no] (J T1 (J T1 (J T1 (J T0 (J T1 (J T1 (J T1 (J T1 (J (by decide : ((4 : Int) ≠ 0)) (J (Eq.refl (0 : Int)) (J (by decide : 0 < 4) (J T1 (J (rBit_ok b 128 (by decide)) (J c1 trivial)))))))))))))) (by kernel_rfl)
def rsPut_17 (x : RSnd) (b : Int) : RSnd :=
  ({ x with M := ({ x.M with Reg := (upd x.M.Reg 1 b), Level := (Int.tmod b 128) } : RSmp) } : RSnd)
theorem rsPut_17_ok (x : RSnd) (b : Int) (hb : 0 ≤ b ∧ b < 256) : FnSpec Tryd.prog 22 1001 [.pointer (some ⟨1000, 0, none⟩), .int .i64 16401, .int .i64 b] [(1000, RSnd.blk x)] (.tuple ⟨[]⟩) [(1000, RSnd.blk (rsPut_17 x b))] := by
  unfold rsPut_17
  exact fn_of_x hG hM Tryd.func22 (by kernel_rfl) (by kernel_rfl) 400 [.yes, .yes, .yes, .no, .yes, .yes, .yes, .yes, .lit 1, .no, .yes] (J T1 (J T1 (J T1 (J T0 (J T1 (J T1 (J T1 (J T1 (J (by decide : ((4 : Int) ≠ 0)) (J (Eq.refl (1 : Int)) (J (by decide : 1 < 4) (J T0 (J T1 (J (by decide : ((128 : Int) ≠ 0)) trivial)))))))))))))) (by kernel_rfl)
def rsPut_18 (x : RSnd) (b : Int) : RSnd :=
  ({ x with M := ({ x.M with Reg := (upd x.M.Reg 2 b) } : RSmp) } : RSnd)
theorem rsPut_18_ok (x : RSnd) (b : Int) (hb : 0 ≤ b ∧ b < 256) : FnSpec Tryd.prog 22 1001 [.pointer (some ⟨1000, 0, none⟩), .int .i64 16402, .int .i64 b] [(1000, RSnd.blk x)] (.tuple ⟨[]⟩) [(1000, RSnd.blk (rsPut_18 x b))] := by
  unfold rsPut_18
  exact fn_of_x hG hM Tryd.func22 (by kernel_rfl) (by kernel_rfl) 400 [.yes, .yes, .yes, .no, .yes, .yes, .yes, .yes, .lit 2, .no, .no, .no, .no] (J T1 (J T1 (J T1 (J T0 (J T1 (J T1 (J T1 (J T1 (J (by decide : ((4 : Int) ≠ 0)) (J (Eq.refl (2 : Int)) (J (by decide : 2 < 4) (J T0 (J T0 (J T0 (J T0 trivial))))))))))))))) (by kernel_rfl)
def rsPut_19 (x : RSnd) (b : Int) : RSnd :=
  ({ x with M := ({ x.M with Reg := (upd x.M.Reg 3 b) } : RSmp) } : RSnd)
theorem rsPut_19_ok (x : RSnd) (b : Int) (hb : 0 ≤ b ∧ b < 256) : FnSpec Tryd.prog 22 1001 [.pointer (some ⟨1000, 0, none⟩), .int .i64 16403, .int .i64 b] [(1000, RSnd.blk x)] (.tuple ⟨[]⟩) [(1000, RSnd.blk (rsPut_19 x b))] := by
  unfold rsPut_19
  exact fn_of_x hG hM Tryd.func22 (by kernel_rfl) (by kernel_rfl) 400 [.yes, .yes, .yes, .no, .yes, .yes, .yes, .yes, .lit 3, .no, .no, .no, .no] (J T1 (J T1 (J T1 (J T0 (J T1 (J T1 (J T1 (J T1 (J (by decide : ((4 : Int) ≠ 0)) (J (Eq.refl (3 : Int)) (J (by decide : 3 < 4) (J T0 (J T0 (J T0 (J T0 trivial))))))))))))))) (by kernel_rfl)
def rsPut_20 (x : RSnd) (b : Int) : Unit :=
  ()
theorem rsPut_20_ok (x : RSnd) (b : Int) (hb : 0 ≤ b ∧ b < 256) : FnSpec Tryd.prog 22 1001 [.pointer (some ⟨1000, 0, none⟩), .int .i64 16404, .int .i64 b] [(1000, RSnd.blk x)] (.tuple ⟨[]⟩) [(1000, RSnd.blk x)] := by
  exact fn_of_x hG hM Tryd.func22 (by kernel_rfl) (by kernel_rfl) 400 [.yes, .yes, .yes, .no, .yes, .yes, .yes, .no, .no, .no, .no, .no] (J T1 (J T1 (J T1 (J T0 (J T1 (J T1 (J T1 (J T0 (J T0 (J T0 (J T0 (J T0 trivial)))))))))))) (by kernel_rfl)
def rsPut_21 (x : RSnd) (b : Int) : RSnd :=
  if (!(rBit b 16)) = true then
    ({ x with Tones_0 := ({ (rEnable x.Tones_0 (rBit b 1)) with Reg := (stN 4 x.Tones_0.Reg ((rEnable x.Tones_0 (rBit b 1)).Reg)) } : RTone), Tones_1 := ({ (rEnable x.Tones_1 (rBit b 2)) with Reg := (stN 4 x.Tones_1.Reg ((rEnable x.Tones_1 (rBit b 2)).Reg)) } : RTone), Tones_2 := ({ (rEnable x.Tones_2 (rBit b 4)) with Reg := (stN 4 x.Tones_2.Reg ((rEnable x.Tones_2 (rBit b 4)).Reg)) } : RTone), Tones_3 := ({ (rEnable x.Tones_3 (rBit b 8)) with Reg := (stN 4 x.Tones_3.Reg ((rEnable x.Tones_3 (rBit b 8)).Reg)) } : RTone), M := ({ x.M with Left := 0, IRQ := false } : RSmp) } : RSnd)
  else
    if (x.M.Left == 0) = true then
      ({ x with Tones_0 := ({ (rEnable x.Tones_0 (rBit b 1)) with Reg := (stN 4 x.Tones_0.Reg ((rEnable x.Tones_0 (rBit b 1)).Reg)) } : RTone), Tones_1 := ({ (rEnable x.Tones_1 (rBit b 2)) with Reg := (stN 4 x.Tones_1.Reg ((rEnable x.Tones_1 (rBit b 2)).Reg)) } : RTone), Tones_2 := ({ (rEnable x.Tones_2 (rBit b 4)) with Reg := (stN 4 x.Tones_2.Reg ((rEnable x.Tones_2 (rBit b 4)).Reg)) } : RTone), Tones_3 := ({ (rEnable x.Tones_3 (rBit b 8)) with Reg := (stN 4 x.Tones_3.Reg ((rEnable x.Tones_3 (rBit b 8)).Reg)) } : RTone), M := ({ (rBegin ({ x.M with IRQ := false } : RSmp)) with Reg := (stN 4 x.M.Reg ((rBegin ({ x.M with IRQ := false } : RSmp)).Reg)) } : RSmp) } : RSnd)
    else
      ({ x with Tones_0 := ({ (rEnable x.Tones_0 (rBit b 1)) with Reg := (stN 4 x.Tones_0.Reg ((rEnable x.Tones_0 (rBit b 1)).Reg)) } : RTone), Tones_1 := ({ (rEnable x.Tones_1 (rBit b 2)) with Reg := (stN 4 x.Tones_1.Reg ((rEnable x.Tones_1 (rBit b 2)).Reg)) } : RTone), Tones_2 := ({ (rEnable x.Tones_2 (rBit b 4)) with Reg := (stN 4 x.Tones_2.Reg ((rEnable x.Tones_2 (rBit b 4)).Reg)) } : RTone), Tones_3 := ({ (rEnable x.Tones_3 (rBit b 8)) with Reg := (stN 4 x.Tones_3.Reg ((rEnable x.Tones_3 (rBit b 8)).Reg)) } : RTone), M := ({ x.M with IRQ := false } : RSmp) } : RSnd)
theorem rsPut_21_ok (x : RSnd) (b : Int) (hb : 0 ≤ b ∧ b < 256) : FnSpec Tryd.prog 22 1001 [.pointer (some ⟨1000, 0, none⟩), .int .i64 16405, .int .i64 b] [(1000, RSnd.blk x)] (.tuple ⟨[]⟩) [(1000, RSnd.blk (rsPut_21 x b))] := by
  unfold rsPut_21
  rcases bt (!(rBit b 16)) with c1 | c1
  · rw [if_pos c1]
    exact fn_of_x hG hM Tryd.func22 (by kernel_rfl) (by kernel_rfl) 400 [.yes, .yes, .yes, .no, .yes, .yes, .yes, .no, .no, .no, .yes, .unroll, .yes, .lit 0, .lit 0, .call [] [] 1000 (.bool (rBit b 1)) [], .call [] [] 1000 (RTone.enc (rEnable x.Tones_0 (rBit b 1))) [], .lit 0, .unroll, .yes, .lit 1, .lit 1, .call [] [] 1000 (.bool (rBit b 2)) [], .call [] [] 1000 (RTone.enc (rEnable x.Tones_1 (rBit b 2))) [], .lit 1, .unroll, .yes, .lit 2, .lit 2, .call [] [] 1000 (.bool (rBit b 4)) [], .call [] [] 1000 (RTone.enc (rEnable x.Tones_2 (rBit b 4))) [], .lit 2, .unroll, .yes, .lit 3, .lit 3, .call [] [] 1000 (.bool (rBit b 8)) [], .call [] [] 1000 (RTone.enc (rEnable x.Tones_3 (rBit b 8))) [], .lit 3, .unroll, .no, .call [] [] 1000 (.bool (rBit b 16)) [], .yes] (J T1 (J T1 (J T1 (J T0 (J T1 (J T1 (J T1 (J T0 (J T0 (J T0 (J T1 (J T1 (J (Eq.refl (0 : Int)) (J (by decide : 0 < 4) (J (Eq.refl (0 : Int)) (J (by decide : 0 < 4) (J (rBit_ok b 1 (by decide)) (J (rEnable_ok x.Tones_0 (rBit b 1)) (J (Eq.refl (0 : Int)) (J (by decide : 0 < 4) (J T1 (J (Eq.refl (1 : Int)) (J (by decide : 1 < 4) (J (Eq.refl (1 : Int)) (J (by decide : 1 < 4) (J (rBit_ok b 2 (by decide)) (J (rEnable_ok x.Tones_1 (rBit b 2)) (J (Eq.refl (1 : Int)) (J (by decide : 1 < 4) (J T1 (J (Eq.refl (2 : Int)) (J (by decide : 2 < 4) (J (Eq.refl (2 : Int)) (J (by decide : 2 < 4) (J (rBit_ok b 4 (by decide)) (J (rEnable_ok x.Tones_2 (rBit b 4)) (J (Eq.refl (2 : Int)) (J (by decide : 2 < 4) (J T1 (J (Eq.refl (3 : Int)) (J (by decide : 3 < 4) (J (Eq.refl (3 : Int)) (J (by decide : 3 < 4) (J (rBit_ok b 8 (by decide)) (J (rEnable_ok x.Tones_3 (rBit b 8)) (J (Eq.refl (3 : Int)) (J (by decide : 3 < 4) (J T0 (J (rBit_ok b 16 (by decide)) (J c1 trivial)))))))))))))))))))))))))))))))))))))))))))))))))) (by kernel_rfl)
  · rw [if_neg (nt c1)]
    rcases bt (x.M.Left == 0) with c2 | c2
    · rw [if_pos c2]
      exact fn_of_x hG hM Tryd.func22 (by kernel_rfl) (by kernel_rfl) 400 [.yes, .yes, .yes, .no, .yes, .yes, .yes, .no, .no, .no, .yes, .unroll, .yes, .lit 0, .lit 0, .call [] [] 1000 (.bool (rBit b 1)) [], .call [] [] 1000 (RTone.enc (rEnable x.Tones_0 (rBit b 1))) [], .lit 0, .unroll, .yes, .lit 1, .lit 1, .call [] [] 1000 (.bool (rBit b 2)) [], .call [] [] 1000 (RTone.enc (rEnable x.Tones_1 (rBit b 2))) [], .lit 1, .unroll, .yes, .lit 2, .lit 2, .call [] [] 1000 (.bool (rBit b 4)) [], .call [] [] 1000 (RTone.enc (rEnable x.Tones_2 (rBit b 4))) [], .lit 2, .unroll, .yes, .lit 3, .lit 3, .call [] [] 1000 (.bool (rBit b 8)) [], .call [] [] 1000 (RTone.enc (rEnable x.Tones_3 (rBit b 8))) [], .lit 3, .unroll, .no, .call [] [] 1000 (.bool (rBit b 16)) [], .no, .yes, .call [] [] 1000 (RSmp.enc (rBegin ({ x.M with IRQ := false } : RSmp))) []] (J T1 (J T1 (J T1 (J T0 (J T1 (J T1 (J T1 (J T0 (J T0 (J T0 (J T1 (J T1 (J (Eq.refl (0 : Int)) (J (by decide : 0 < 4) (J (Eq.refl (0 : Int)) (J (by decide : 0 < 4) (J (rBit_ok b 1 (by decide)) (J (rEnable_ok x.Tones_0 (rBit b 1)) (J (Eq.refl (0 : Int)) (J (by decide : 0 < 4) (J T1 (J (Eq.refl (1 : Int)) (J (by decide : 1 < 4) (J (Eq.refl (1 : Int)) (J (by decide : 1 < 4) (J (rBit_ok b 2 (by decide)) (J (rEnable_ok x.Tones_1 (rBit b 2)) (J (Eq.refl (1 : Int)) (J (by decide : 1 < 4) (J T1 (J (Eq.refl (2 : Int)) (J (by decide : 2 < 4) (J (Eq.refl (2 : Int)) (J (by decide : 2 < 4) (J (rBit_ok b 4 (by decide)) (J (rEnable_ok x.Tones_2 (rBit b 4)) (J (Eq.refl (2 : Int)) (J (by decide : 2 < 4) (J T1 (J (Eq.refl (3 : Int)) (J (by decide : 3 < 4) (J (Eq.refl (3 : Int)) (J (by decide : 3 < 4) (J (rBit_ok b 8 (by decide)) (J (rEnable_ok x.Tones_3 (rBit b 8)) (J (Eq.refl (3 : Int)) (J (by decide : 3 < 4) (J T0 (J (rBit_ok b 16 (by decide)) (J c1 (J c2 (J (rBegin_ok ({ x.M with IRQ := false } : RSmp)) trivial)))))))))))))))))))))))))))))))))))))))))))))))))))) (by kernel_rfl)
    · rw [if_neg (nt c2)]
      exact fn_of_x hG hM Tryd.func22 (by kernel_rfl) (by kernel_rfl) 400 [.yes, .yes, .yes, .no, .yes, .yes, .yes, .no, .no, .no, .yes, .unroll, .yes, .lit 0, .lit 0, .call [] [] 1000 (.bool (rBit b 1)) [], .call [] [] 1000 (RTone.enc (rEnable x.Tones_0 (rBit b 1))) [], .lit 0, .unroll, .yes, .lit 1, .lit 1, .call [] [] 1000 (.bool (rBit b 2)) [], .call [] [] 1000 (RTone.enc (rEnable x.Tones_1 (rBit b 2))) [], .lit 1, .unroll, .yes, .lit 2, .lit 2, .call [] [] 1000 (.bool (rBit b 4)) [], .call [] [] 1000 (RTone.enc (rEnable x.Tones_2 (rBit b 4))) [], .lit 2, .unroll, .yes, .lit 3, .lit 3, .call [] [] 1000 (.bool (rBit b 8)) [], .call [] [] 1000 (RTone.enc (rEnable x.Tones_3 (rBit b 8))) [], .lit 3, .unroll, .no, .call [] [] 1000 (.bool (rBit b 16)) [], .no, .no] (J T1 (J T1 (J T1 (J T0 (J T1 (J T1 (J T1 (J T0 (J T0 (J T0 (J T1 (J T1 (J (Eq.refl (0 : Int)) (J (by decide : 0 < 4) (J (Eq.refl (0 : Int)) (J (by decide : 0 < 4) (J (rBit_ok b 1 (by decide)) (J (rEnable_ok x.Tones_0 (rBit b 1)) (J (Eq.refl (0 : Int)) (J (by decide : 0 < 4) (J T1 (J (Eq.refl (1 : Int)) (J (by decide : 1 < 4) (J (Eq.refl (1 : Int)) (J (by decide : 1 < 4) (J (rBit_ok b 2 (by decide)) (J (rEnable_ok x.Tones_1 (rBit b 2)) (J (Eq.refl (1 : Int)) (J (by decide : 1 < 4) (J T1 (J (Eq.refl (2 : Int)) (J (by decide : 2 < 4) (J (Eq.refl (2 : Int)) (J (by decide : 2 < 4) (J (rBit_ok b 4 (by decide)) (J (rEnable_ok x.Tones_2 (rBit b 4)) (J (Eq.refl (2 : Int)) (J (by decide : 2 < 4) (J T1 (J (Eq.refl (3 : Int)) (J (by decide : 3 < 4) (J (Eq.refl (3 : Int)) (J (by decide : 3 < 4) (J (rBit_ok b 8 (by decide)) (J (rEnable_ok x.Tones_3 (rBit b 8)) (J (Eq.refl (3 : Int)) (J (by decide : 3 < 4) (J T0 (J (rBit_ok b 16 (by decide)) (J c1 (J c2 trivial))))))))))))))))))))))))))))))))))))))))))))))))))) (by kernel_rfl)
def rsPut_22 (x : RSnd) (b : Int) : Unit :=
  ()
theorem rsPut_22_ok (x : RSnd) (b : Int) (hb : 0 ≤ b ∧ b < 256) : FnSpec Tryd.prog 22 1001 [.pointer (some ⟨1000, 0, none⟩), .int .i64 16406, .int .i64 b] [(1000, RSnd.blk x)] (.tuple ⟨[]⟩) [(1000, RSnd.blk x)] := by
  exact fn_of_x hG hM Tryd.func22 (by kernel_rfl) (by kernel_rfl) 400 [.yes, .yes, .yes, .no, .yes, .yes, .yes, .no, .no, .no, .no, .no] (J T1 (J T1 (J T1 (J T0 (J T1 (J T1 (J T1 (J T0 (J T0 (J T0 (J T0 (J T0 trivial)))))))))))) (by kernel_rfl)
def rsPut_23 (x : RSnd) (b : Int) : RSnd :=
  if (rBit b 64) = true then
    if (rBit b 128) = true then
      (rsH ({ x with Count := 0, Long := (rBit b 128), Barred := (rBit b 64), IRQ := false } : RSnd))
    else
      ({ x with Count := 0, Long := (rBit b 128), Barred := (rBit b 64), IRQ := false } : RSnd)
  else
    if (rBit b 128) = true then
      (rsH ({ x with Count := 0, Long := (rBit b 128), Barred := (rBit b 64) } : RSnd))
    else
      ({ x with Count := 0, Long := (rBit b 128), Barred := (rBit b 64) } : RSnd)
theorem rsPut_23_ok (x : RSnd) (b : Int) (g0 : Good x.Tones_0) (g1 : Good x.Tones_1) (g2 : Good x.Tones_2) (g3 : Good x.Tones_3) (hb : 0 ≤ b ∧ b < 256) : FnSpec Tryd.prog 22 1001 [.pointer (some ⟨1000, 0, none⟩), .int .i64 16407, .int .i64 b] [(1000, RSnd.blk x)] (.tuple ⟨[]⟩) [(1000, RSnd.blk (rsPut_23 x b))] := by
  unfold rsPut_23
  rcases bt (rBit b 64) with c1 | c1
  · rw [if_pos c1]
    rcases bt (rBit b 128) with c2 | c2
    · rw [if_pos c2]
      exact fn_of_x hG hM Tryd.func22 (by kernel_rfl) (by kernel_rfl) 400 [.yes, .yes, .yes, .no, .yes, .yes, .yes, .no, .no, .no, .no, .yes, .call [] [] 1000 (.bool (rBit b 128)) [], .call [] [] 1000 (.bool (rBit b 64)) [], .yes, .yes, .call [(1000, 1000)] [] 1001 (.tuple ⟨[]⟩) [(1000, RSnd.blk (rsH ({ x with Count := 0, Long := (rBit b 128), Barred := (rBit b 64), IRQ := false } : RSnd)))]] (J T1 (J T1 (J T1 (J T0 (J T1 (J T1 (J T1 (J T0 (J T0 (J T0 (J T0 (J T1 (J (rBit_ok b 128 (by decide)) (J (rBit_ok b 64 (by decide)) (J c1 (J c2 (J (rsH_ok ({ x with Count := 0, Long := (rBit b 128), Barred := (rBit b 64), IRQ := false } : RSnd) g0 g1 g2 g3) trivial))))))))))))))))) (by kernel_rfl)
    · rw [if_neg (nt c2)]
      exact fn_of_x hG hM Tryd.func22 (by kernel_rfl) (by kernel_rfl) 400 [.yes, .yes, .yes, .no, .yes, .yes, .yes, .no, .no, .no, .no, .yes, .call [] [] 1000 (.bool (rBit b 128)) [], .call [] [] 1000 (.bool (rBit b 64)) [], .yes, .no] (J T1 (J T1 (J T1 (J T0 (J T1 (J T1 (J T1 (J T0 (J T0 (J T0 (J T0 (J T1 (J (rBit_ok b 128 (by decide)) (J (rBit_ok b 64 (by decide)) (J c1 (J c2 trivial)))))))))))))))) (by kernel_rfl)
  · rw [if_neg (nt c1)]
    rcases bt (rBit b 128) with c2 | c2
    · rw [if_pos c2]
      exact fn_of_x hG hM Tryd.func22 (by kernel_rfl) (by kernel_rfl) 400 [.yes, .yes, .yes, .no, .yes, .yes, .yes, .no, .no, .no, .no, .yes, .call [] [] 1000 (.bool (rBit b 128)) [], .call [] [] 1000 (.bool (rBit b 64)) [], .no, .yes, .call [(1000, 1000)] [] 1001 (.tuple ⟨[]⟩) [(1000, RSnd.blk (rsH ({ x with Count := 0, Long := (rBit b 128), Barred := (rBit b 64) } : RSnd)))]] (J T1 (J T1 (J T1 (J T0 (J T1 (J T1 (J T1 (J T0 (J T0 (J T0 (J T0 (J T1 (J (rBit_ok b 128 (by decide)) (J (rBit_ok b 64 (by decide)) (J c1 (J c2 (J (rsH_ok ({ x with Count := 0, Long := (rBit b 128), Barred := (rBit b 64) } : RSnd) g0 g1 g2 g3) trivial))))))))))))))))) (by kernel_rfl)
    · rw [if_neg (nt c2)]
      exact fn_of_x hG hM Tryd.func22 (by kernel_rfl) (by kernel_rfl) 400 [.yes, .yes, .yes, .no, .yes, .yes, .yes, .no, .no, .no, .no, .yes, .call [] [] 1000 (.bool (rBit b 128)) [], .call [] [] 1000 (.bool (rBit b 64)) [], .no, .no] (J T1 (J T1 (J T1 (J T0 (J T1 (J T1 (J T1 (J T0 (J T0 (J T0 (J T0 (J T1 (J (rBit_ok b 128 (by decide)) (J (rBit_ok b 64 (by decide)) (J c1 (J c2 trivial)))))))))))))))) (by kernel_rfl)
def rsPut_lo (x : RSnd) (at_ : Int) (b : Int) : Unit :=
  ()
theorem rsPut_lo_ok (x : RSnd) (at_ : Int) (b : Int) (h1 : (decide (at_ ≥ 16384)) = false) (h2 : (decide (at_ ≥ 16400)) = false) (k16 : (at_ == 16400) = false) (k17 : (at_ == 16401) = false) (k21 : (at_ == 16405) = false) (k23 : (at_ == 16407) = false) : FnSpec Tryd.prog 22 1001 [.pointer (some ⟨1000, 0, none⟩), .int .i64 at_, .int .i64 b] [(1000, RSnd.blk x)] (.tuple ⟨[]⟩) [(1000, RSnd.blk x)] := by
  exact fn_of_x hG hM Tryd.func22 (by kernel_rfl) (by kernel_rfl) 400 [.no, .no, .no, .no, .no, .no, .no, .no, .no, .no, .no, .no] (J h1 (J h1 (J h1 (J T0 (J h2 (J h2 (J h2 (J T0 (J k16 (J k17 (J k21 (J k23 trivial)))))))))))) (by kernel_rfl)
def rsPut_hi (x : RSnd) (at_ : Int) (b : Int) : Unit :=
  ()
theorem rsPut_hi_ok (x : RSnd) (at_ : Int) (b : Int) (h0 : (decide (at_ ≥ 16384)) = true) (h1 : (decide (at_ < 16400)) = false) (h2 : (decide (at_ ≥ 16400)) = true) (h3 : (decide (at_ < 16404)) = false) (k16 : (at_ == 16400) = false) (k17 : (at_ == 16401) = false) (k21 : (at_ == 16405) = false) (k23 : (at_ == 16407) = false) : FnSpec Tryd.prog 22 1001 [.pointer (some ⟨1000, 0, none⟩), .int .i64 at_, .int .i64 b] [(1000, RSnd.blk x)] (.tuple ⟨[]⟩) [(1000, RSnd.blk x)] := by
  exact fn_of_x hG hM Tryd.func22 (by kernel_rfl) (by kernel_rfl) 400 [.yes, .yes, .yes, .no, .yes, .yes, .yes, .no, .no, .no, .no, .no] (J h0 (J h0 (J h0 (J h1 (J h2 (J h2 (J h2 (J h3 (J k16 (J k17 (J k21 (J k23 trivial)))))))))))) (by kernel_rfl)
def rsAsks (x : RSnd) : Bool :=
  if (decide (x.M.Next < 0)) = true then
    (decide (x.M.Left > 0))
  else
    false
theorem rsAsks_ok (x : RSnd) : FnSpec Tryd.prog 43 1001 [.pointer (some ⟨1000, 0, none⟩)] [(1000, (RSnd.blk x).lend)] (.bool (rsAsks x)) [] := by
  unfold rsAsks
  rcases bt (decide (x.M.Next < 0)) with c1 | c1
  · rw [if_pos c1]
    exact fn_of_x hG hM Tryd.func43 (by kernel_rfl) (by kernel_rfl) 400 [.yes, .yes, .yes, .yes, .yes, .yes, .yes] (J c1 (J c1 (J c1 (J c1 (J c1 (J c1 (J c1 trivial))))))) (by kernel_rfl)
  · rw [if_neg (nt c1)]
    exact fn_of_x hG hM Tryd.func43 (by kernel_rfl) (by kernel_rfl) 400 [.no, .no, .no, .no, .no, .no, .no] (J c1 (J c1 (J c1 (J c1 (J c1 (J c1 (J c1 trivial))))))) (by kernel_rfl)
def rsGive (x : RSnd) (b : Int) : RSnd :=
  if (!(rsAsks x)) = true then
    x
  else
    if (decide ((i64.wrap (x.M.At + 1)) > 65535)) = true then
      if ((i64.wrap (x.M.Left - 1)) == 0) = true then
        if (rBit (x.M.Reg 0) 64) = true then
          ({ x with M := ({ (rBegin ({ x.M with Next := b, At := 32768, Left := (i64.wrap (x.M.Left - 1)) } : RSmp)) with Reg := (stN 4 x.M.Reg ((rBegin ({ x.M with Next := b, At := 32768, Left := (i64.wrap (x.M.Left - 1)) } : RSmp)).Reg)) } : RSmp) } : RSnd)
        else
          if (rBit (x.M.Reg 0) 128) = true then
            ({ x with M := ({ x.M with Next := b, At := 32768, Left := (i64.wrap (x.M.Left - 1)), IRQ := true } : RSmp) } : RSnd)
          else
            ({ x with M := ({ x.M with Next := b, At := 32768, Left := (i64.wrap (x.M.Left - 1)) } : RSmp) } : RSnd)
      else
        ({ x with M := ({ x.M with Next := b, At := 32768, Left := (i64.wrap (x.M.Left - 1)) } : RSmp) } : RSnd)
    else
      if ((i64.wrap (x.M.Left - 1)) == 0) = true then
        if (rBit (x.M.Reg 0) 64) = true then
          ({ x with M := ({ (rBegin ({ x.M with Next := b, At := (i64.wrap (x.M.At + 1)), Left := (i64.wrap (x.M.Left - 1)) } : RSmp)) with Reg := (stN 4 x.M.Reg ((rBegin ({ x.M with Next := b, At := (i64.wrap (x.M.At + 1)), Left := (i64.wrap (x.M.Left - 1)) } : RSmp)).Reg)) } : RSmp) } : RSnd)
        else
          if (rBit (x.M.Reg 0) 128) = true then
            ({ x with M := ({ x.M with Next := b, At := (i64.wrap (x.M.At + 1)), Left := (i64.wrap (x.M.Left - 1)), IRQ := true } : RSmp) } : RSnd)
          else
            ({ x with M := ({ x.M with Next := b, At := (i64.wrap (x.M.At + 1)), Left := (i64.wrap (x.M.Left - 1)) } : RSmp) } : RSnd)
      else
        ({ x with M := ({ x.M with Next := b, At := (i64.wrap (x.M.At + 1)), Left := (i64.wrap (x.M.Left - 1)) } : RSmp) } : RSnd)
theorem rsGive_ok (x : RSnd) (b : Int) : FnSpec Tryd.prog 42 1001 [.pointer (some ⟨1000, 0, none⟩), .int .i64 b] [(1000, RSnd.blk x)] (.tuple ⟨[]⟩) [(1000, RSnd.blk (rsGive x b))] := by
  unfold rsGive
  rcases bt (!(rsAsks x)) with c1 | c1
  · rw [if_pos c1]
    exact fn_of_x hG hM Tryd.func42 (by kernel_rfl) (by kernel_rfl) 400 [.callr [(1000, 1000)] [1000] [] 1001 (.bool (rsAsks x)) [], .yes] (J (rsAsks_ok x) (J c1 trivial)) (by kernel_rfl)
  · rw [if_neg (nt c1)]
    rcases bt (decide ((i64.wrap (x.M.At + 1)) > 65535)) with c2 | c2
    · rw [if_pos c2]
      rcases bt ((i64.wrap (x.M.Left - 1)) == 0) with c3 | c3
      · rw [if_pos c3]
        rcases bt (rBit (x.M.Reg 0) 64) with c4 | c4
        · rw [if_pos c4]
          exact fn_of_x hG hM Tryd.func42 (by kernel_rfl) (by kernel_rfl) 400 [.callr [(1000, 1000)] [1000] [] 1001 (.bool (rsAsks x)) [], .no, .yes, .yes, .lit 0, .call [] [] 1000 (.bool (rBit (x.M.Reg 0) 64)) [], .yes, .call [] [] 1000 (RSmp.enc (rBegin ({ x.M with Next := b, At := 32768, Left := (i64.wrap (x.M.Left - 1)) } : RSmp))) []] (J (rsAsks_ok x) (J c1 (J c2 (J c3 (J (Eq.refl (0 : Int)) (J (by decide : 0 < 4) (J (rBit_ok (x.M.Reg 0) 64 (by decide)) (J c4 (J (rBegin_ok ({ x.M with Next := b, At := 32768, Left := (i64.wrap (x.M.Left - 1)) } : RSmp)) trivial))))))))) (by kernel_rfl)
        · rw [if_neg (nt c4)]
          rcases bt (rBit (x.M.Reg 0) 128) with c5 | c5
          · rw [if_pos c5]
            exact fn_of_x hG hM Tryd.func42 (by kernel_rfl) (by kernel_rfl) 400 [.callr [(1000, 1000)] [1000] [] 1001 (.bool (rsAsks x)) [], .no, .yes, .yes, .lit 0, .call [] [] 1000 (.bool (rBit (x.M.Reg 0) 64)) [], .no, .lit 0, .call [] [] 1000 (.bool (rBit (x.M.Reg 0) 128)) [], .yes] (J (rsAsks_ok x) (J c1 (J c2 (J c3 (J (Eq.refl (0 : Int)) (J (by decide : 0 < 4) (J (rBit_ok (x.M.Reg 0) 64 (by decide)) (J c4 (J (Eq.refl (0 : Int)) (J (by decide : 0 < 4) (J (rBit_ok (x.M.Reg 0) 128 (by decide)) (J c5 trivial)))))))))))) (by kernel_rfl)
          · rw [if_neg (nt c5)]
            exact fn_of_x hG hM Tryd.func42 (by kernel_rfl) (by kernel_rfl) 400 [.callr [(1000, 1000)] [1000] [] 1001 (.bool (rsAsks x)) [], .no, .yes, .yes, .lit 0, .call [] [] 1000 (.bool (rBit (x.M.Reg 0) 64)) [], .no, .lit 0, .call [] [] 1000 (.bool (rBit (x.M.Reg 0) 128)) [], .no] (J (rsAsks_ok x) (J c1 (J c2 (J c3 (J (Eq.refl (0 : Int)) (J (by decide : 0 < 4) (J (rBit_ok (x.M.Reg 0) 64 (by decide)) (J c4 (J (Eq.refl (0 : Int)) (J (by decide : 0 < 4) (J (rBit_ok (x.M.Reg 0) 128 (by decide)) (J c5 trivial)))))))))))) (by kernel_rfl)
      · rw [if_neg (nt c3)]
        exact fn_of_x hG hM Tryd.func42 (by kernel_rfl) (by kernel_rfl) 400 [.callr [(1000, 1000)] [1000] [] 1001 (.bool (rsAsks x)) [], .no, .yes, .no] (J (rsAsks_ok x) (J c1 (J c2 (J c3 trivial)))) (by kernel_rfl)
    · rw [if_neg (nt c2)]
      rcases bt ((i64.wrap (x.M.Left - 1)) == 0) with c3 | c3
      · rw [if_pos c3]
        rcases bt (rBit (x.M.Reg 0) 64) with c4 | c4
        · rw [if_pos c4]
          exact fn_of_x hG hM Tryd.func42 (by kernel_rfl) (by kernel_rfl) 400 [.callr [(1000, 1000)] [1000] [] 1001 (.bool (rsAsks x)) [], .no, .no, .yes, .lit 0, .call [] [] 1000 (.bool (rBit (x.M.Reg 0) 64)) [], .yes, .call [] [] 1000 (RSmp.enc (rBegin ({ x.M with Next := b, At := (i64.wrap (x.M.At + 1)), Left := (i64.wrap (x.M.Left - 1)) } : RSmp))) []] (J (rsAsks_ok x) (J c1 (J c2 (J c3 (J (Eq.refl (0 : Int)) (J (by decide : 0 < 4) (J (rBit_ok (x.M.Reg 0) 64 (by decide)) (J c4 (J (rBegin_ok ({ x.M with Next := b, At := (i64.wrap (x.M.At + 1)), Left := (i64.wrap (x.M.Left - 1)) } : RSmp)) trivial))))))))) (by kernel_rfl)
        · rw [if_neg (nt c4)]
          rcases bt (rBit (x.M.Reg 0) 128) with c5 | c5
          · rw [if_pos c5]
            exact fn_of_x hG hM Tryd.func42 (by kernel_rfl) (by kernel_rfl) 400 [.callr [(1000, 1000)] [1000] [] 1001 (.bool (rsAsks x)) [], .no, .no, .yes, .lit 0, .call [] [] 1000 (.bool (rBit (x.M.Reg 0) 64)) [], .no, .lit 0, .call [] [] 1000 (.bool (rBit (x.M.Reg 0) 128)) [], .yes] (J (rsAsks_ok x) (J c1 (J c2 (J c3 (J (Eq.refl (0 : Int)) (J (by decide : 0 < 4) (J (rBit_ok (x.M.Reg 0) 64 (by decide)) (J c4 (J (Eq.refl (0 : Int)) (J (by decide : 0 < 4) (J (rBit_ok (x.M.Reg 0) 128 (by decide)) (J c5 trivial)))))))))))) (by kernel_rfl)
          · rw [if_neg (nt c5)]
            exact fn_of_x hG hM Tryd.func42 (by kernel_rfl) (by kernel_rfl) 400 [.callr [(1000, 1000)] [1000] [] 1001 (.bool (rsAsks x)) [], .no, .no, .yes, .lit 0, .call [] [] 1000 (.bool (rBit (x.M.Reg 0) 64)) [], .no, .lit 0, .call [] [] 1000 (.bool (rBit (x.M.Reg 0) 128)) [], .no] (J (rsAsks_ok x) (J c1 (J c2 (J c3 (J (Eq.refl (0 : Int)) (J (by decide : 0 < 4) (J (rBit_ok (x.M.Reg 0) 64 (by decide)) (J c4 (J (Eq.refl (0 : Int)) (J (by decide : 0 < 4) (J (rBit_ok (x.M.Reg 0) 128 (by decide)) (J c5 trivial)))))))))))) (by kernel_rfl)
      · rw [if_neg (nt c3)]
        exact fn_of_x hG hM Tryd.func42 (by kernel_rfl) (by kernel_rfl) 400 [.callr [(1000, 1000)] [1000] [] 1001 (.bool (rsAsks x)) [], .no, .no, .no] (J (rsAsks_ok x) (J c1 (J c2 (J c3 trivial)))) (by kernel_rfl)
theorem rRow_p1 (b : Int) : FnSpec Tryd.prog 65 1000 [.int .i64 b] [] (.func (.yield 1) ⟨[.int .i64 (Int.tmod b 2), .int .i64 (Int.tmod (i64.wrap (Int.tdiv b 2)) 2), .int .i64 (Int.tmod (i64.wrap (Int.tdiv (i64.wrap (Int.tdiv b 2)) 2)) 2), .int .i64 (Int.tmod (i64.wrap (Int.tdiv (i64.wrap (Int.tdiv (i64.wrap (Int.tdiv b 2)) 2)) 2)) 2), .int .i64 (Int.tmod (i64.wrap (Int.tdiv (i64.wrap (Int.tdiv (i64.wrap (Int.tdiv (i64.wrap (Int.tdiv b 2)) 2)) 2)) 2)) 2), .int .i64 (Int.tmod (i64.wrap (Int.tdiv (i64.wrap (Int.tdiv (i64.wrap (Int.tdiv (i64.wrap (Int.tdiv (i64.wrap (Int.tdiv b 2)) 2)) 2)) 2)) 2)) 2), .int .i64 (Int.tmod (i64.wrap (Int.tdiv (i64.wrap (Int.tdiv (i64.wrap (Int.tdiv (i64.wrap (Int.tdiv (i64.wrap (Int.tdiv (i64.wrap (Int.tdiv b 2)) 2)) 2)) 2)) 2)) 2)) 2), .int .i64 (Int.tmod (i64.wrap (Int.tdiv (i64.wrap (Int.tdiv (i64.wrap (Int.tdiv (i64.wrap (Int.tdiv (i64.wrap (Int.tdiv (i64.wrap (Int.tdiv (i64.wrap (Int.tdiv b 2)) 2)) 2)) 2)) 2)) 2)) 2)) 2)]⟩ ⟨[.bool true]⟩) [] := by
  exact fn_of_f hG hM Tryd.func65 (by kernel_rfl) (by kernel_rfl) 400 [.unroll, .yes, .unroll, .yes, .unroll, .yes, .unroll, .yes, .unroll, .yes, .unroll, .yes, .unroll, .yes, .unroll, .yes, .unroll, .no] [1015] (J T1 (J (by decide : ((2 : Int) ≠ 0)) (J (by decide : 1 ≤ 1048576) (J (by decide : ((2 : Int) ≠ 0)) (J T1 (J (by decide : ((2 : Int) ≠ 0)) (J (by decide : 2 ≤ 1048576) (J (Eq.refl (1 : Nat)) (J (by decide : ((2 : Int) ≠ 0)) (J T1 (J (by decide : ((2 : Int) ≠ 0)) (J (by decide : 3 ≤ 1048576) (J (Eq.refl (2 : Nat)) (J (by decide : ((2 : Int) ≠ 0)) (J T1 (J (by decide : ((2 : Int) ≠ 0)) (J (by decide : 4 ≤ 1048576) (J (Eq.refl (3 : Nat)) (J (by decide : ((2 : Int) ≠ 0)) (J T1 (J (by decide : ((2 : Int) ≠ 0)) (J (by decide : 5 ≤ 1048576) (J (Eq.refl (4 : Nat)) (J (by decide : ((2 : Int) ≠ 0)) (J T1 (J (by decide : ((2 : Int) ≠ 0)) (J (by decide : 6 ≤ 1048576) (J (Eq.refl (5 : Nat)) (J (by decide : ((2 : Int) ≠ 0)) (J T1 (J (by decide : ((2 : Int) ≠ 0)) (J (by decide : 7 ≤ 1048576) (J (Eq.refl (6 : Nat)) (J (by decide : ((2 : Int) ≠ 0)) (J T1 (J (by decide : ((2 : Int) ≠ 0)) (J (by decide : 8 ≤ 1048576) (J (Eq.refl (7 : Nat)) (J (by decide : ((2 : Int) ≠ 0)) (J T0 trivial)))))))))))))))))))))))))))))))))))))))) (by kernel_rfl)
end Go.Proofs.YtgpcfjokmonlgaaDoor
namespace Go.Proofs.YtgpcfjokmonlgaaDoor
open Go VX
open Go.IntKind (i64 u8 u16)
set_option linter.unusedVariables false
set_option linter.unusedSimpArgs false
set_option maxRecDepth 100000
def rSmp (m : RSmp) : RSmp :=
  if (decide (m.Timer > 0)) = true then
    ({ m with Reg := (stN 4 (fun _ => 0) m.Reg), Timer := (i64.wrap (m.Timer - 1)) } : RSmp)
  else
    if (!m.Silent) = true then
      if ((List.getD ([(m.Row 0), (m.Row 1), (m.Row 2), (m.Row 3), (m.Row 4), (m.Row 5), (m.Row 6), (m.Row 7)] : List Int) (Int.toNat (i64.wrap (8 - m.Bits))) 0) == 1) = true then
        if (decide ((i64.wrap (m.Level + 2)) ≥ 0)) = true then
          if (decide ((i64.wrap (m.Level + 2)) ≤ 127)) = true then
            if ((i64.wrap (m.Bits - 1)) == 0) = true then
              if (!(decide (m.Next < 0))) = true then
                ({ Reg := (stN 4 (fun _ => 0) m.Reg), Level := (i64.wrap (m.Level + 2)), Next := (-1), Row := (fun j => List.getD [(Int.tmod m.Next 2), (Int.tmod (i64.wrap (Int.tdiv m.Next 2)) 2), (Int.tmod (i64.wrap (Int.tdiv (i64.wrap (Int.tdiv m.Next 2)) 2)) 2), (Int.tmod (i64.wrap (Int.tdiv (i64.wrap (Int.tdiv (i64.wrap (Int.tdiv m.Next 2)) 2)) 2)) 2), (Int.tmod (i64.wrap (Int.tdiv (i64.wrap (Int.tdiv (i64.wrap (Int.tdiv (i64.wrap (Int.tdiv m.Next 2)) 2)) 2)) 2)) 2), (Int.tmod (i64.wrap (Int.tdiv (i64.wrap (Int.tdiv (i64.wrap (Int.tdiv (i64.wrap (Int.tdiv (i64.wrap (Int.tdiv m.Next 2)) 2)) 2)) 2)) 2)) 2), (Int.tmod (i64.wrap (Int.tdiv (i64.wrap (Int.tdiv (i64.wrap (Int.tdiv (i64.wrap (Int.tdiv (i64.wrap (Int.tdiv (i64.wrap (Int.tdiv m.Next 2)) 2)) 2)) 2)) 2)) 2)) 2), (Int.tmod (i64.wrap (Int.tdiv (i64.wrap (Int.tdiv (i64.wrap (Int.tdiv (i64.wrap (Int.tdiv (i64.wrap (Int.tdiv (i64.wrap (Int.tdiv (i64.wrap (Int.tdiv m.Next 2)) 2)) 2)) 2)) 2)) 2)) 2)) 2)] j 0), Bits := 8, Silent := (decide (m.Next < 0)), Timer := (i64.wrap ((List.getD ([428, 380, 340, 320, 286, 254, 226, 214, 190, 160, 142, 128, 106, 84, 72, 54] : List Int) (Int.toNat (Int.tmod (m.Reg 0) 16)) 0) - 1)), At := m.At, Left := m.Left, IRQ := m.IRQ, told := true } : RSmp)
              else
                ({ m with Reg := (stN 4 (fun _ => 0) m.Reg), Level := (i64.wrap (m.Level + 2)), Bits := 8, Silent := (decide (m.Next < 0)), Timer := (i64.wrap ((List.getD ([428, 380, 340, 320, 286, 254, 226, 214, 190, 160, 142, 128, 106, 84, 72, 54] : List Int) (Int.toNat (Int.tmod (m.Reg 0) 16)) 0) - 1)) } : RSmp)
            else
              ({ m with Reg := (stN 4 (fun _ => 0) m.Reg), Level := (i64.wrap (m.Level + 2)), Bits := (i64.wrap (m.Bits - 1)), Timer := (i64.wrap ((List.getD ([428, 380, 340, 320, 286, 254, 226, 214, 190, 160, 142, 128, 106, 84, 72, 54] : List Int) (Int.toNat (Int.tmod (m.Reg 0) 16)) 0) - 1)) } : RSmp)
          else
            if ((i64.wrap (m.Bits - 1)) == 0) = true then
              if (!(decide (m.Next < 0))) = true then
                ({ Reg := (stN 4 (fun _ => 0) m.Reg), Level := m.Level, Next := (-1), Row := (fun j => List.getD [(Int.tmod m.Next 2), (Int.tmod (i64.wrap (Int.tdiv m.Next 2)) 2), (Int.tmod (i64.wrap (Int.tdiv (i64.wrap (Int.tdiv m.Next 2)) 2)) 2), (Int.tmod (i64.wrap (Int.tdiv (i64.wrap (Int.tdiv (i64.wrap (Int.tdiv m.Next 2)) 2)) 2)) 2), (Int.tmod (i64.wrap (Int.tdiv (i64.wrap (Int.tdiv (i64.wrap (Int.tdiv (i64.wrap (Int.tdiv m.Next 2)) 2)) 2)) 2)) 2), (Int.tmod (i64.wrap (Int.tdiv (i64.wrap (Int.tdiv (i64.wrap (Int.tdiv (i64.wrap (Int.tdiv (i64.wrap (Int.tdiv m.Next 2)) 2)) 2)) 2)) 2)) 2), (Int.tmod (i64.wrap (Int.tdiv (i64.wrap (Int.tdiv (i64.wrap (Int.tdiv (i64.wrap (Int.tdiv (i64.wrap (Int.tdiv (i64.wrap (Int.tdiv m.Next 2)) 2)) 2)) 2)) 2)) 2)) 2), (Int.tmod (i64.wrap (Int.tdiv (i64.wrap (Int.tdiv (i64.wrap (Int.tdiv (i64.wrap (Int.tdiv (i64.wrap (Int.tdiv (i64.wrap (Int.tdiv (i64.wrap (Int.tdiv m.Next 2)) 2)) 2)) 2)) 2)) 2)) 2)) 2)] j 0), Bits := 8, Silent := (decide (m.Next < 0)), Timer := (i64.wrap ((List.getD ([428, 380, 340, 320, 286, 254, 226, 214, 190, 160, 142, 128, 106, 84, 72, 54] : List Int) (Int.toNat (Int.tmod (m.Reg 0) 16)) 0) - 1)), At := m.At, Left := m.Left, IRQ := m.IRQ, told := true } : RSmp)
              else
                ({ m with Reg := (stN 4 (fun _ => 0) m.Reg), Bits := 8, Silent := (decide (m.Next < 0)), Timer := (i64.wrap ((List.getD ([428, 380, 340, 320, 286, 254, 226, 214, 190, 160, 142, 128, 106, 84, 72, 54] : List Int) (Int.toNat (Int.tmod (m.Reg 0) 16)) 0) - 1)) } : RSmp)
            else
              ({ m with Reg := (stN 4 (fun _ => 0) m.Reg), Bits := (i64.wrap (m.Bits - 1)), Timer := (i64.wrap ((List.getD ([428, 380, 340, 320, 286, 254, 226, 214, 190, 160, 142, 128, 106, 84, 72, 54] : List Int) (Int.toNat (Int.tmod (m.Reg 0) 16)) 0) - 1)) } : RSmp)
        else
          if ((i64.wrap (m.Bits - 1)) == 0) = true then
            if (!(decide (m.Next < 0))) = true then
              ({ Reg := (stN 4 (fun _ => 0) m.Reg), Level := m.Level, Next := (-1), Row := (fun j => List.getD [(Int.tmod m.Next 2), (Int.tmod (i64.wrap (Int.tdiv m.Next 2)) 2), (Int.tmod (i64.wrap (Int.tdiv (i64.wrap (Int.tdiv m.Next 2)) 2)) 2), (Int.tmod (i64.wrap (Int.tdiv (i64.wrap (Int.tdiv (i64.wrap (Int.tdiv m.Next 2)) 2)) 2)) 2), (Int.tmod (i64.wrap (Int.tdiv (i64.wrap (Int.tdiv (i64.wrap (Int.tdiv (i64.wrap (Int.tdiv m.Next 2)) 2)) 2)) 2)) 2), (Int.tmod (i64.wrap (Int.tdiv (i64.wrap (Int.tdiv (i64.wrap (Int.tdiv (i64.wrap (Int.tdiv (i64.wrap (Int.tdiv m.Next 2)) 2)) 2)) 2)) 2)) 2), (Int.tmod (i64.wrap (Int.tdiv (i64.wrap (Int.tdiv (i64.wrap (Int.tdiv (i64.wrap (Int.tdiv (i64.wrap (Int.tdiv (i64.wrap (Int.tdiv m.Next 2)) 2)) 2)) 2)) 2)) 2)) 2), (Int.tmod (i64.wrap (Int.tdiv (i64.wrap (Int.tdiv (i64.wrap (Int.tdiv (i64.wrap (Int.tdiv (i64.wrap (Int.tdiv (i64.wrap (Int.tdiv (i64.wrap (Int.tdiv m.Next 2)) 2)) 2)) 2)) 2)) 2)) 2)) 2)] j 0), Bits := 8, Silent := (decide (m.Next < 0)), Timer := (i64.wrap ((List.getD ([428, 380, 340, 320, 286, 254, 226, 214, 190, 160, 142, 128, 106, 84, 72, 54] : List Int) (Int.toNat (Int.tmod (m.Reg 0) 16)) 0) - 1)), At := m.At, Left := m.Left, IRQ := m.IRQ, told := true } : RSmp)
            else
              ({ m with Reg := (stN 4 (fun _ => 0) m.Reg), Bits := 8, Silent := (decide (m.Next < 0)), Timer := (i64.wrap ((List.getD ([428, 380, 340, 320, 286, 254, 226, 214, 190, 160, 142, 128, 106, 84, 72, 54] : List Int) (Int.toNat (Int.tmod (m.Reg 0) 16)) 0) - 1)) } : RSmp)
          else
            ({ m with Reg := (stN 4 (fun _ => 0) m.Reg), Bits := (i64.wrap (m.Bits - 1)), Timer := (i64.wrap ((List.getD ([428, 380, 340, 320, 286, 254, 226, 214, 190, 160, 142, 128, 106, 84, 72, 54] : List Int) (Int.toNat (Int.tmod (m.Reg 0) 16)) 0) - 1)) } : RSmp)
      else
        if (decide ((i64.wrap (m.Level - 2)) ≥ 0)) = true then
          if (decide ((i64.wrap (m.Level - 2)) ≤ 127)) = true then
            if ((i64.wrap (m.Bits - 1)) == 0) = true then
              if (!(decide (m.Next < 0))) = true then
                ({ Reg := (stN 4 (fun _ => 0) m.Reg), Level := (i64.wrap (m.Level - 2)), Next := (-1), Row := (fun j => List.getD [(Int.tmod m.Next 2), (Int.tmod (i64.wrap (Int.tdiv m.Next 2)) 2), (Int.tmod (i64.wrap (Int.tdiv (i64.wrap (Int.tdiv m.Next 2)) 2)) 2), (Int.tmod (i64.wrap (Int.tdiv (i64.wrap (Int.tdiv (i64.wrap (Int.tdiv m.Next 2)) 2)) 2)) 2), (Int.tmod (i64.wrap (Int.tdiv (i64.wrap (Int.tdiv (i64.wrap (Int.tdiv (i64.wrap (Int.tdiv m.Next 2)) 2)) 2)) 2)) 2), (Int.tmod (i64.wrap (Int.tdiv (i64.wrap (Int.tdiv (i64.wrap (Int.tdiv (i64.wrap (Int.tdiv (i64.wrap (Int.tdiv m.Next 2)) 2)) 2)) 2)) 2)) 2), (Int.tmod (i64.wrap (Int.tdiv (i64.wrap (Int.tdiv (i64.wrap (Int.tdiv (i64.wrap (Int.tdiv (i64.wrap (Int.tdiv (i64.wrap (Int.tdiv m.Next 2)) 2)) 2)) 2)) 2)) 2)) 2), (Int.tmod (i64.wrap (Int.tdiv (i64.wrap (Int.tdiv (i64.wrap (Int.tdiv (i64.wrap (Int.tdiv (i64.wrap (Int.tdiv (i64.wrap (Int.tdiv (i64.wrap (Int.tdiv m.Next 2)) 2)) 2)) 2)) 2)) 2)) 2)) 2)] j 0), Bits := 8, Silent := (decide (m.Next < 0)), Timer := (i64.wrap ((List.getD ([428, 380, 340, 320, 286, 254, 226, 214, 190, 160, 142, 128, 106, 84, 72, 54] : List Int) (Int.toNat (Int.tmod (m.Reg 0) 16)) 0) - 1)), At := m.At, Left := m.Left, IRQ := m.IRQ, told := true } : RSmp)
              else
                ({ m with Reg := (stN 4 (fun _ => 0) m.Reg), Level := (i64.wrap (m.Level - 2)), Bits := 8, Silent := (decide (m.Next < 0)), Timer := (i64.wrap ((List.getD ([428, 380, 340, 320, 286, 254, 226, 214, 190, 160, 142, 128, 106, 84, 72, 54] : List Int) (Int.toNat (Int.tmod (m.Reg 0) 16)) 0) - 1)) } : RSmp)
            else
              ({ m with Reg := (stN 4 (fun _ => 0) m.Reg), Level := (i64.wrap (m.Level - 2)), Bits := (i64.wrap (m.Bits - 1)), Timer := (i64.wrap ((List.getD ([428, 380, 340, 320, 286, 254, 226, 214, 190, 160, 142, 128, 106, 84, 72, 54] : List Int) (Int.toNat (Int.tmod (m.Reg 0) 16)) 0) - 1)) } : RSmp)
          else
            if ((i64.wrap (m.Bits - 1)) == 0) = true then
              if (!(decide (m.Next < 0))) = true then
                ({ Reg := (stN 4 (fun _ => 0) m.Reg), Level := m.Level, Next := (-1), Row := (fun j => List.getD [(Int.tmod m.Next 2), (Int.tmod (i64.wrap (Int.tdiv m.Next 2)) 2), (Int.tmod (i64.wrap (Int.tdiv (i64.wrap (Int.tdiv m.Next 2)) 2)) 2), (Int.tmod (i64.wrap (Int.tdiv (i64.wrap (Int.tdiv (i64.wrap (Int.tdiv m.Next 2)) 2)) 2)) 2), (Int.tmod (i64.wrap (Int.tdiv (i64.wrap (Int.tdiv (i64.wrap (Int.tdiv (i64.wrap (Int.tdiv m.Next 2)) 2)) 2)) 2)) 2), (Int.tmod (i64.wrap (Int.tdiv (i64.wrap (Int.tdiv (i64.wrap (Int.tdiv (i64.wrap (Int.tdiv (i64.wrap (Int.tdiv m.Next 2)) 2)) 2)) 2)) 2)) 2), (Int.tmod (i64.wrap (Int.tdiv (i64.wrap (Int.tdiv (i64.wrap (Int.tdiv (i64.wrap (Int.tdiv (i64.wrap (Int.tdiv (i64.wrap (Int.tdiv m.Next 2)) 2)) 2)) 2)) 2)) 2)) 2), (Int.tmod (i64.wrap (Int.tdiv (i64.wrap (Int.tdiv (i64.wrap (Int.tdiv (i64.wrap (Int.tdiv (i64.wrap (Int.tdiv (i64.wrap (Int.tdiv (i64.wrap (Int.tdiv m.Next 2)) 2)) 2)) 2)) 2)) 2)) 2)) 2)] j 0), Bits := 8, Silent := (decide (m.Next < 0)), Timer := (i64.wrap ((List.getD ([428, 380, 340, 320, 286, 254, 226, 214, 190, 160, 142, 128, 106, 84, 72, 54] : List Int) (Int.toNat (Int.tmod (m.Reg 0) 16)) 0) - 1)), At := m.At, Left := m.Left, IRQ := m.IRQ, told := true } : RSmp)
              else
                ({ m with Reg := (stN 4 (fun _ => 0) m.Reg), Bits := 8, Silent := (decide (m.Next < 0)), Timer := (i64.wrap ((List.getD ([428, 380, 340, 320, 286, 254, 226, 214, 190, 160, 142, 128, 106, 84, 72, 54] : List Int) (Int.toNat (Int.tmod (m.Reg 0) 16)) 0) - 1)) } : RSmp)
            else
              ({ m with Reg := (stN 4 (fun _ => 0) m.Reg), Bits := (i64.wrap (m.Bits - 1)), Timer := (i64.wrap ((List.getD ([428, 380, 340, 320, 286, 254, 226, 214, 190, 160, 142, 128, 106, 84, 72, 54] : List Int) (Int.toNat (Int.tmod (m.Reg 0) 16)) 0) - 1)) } : RSmp)
        else
          if ((i64.wrap (m.Bits - 1)) == 0) = true then
            if (!(decide (m.Next < 0))) = true then
              ({ Reg := (stN 4 (fun _ => 0) m.Reg), Level := m.Level, Next := (-1), Row := (fun j => List.getD [(Int.tmod m.Next 2), (Int.tmod (i64.wrap (Int.tdiv m.Next 2)) 2), (Int.tmod (i64.wrap (Int.tdiv (i64.wrap (Int.tdiv m.Next 2)) 2)) 2), (Int.tmod (i64.wrap (Int.tdiv (i64.wrap (Int.tdiv (i64.wrap (Int.tdiv m.Next 2)) 2)) 2)) 2), (Int.tmod (i64.wrap (Int.tdiv (i64.wrap (Int.tdiv (i64.wrap (Int.tdiv (i64.wrap (Int.tdiv m.Next 2)) 2)) 2)) 2)) 2), (Int.tmod (i64.wrap (Int.tdiv (i64.wrap (Int.tdiv (i64.wrap (Int.tdiv (i64.wrap (Int.tdiv (i64.wrap (Int.tdiv m.Next 2)) 2)) 2)) 2)) 2)) 2), (Int.tmod (i64.wrap (Int.tdiv (i64.wrap (Int.tdiv (i64.wrap (Int.tdiv (i64.wrap (Int.tdiv (i64.wrap (Int.tdiv (i64.wrap (Int.tdiv m.Next 2)) 2)) 2)) 2)) 2)) 2)) 2), (Int.tmod (i64.wrap (Int.tdiv (i64.wrap (Int.tdiv (i64.wrap (Int.tdiv (i64.wrap (Int.tdiv (i64.wrap (Int.tdiv (i64.wrap (Int.tdiv (i64.wrap (Int.tdiv m.Next 2)) 2)) 2)) 2)) 2)) 2)) 2)) 2)] j 0), Bits := 8, Silent := (decide (m.Next < 0)), Timer := (i64.wrap ((List.getD ([428, 380, 340, 320, 286, 254, 226, 214, 190, 160, 142, 128, 106, 84, 72, 54] : List Int) (Int.toNat (Int.tmod (m.Reg 0) 16)) 0) - 1)), At := m.At, Left := m.Left, IRQ := m.IRQ, told := true } : RSmp)
            else
              ({ m with Reg := (stN 4 (fun _ => 0) m.Reg), Bits := 8, Silent := (decide (m.Next < 0)), Timer := (i64.wrap ((List.getD ([428, 380, 340, 320, 286, 254, 226, 214, 190, 160, 142, 128, 106, 84, 72, 54] : List Int) (Int.toNat (Int.tmod (m.Reg 0) 16)) 0) - 1)) } : RSmp)
          else
            ({ m with Reg := (stN 4 (fun _ => 0) m.Reg), Bits := (i64.wrap (m.Bits - 1)), Timer := (i64.wrap ((List.getD ([428, 380, 340, 320, 286, 254, 226, 214, 190, 160, 142, 128, 106, 84, 72, 54] : List Int) (Int.toNat (Int.tmod (m.Reg 0) 16)) 0) - 1)) } : RSmp)
    else
      if ((i64.wrap (m.Bits - 1)) == 0) = true then
        if (!(decide (m.Next < 0))) = true then
          ({ Reg := (stN 4 (fun _ => 0) m.Reg), Level := m.Level, Next := (-1), Row := (fun j => List.getD [(Int.tmod m.Next 2), (Int.tmod (i64.wrap (Int.tdiv m.Next 2)) 2), (Int.tmod (i64.wrap (Int.tdiv (i64.wrap (Int.tdiv m.Next 2)) 2)) 2), (Int.tmod (i64.wrap (Int.tdiv (i64.wrap (Int.tdiv (i64.wrap (Int.tdiv m.Next 2)) 2)) 2)) 2), (Int.tmod (i64.wrap (Int.tdiv (i64.wrap (Int.tdiv (i64.wrap (Int.tdiv (i64.wrap (Int.tdiv m.Next 2)) 2)) 2)) 2)) 2), (Int.tmod (i64.wrap (Int.tdiv (i64.wrap (Int.tdiv (i64.wrap (Int.tdiv (i64.wrap (Int.tdiv (i64.wrap (Int.tdiv m.Next 2)) 2)) 2)) 2)) 2)) 2), (Int.tmod (i64.wrap (Int.tdiv (i64.wrap (Int.tdiv (i64.wrap (Int.tdiv (i64.wrap (Int.tdiv (i64.wrap (Int.tdiv (i64.wrap (Int.tdiv m.Next 2)) 2)) 2)) 2)) 2)) 2)) 2), (Int.tmod (i64.wrap (Int.tdiv (i64.wrap (Int.tdiv (i64.wrap (Int.tdiv (i64.wrap (Int.tdiv (i64.wrap (Int.tdiv (i64.wrap (Int.tdiv (i64.wrap (Int.tdiv m.Next 2)) 2)) 2)) 2)) 2)) 2)) 2)) 2)] j 0), Bits := 8, Silent := (decide (m.Next < 0)), Timer := (i64.wrap ((List.getD ([428, 380, 340, 320, 286, 254, 226, 214, 190, 160, 142, 128, 106, 84, 72, 54] : List Int) (Int.toNat (Int.tmod (m.Reg 0) 16)) 0) - 1)), At := m.At, Left := m.Left, IRQ := m.IRQ, told := true } : RSmp)
        else
          ({ m with Reg := (stN 4 (fun _ => 0) m.Reg), Bits := 8, Silent := (decide (m.Next < 0)), Timer := (i64.wrap ((List.getD ([428, 380, 340, 320, 286, 254, 226, 214, 190, 160, 142, 128, 106, 84, 72, 54] : List Int) (Int.toNat (Int.tmod (m.Reg 0) 16)) 0) - 1)) } : RSmp)
      else
        ({ m with Reg := (stN 4 (fun _ => 0) m.Reg), Bits := (i64.wrap (m.Bits - 1)), Timer := (i64.wrap ((List.getD ([428, 380, 340, 320, 286, 254, 226, 214, 190, 160, 142, 128, 106, 84, 72, 54] : List Int) (Int.toNat (Int.tmod (m.Reg 0) 16)) 0) - 1)) } : RSmp)
theorem rSmp_ok (m : RSmp) (hb : 1 ≤ m.Bits ∧ m.Bits ≤ 8) (ht : (!m.Silent) = true → m.told = true) (h0 : 0 ≤ m.Reg 0 ∧ m.Reg 0 < 256) : FnSpec Tryd.prog 50 1000 [RSmp.enc m] [] (RSmp.enc (rSmp m)) [] := by
  unfold rSmp
  rcases bt (decide (m.Timer > 0)) with c1 | c1
  · rw [if_pos c1]
    exact fn_of_x hG hM Tryd.func50 (by kernel_rfl) (by kernel_rfl) 400 [.group [4, 1, 1, 1, 1, 1, 1, 1, 1, 1], .segs [.ints .i64 4 (fun _ => 0), .one (.int .i64 0), .one (.int .i64 0), .one (.slice none 0 0), .one (.int .i64 0), .one (.bool false), .one (.int .i64 0), .one (.int .i64 0), .one (.int .i64 0), .one (.bool false)], .yes] (J c1 trivial) (by kernel_rfl)
  · rw [if_neg (nt c1)]
    rcases bt (!m.Silent) with c2 | c2
    · rw [if_pos c2]
      rcases bt ((List.getD ([(m.Row 0), (m.Row 1), (m.Row 2), (m.Row 3), (m.Row 4), (m.Row 5), (m.Row 6), (m.Row 7)] : List Int) (Int.toNat (i64.wrap (8 - m.Bits))) 0) == 1) with c3 | c3
      · rw [if_pos c3]
        rcases bt (decide ((i64.wrap (m.Level + 2)) ≥ 0)) with c4 | c4
        · rw [if_pos c4]
          rcases bt (decide ((i64.wrap (m.Level + 2)) ≤ 127)) with c5 | c5
          · rw [if_pos c5]
            rcases bt ((i64.wrap (m.Bits - 1)) == 0) with c6 | c6
            · rw [if_pos c6]
              rcases bt (!(decide (m.Next < 0))) with c7 | c7
              · rw [if_pos c7]
                have o1 : 0 ≤ (Int.tmod (m.Reg 0) 16) ∧ (Int.tmod (m.Reg 0) 16) < ((16 : Nat) : Int) := by have e := Int.tmod_eq_emod_of_nonneg (b := 16) h0.1; omega
                have o2 : (Int.toNat (Int.tmod (m.Reg 0) 16)) < 16 := by have e := Int.tmod_eq_emod_of_nonneg (b := 16) h0.1; omega
                have o3 : m.told = true := ht c2
                have o4 : 0 ≤ (i64.wrap (8 - m.Bits)) ∧ (i64.wrap (8 - m.Bits)) < ((8 : Nat) : Int) := by first | decide | omega | (simp only [decide_eq_true_eq, decide_eq_false_iff_not, rng, IntKind.wrap_i64, IntKind.wrap_u8, IntKind.wrap_u16] at *; omega)
                exact fn_of_x hG hM Tryd.func50 (by kernel_rfl) (by kernel_rfl) 400 [.group [4, 1, 1, 1, 1, 1, 1, 1, 1, 1], .segs [.ints .i64 4 (fun _ => 0), .one (.int .i64 0), .one (.int .i64 0), .one (.slice none 0 0), .one (.int .i64 0), .one (.bool false), .one (.int .i64 0), .one (.int .i64 0), .one (.int .i64 0), .one (.bool false)], .no, .lit 0, .sym, .among 16, .yes, .sym, .yes, .yes, .yes, .yes, .yes, .yes, .yes, .call [] [] 1000 (.func (.yield 1) ⟨[.int .i64 (Int.tmod m.Next 2), .int .i64 (Int.tmod (i64.wrap (Int.tdiv m.Next 2)) 2), .int .i64 (Int.tmod (i64.wrap (Int.tdiv (i64.wrap (Int.tdiv m.Next 2)) 2)) 2), .int .i64 (Int.tmod (i64.wrap (Int.tdiv (i64.wrap (Int.tdiv (i64.wrap (Int.tdiv m.Next 2)) 2)) 2)) 2), .int .i64 (Int.tmod (i64.wrap (Int.tdiv (i64.wrap (Int.tdiv (i64.wrap (Int.tdiv (i64.wrap (Int.tdiv m.Next 2)) 2)) 2)) 2)) 2), .int .i64 (Int.tmod (i64.wrap (Int.tdiv (i64.wrap (Int.tdiv (i64.wrap (Int.tdiv (i64.wrap (Int.tdiv (i64.wrap (Int.tdiv m.Next 2)) 2)) 2)) 2)) 2)) 2), .int .i64 (Int.tmod (i64.wrap (Int.tdiv (i64.wrap (Int.tdiv (i64.wrap (Int.tdiv (i64.wrap (Int.tdiv (i64.wrap (Int.tdiv (i64.wrap (Int.tdiv m.Next 2)) 2)) 2)) 2)) 2)) 2)) 2), .int .i64 (Int.tmod (i64.wrap (Int.tdiv (i64.wrap (Int.tdiv (i64.wrap (Int.tdiv (i64.wrap (Int.tdiv (i64.wrap (Int.tdiv (i64.wrap (Int.tdiv (i64.wrap (Int.tdiv m.Next 2)) 2)) 2)) 2)) 2)) 2)) 2)) 2)]⟩ ⟨[.bool true]⟩) []] (J c1 (J (Eq.refl (0 : Int)) (J (by decide : 0 < 4) (J (by decide : ((16 : Int) ≠ 0)) (J o1 (J o2 (J c2 (J o3 (J o4 (J c3 (J c4 (J c4 (J c4 (J c5 (J c6 (J c7 (J (rRow_p1 m.Next) trivial))))))))))))))))) (by kernel_rfl)
              · rw [if_neg (nt c7)]
                have o1 : 0 ≤ (Int.tmod (m.Reg 0) 16) ∧ (Int.tmod (m.Reg 0) 16) < ((16 : Nat) : Int) := by have e := Int.tmod_eq_emod_of_nonneg (b := 16) h0.1; omega
                have o2 : (Int.toNat (Int.tmod (m.Reg 0) 16)) < 16 := by have e := Int.tmod_eq_emod_of_nonneg (b := 16) h0.1; omega
                have o3 : m.told = true := ht c2
                have o4 : 0 ≤ (i64.wrap (8 - m.Bits)) ∧ (i64.wrap (8 - m.Bits)) < ((8 : Nat) : Int) := by first | decide | omega | (simp only [decide_eq_true_eq, decide_eq_false_iff_not, rng, IntKind.wrap_i64, IntKind.wrap_u8, IntKind.wrap_u16] at *; omega)
                exact fn_of_x hG hM Tryd.func50 (by kernel_rfl) (by kernel_rfl) 400 [.group [4, 1, 1, 1, 1, 1, 1, 1, 1, 1], .segs [.ints .i64 4 (fun _ => 0), .one (.int .i64 0), .one (.int .i64 0), .one (.slice none 0 0), .one (.int .i64 0), .one (.bool false), .one (.int .i64 0), .one (.int .i64 0), .one (.int .i64 0), .one (.bool false)], .no, .lit 0, .sym, .among 16, .yes, .sym, .yes, .yes, .yes, .yes, .yes, .yes, .no] (J c1 (J (Eq.refl (0 : Int)) (J (by decide : 0 < 4) (J (by decide : ((16 : Int) ≠ 0)) (J o1 (J o2 (J c2 (J o3 (J o4 (J c3 (J c4 (J c4 (J c4 (J c5 (J c6 (J c7 trivial)))))))))))))))) (by kernel_rfl)
            · rw [if_neg (nt c6)]
              have o1 : 0 ≤ (Int.tmod (m.Reg 0) 16) ∧ (Int.tmod (m.Reg 0) 16) < ((16 : Nat) : Int) := by have e := Int.tmod_eq_emod_of_nonneg (b := 16) h0.1; omega
              have o2 : (Int.toNat (Int.tmod (m.Reg 0) 16)) < 16 := by have e := Int.tmod_eq_emod_of_nonneg (b := 16) h0.1; omega
              have o3 : m.told = true := ht c2
              have o4 : 0 ≤ (i64.wrap (8 - m.Bits)) ∧ (i64.wrap (8 - m.Bits)) < ((8 : Nat) : Int) := by first | decide | omega | (simp only [decide_eq_true_eq, decide_eq_false_iff_not, rng, IntKind.wrap_i64, IntKind.wrap_u8, IntKind.wrap_u16] at *; omega)
              exact fn_of_x hG hM Tryd.func50 (by kernel_rfl) (by kernel_rfl) 400 [.group [4, 1, 1, 1, 1, 1, 1, 1, 1, 1], .segs [.ints .i64 4 (fun _ => 0), .one (.int .i64 0), .one (.int .i64 0), .one (.slice none 0 0), .one (.int .i64 0), .one (.bool false), .one (.int .i64 0), .one (.int .i64 0), .one (.int .i64 0), .one (.bool false)], .no, .lit 0, .sym, .among 16, .yes, .sym, .yes, .yes, .yes, .yes, .yes, .no] (J c1 (J (Eq.refl (0 : Int)) (J (by decide : 0 < 4) (J (by decide : ((16 : Int) ≠ 0)) (J o1 (J o2 (J c2 (J o3 (J o4 (J c3 (J c4 (J c4 (J c4 (J c5 (J c6 trivial))))))))))))))) (by kernel_rfl)
          · rw [if_neg (nt c5)]
            rcases bt ((i64.wrap (m.Bits - 1)) == 0) with c6 | c6
            · rw [if_pos c6]
              rcases bt (!(decide (m.Next < 0))) with c7 | c7
              · rw [if_pos c7]
                have o1 : 0 ≤ (Int.tmod (m.Reg 0) 16) ∧ (Int.tmod (m.Reg 0) 16) < ((16 : Nat) : Int) := by have e := Int.tmod_eq_emod_of_nonneg (b := 16) h0.1; omega
                have o2 : (Int.toNat (Int.tmod (m.Reg 0) 16)) < 16 := by have e := Int.tmod_eq_emod_of_nonneg (b := 16) h0.1; omega
                have o3 : m.told = true := ht c2
                have o4 : 0 ≤ (i64.wrap (8 - m.Bits)) ∧ (i64.wrap (8 - m.Bits)) < ((8 : Nat) : Int) := by first | decide | omega | (simp only [decide_eq_true_eq, decide_eq_false_iff_not, rng, IntKind.wrap_i64, IntKind.wrap_u8, IntKind.wrap_u16] at *; omega)
                exact fn_of_x hG hM Tryd.func50 (by kernel_rfl) (by kernel_rfl) 400 [.group [4, 1, 1, 1, 1, 1, 1, 1, 1, 1], .segs [.ints .i64 4 (fun _ => 0), .one (.int .i64 0), .one (.int .i64 0), .one (.slice none 0 0), .one (.int .i64 0), .one (.bool false), .one (.int .i64 0), .one (.int .i64 0), .one (.int .i64 0), .one (.bool false)], .no, .lit 0, .sym, .among 16, .yes, .sym, .yes, .yes, .yes, .yes, .no, .yes, .yes, .call [] [] 1000 (.func (.yield 1) ⟨[.int .i64 (Int.tmod m.Next 2), .int .i64 (Int.tmod (i64.wrap (Int.tdiv m.Next 2)) 2), .int .i64 (Int.tmod (i64.wrap (Int.tdiv (i64.wrap (Int.tdiv m.Next 2)) 2)) 2), .int .i64 (Int.tmod (i64.wrap (Int.tdiv (i64.wrap (Int.tdiv (i64.wrap (Int.tdiv m.Next 2)) 2)) 2)) 2), .int .i64 (Int.tmod (i64.wrap (Int.tdiv (i64.wrap (Int.tdiv (i64.wrap (Int.tdiv (i64.wrap (Int.tdiv m.Next 2)) 2)) 2)) 2)) 2), .int .i64 (Int.tmod (i64.wrap (Int.tdiv (i64.wrap (Int.tdiv (i64.wrap (Int.tdiv (i64.wrap (Int.tdiv (i64.wrap (Int.tdiv m.Next 2)) 2)) 2)) 2)) 2)) 2), .int .i64 (Int.tmod (i64.wrap (Int.tdiv (i64.wrap (Int.tdiv (i64.wrap (Int.tdiv (i64.wrap (Int.tdiv (i64.wrap (Int.tdiv (i64.wrap (Int.tdiv m.Next 2)) 2)) 2)) 2)) 2)) 2)) 2), .int .i64 (Int.tmod (i64.wrap (Int.tdiv (i64.wrap (Int.tdiv (i64.wrap (Int.tdiv (i64.wrap (Int.tdiv (i64.wrap (Int.tdiv (i64.wrap (Int.tdiv (i64.wrap (Int.tdiv m.Next 2)) 2)) 2)) 2)) 2)) 2)) 2)) 2)]⟩ ⟨[.bool true]⟩) []] (J c1 (J (Eq.refl (0 : Int)) (J (by decide : 0 < 4) (J (by decide : ((16 : Int) ≠ 0)) (J o1 (J o2 (J c2 (J o3 (J o4 (J c3 (J c4 (J c4 (J c4 (J c5 (J c6 (J c7 (J (rRow_p1 m.Next) trivial))))))))))))))))) (by kernel_rfl)
              · rw [if_neg (nt c7)]
                have o1 : 0 ≤ (Int.tmod (m.Reg 0) 16) ∧ (Int.tmod (m.Reg 0) 16) < ((16 : Nat) : Int) := by have e := Int.tmod_eq_emod_of_nonneg (b := 16) h0.1; omega
                have o2 : (Int.toNat (Int.tmod (m.Reg 0) 16)) < 16 := by have e := Int.tmod_eq_emod_of_nonneg (b := 16) h0.1; omega
                have o3 : m.told = true := ht c2
                have o4 : 0 ≤ (i64.wrap (8 - m.Bits)) ∧ (i64.wrap (8 - m.Bits)) < ((8 : Nat) : Int) := by first | decide | omega | (simp only [decide_eq_true_eq, decide_eq_false_iff_not, rng, IntKind.wrap_i64, IntKind.wrap_u8, IntKind.wrap_u16] at *; omega)
                exact fn_of_x hG hM Tryd.func50 (by kernel_rfl) (by kernel_rfl) 400 [.group [4, 1, 1, 1, 1, 1, 1, 1, 1, 1], .segs [.ints .i64 4 (fun _ => 0), .one (.int .i64 0), .one (.int .i64 0), .one (.slice none 0 0), .one (.int .i64 0), .one (.bool false), .one (.int .i64 0), .one (.int .i64 0), .one (.int .i64 0), .one (.bool false)], .no, .lit 0, .sym, .among 16, .yes, .sym, .yes, .yes, .yes, .yes, .no, .yes, .no] (J c1 (J (Eq.refl (0 : Int)) (J (by decide : 0 < 4) (J (by decide : ((16 : Int) ≠ 0)) (J o1 (J o2 (J c2 (J o3 (J o4 (J c3 (J c4 (J c4 (J c4 (J c5 (J c6 (J c7 trivial)))))))))))))))) (by kernel_rfl)
            · rw [if_neg (nt c6)]
              have o1 : 0 ≤ (Int.tmod (m.Reg 0) 16) ∧ (Int.tmod (m.Reg 0) 16) < ((16 : Nat) : Int) := by have e := Int.tmod_eq_emod_of_nonneg (b := 16) h0.1; omega
              have o2 : (Int.toNat (Int.tmod (m.Reg 0) 16)) < 16 := by have e := Int.tmod_eq_emod_of_nonneg (b := 16) h0.1; omega
              have o3 : m.told = true := ht c2
              have o4 : 0 ≤ (i64.wrap (8 - m.Bits)) ∧ (i64.wrap (8 - m.Bits)) < ((8 : Nat) : Int) := by first | decide | omega | (simp only [decide_eq_true_eq, decide_eq_false_iff_not, rng, IntKind.wrap_i64, IntKind.wrap_u8, IntKind.wrap_u16] at *; omega)
              exact fn_of_x hG hM Tryd.func50 (by kernel_rfl) (by kernel_rfl) 400 [.group [4, 1, 1, 1, 1, 1, 1, 1, 1, 1], .segs [.ints .i64 4 (fun _ => 0), .one (.int .i64 0), .one (.int .i64 0), .one (.slice none 0 0), .one (.int .i64 0), .one (.bool false), .one (.int .i64 0), .one (.int .i64 0), .one (.int .i64 0), .one (.bool false)], .no, .lit 0, .sym, .among 16, .yes, .sym, .yes, .yes, .yes, .yes, .no, .no] (J c1 (J (Eq.refl (0 : Int)) (J (by decide : 0 < 4) (J (by decide : ((16 : Int) ≠ 0)) (J o1 (J o2 (J c2 (J o3 (J o4 (J c3 (J c4 (J c4 (J c4 (J c5 (J c6 trivial))))))))))))))) (by kernel_rfl)
        · rw [if_neg (nt c4)]
          rcases bt ((i64.wrap (m.Bits - 1)) == 0) with c5 | c5
          · rw [if_pos c5]
            rcases bt (!(decide (m.Next < 0))) with c6 | c6
            · rw [if_pos c6]
              have o1 : 0 ≤ (Int.tmod (m.Reg 0) 16) ∧ (Int.tmod (m.Reg 0) 16) < ((16 : Nat) : Int) := by have e := Int.tmod_eq_emod_of_nonneg (b := 16) h0.1; omega
              have o2 : (Int.toNat (Int.tmod (m.Reg 0) 16)) < 16 := by have e := Int.tmod_eq_emod_of_nonneg (b := 16) h0.1; omega
              have o3 : m.told = true := ht c2
              have o4 : 0 ≤ (i64.wrap (8 - m.Bits)) ∧ (i64.wrap (8 - m.Bits)) < ((8 : Nat) : Int) := by first | decide | omega | (simp only [decide_eq_true_eq, decide_eq_false_iff_not, rng, IntKind.wrap_i64, IntKind.wrap_u8, IntKind.wrap_u16] at *; omega)
              exact fn_of_x hG hM Tryd.func50 (by kernel_rfl) (by kernel_rfl) 400 [.group [4, 1, 1, 1, 1, 1, 1, 1, 1, 1], .segs [.ints .i64 4 (fun _ => 0), .one (.int .i64 0), .one (.int .i64 0), .one (.slice none 0 0), .one (.int .i64 0), .one (.bool false), .one (.int .i64 0), .one (.int .i64 0), .one (.int .i64 0), .one (.bool false)], .no, .lit 0, .sym, .among 16, .yes, .sym, .yes, .no, .no, .no, .no, .yes, .yes, .call [] [] 1000 (.func (.yield 1) ⟨[.int .i64 (Int.tmod m.Next 2), .int .i64 (Int.tmod (i64.wrap (Int.tdiv m.Next 2)) 2), .int .i64 (Int.tmod (i64.wrap (Int.tdiv (i64.wrap (Int.tdiv m.Next 2)) 2)) 2), .int .i64 (Int.tmod (i64.wrap (Int.tdiv (i64.wrap (Int.tdiv (i64.wrap (Int.tdiv m.Next 2)) 2)) 2)) 2), .int .i64 (Int.tmod (i64.wrap (Int.tdiv (i64.wrap (Int.tdiv (i64.wrap (Int.tdiv (i64.wrap (Int.tdiv m.Next 2)) 2)) 2)) 2)) 2), .int .i64 (Int.tmod (i64.wrap (Int.tdiv (i64.wrap (Int.tdiv (i64.wrap (Int.tdiv (i64.wrap (Int.tdiv (i64.wrap (Int.tdiv m.Next 2)) 2)) 2)) 2)) 2)) 2), .int .i64 (Int.tmod (i64.wrap (Int.tdiv (i64.wrap (Int.tdiv (i64.wrap (Int.tdiv (i64.wrap (Int.tdiv (i64.wrap (Int.tdiv (i64.wrap (Int.tdiv m.Next 2)) 2)) 2)) 2)) 2)) 2)) 2), .int .i64 (Int.tmod (i64.wrap (Int.tdiv (i64.wrap (Int.tdiv (i64.wrap (Int.tdiv (i64.wrap (Int.tdiv (i64.wrap (Int.tdiv (i64.wrap (Int.tdiv (i64.wrap (Int.tdiv m.Next 2)) 2)) 2)) 2)) 2)) 2)) 2)) 2)]⟩ ⟨[.bool true]⟩) []] (J c1 (J (Eq.refl (0 : Int)) (J (by decide : 0 < 4) (J (by decide : ((16 : Int) ≠ 0)) (J o1 (J o2 (J c2 (J o3 (J o4 (J c3 (J c4 (J c4 (J c4 (J T0 (J c5 (J c6 (J (rRow_p1 m.Next) trivial))))))))))))))))) (by kernel_rfl)
            · rw [if_neg (nt c6)]
              have o1 : 0 ≤ (Int.tmod (m.Reg 0) 16) ∧ (Int.tmod (m.Reg 0) 16) < ((16 : Nat) : Int) := by have e := Int.tmod_eq_emod_of_nonneg (b := 16) h0.1; omega
              have o2 : (Int.toNat (Int.tmod (m.Reg 0) 16)) < 16 := by have e := Int.tmod_eq_emod_of_nonneg (b := 16) h0.1; omega
              have o3 : m.told = true := ht c2
              have o4 : 0 ≤ (i64.wrap (8 - m.Bits)) ∧ (i64.wrap (8 - m.Bits)) < ((8 : Nat) : Int) := by first | decide | omega | (simp only [decide_eq_true_eq, decide_eq_false_iff_not, rng, IntKind.wrap_i64, IntKind.wrap_u8, IntKind.wrap_u16] at *; omega)
              exact fn_of_x hG hM Tryd.func50 (by kernel_rfl) (by kernel_rfl) 400 [.group [4, 1, 1, 1, 1, 1, 1, 1, 1, 1], .segs [.ints .i64 4 (fun _ => 0), .one (.int .i64 0), .one (.int .i64 0), .one (.slice none 0 0), .one (.int .i64 0), .one (.bool false), .one (.int .i64 0), .one (.int .i64 0), .one (.int .i64 0), .one (.bool false)], .no, .lit 0, .sym, .among 16, .yes, .sym, .yes, .no, .no, .no, .no, .yes, .no] (J c1 (J (Eq.refl (0 : Int)) (J (by decide : 0 < 4) (J (by decide : ((16 : Int) ≠ 0)) (J o1 (J o2 (J c2 (J o3 (J o4 (J c3 (J c4 (J c4 (J c4 (J T0 (J c5 (J c6 trivial)))))))))))))))) (by kernel_rfl)
          · rw [if_neg (nt c5)]
            have o1 : 0 ≤ (Int.tmod (m.Reg 0) 16) ∧ (Int.tmod (m.Reg 0) 16) < ((16 : Nat) : Int) := by have e := Int.tmod_eq_emod_of_nonneg (b := 16) h0.1; omega
            have o2 : (Int.toNat (Int.tmod (m.Reg 0) 16)) < 16 := by have e := Int.tmod_eq_emod_of_nonneg (b := 16) h0.1; omega
            have o3 : m.told = true := ht c2
            have o4 : 0 ≤ (i64.wrap (8 - m.Bits)) ∧ (i64.wrap (8 - m.Bits)) < ((8 : Nat) : Int) := by first | decide | omega | (simp only [decide_eq_true_eq, decide_eq_false_iff_not, rng, IntKind.wrap_i64, IntKind.wrap_u8, IntKind.wrap_u16] at *; omega)
            exact fn_of_x hG hM Tryd.func50 (by kernel_rfl) (by kernel_rfl) 400 [.group [4, 1, 1, 1, 1, 1, 1, 1, 1, 1], .segs [.ints .i64 4 (fun _ => 0), .one (.int .i64 0), .one (.int .i64 0), .one (.slice none 0 0), .one (.int .i64 0), .one (.bool false), .one (.int .i64 0), .one (.int .i64 0), .one (.int .i64 0), .one (.bool false)], .no, .lit 0, .sym, .among 16, .yes, .sym, .yes, .no, .no, .no, .no, .no] (J c1 (J (Eq.refl (0 : Int)) (J (by decide : 0 < 4) (J (by decide : ((16 : Int) ≠ 0)) (J o1 (J o2 (J c2 (J o3 (J o4 (J c3 (J c4 (J c4 (J c4 (J T0 (J c5 trivial))))))))))))))) (by kernel_rfl)
      · rw [if_neg (nt c3)]
        rcases bt (decide ((i64.wrap (m.Level - 2)) ≥ 0)) with c4 | c4
        · rw [if_pos c4]
          rcases bt (decide ((i64.wrap (m.Level - 2)) ≤ 127)) with c5 | c5
          · rw [if_pos c5]
            rcases bt ((i64.wrap (m.Bits - 1)) == 0) with c6 | c6
            · rw [if_pos c6]
              rcases bt (!(decide (m.Next < 0))) with c7 | c7
              · rw [if_pos c7]
                have o1 : 0 ≤ (Int.tmod (m.Reg 0) 16) ∧ (Int.tmod (m.Reg 0) 16) < ((16 : Nat) : Int) := by have e := Int.tmod_eq_emod_of_nonneg (b := 16) h0.1; omega
                have o2 : (Int.toNat (Int.tmod (m.Reg 0) 16)) < 16 := by have e := Int.tmod_eq_emod_of_nonneg (b := 16) h0.1; omega
                have o3 : m.told = true := ht c2
                have o4 : 0 ≤ (i64.wrap (8 - m.Bits)) ∧ (i64.wrap (8 - m.Bits)) < ((8 : Nat) : Int) := by first | decide | omega | (simp only [decide_eq_true_eq, decide_eq_false_iff_not, rng, IntKind.wrap_i64, IntKind.wrap_u8, IntKind.wrap_u16] at *; omega)
                exact fn_of_x hG hM Tryd.func50 (by kernel_rfl) (by kernel_rfl) 400 [.group [4, 1, 1, 1, 1, 1, 1, 1, 1, 1], .segs [.ints .i64 4 (fun _ => 0), .one (.int .i64 0), .one (.int .i64 0), .one (.slice none 0 0), .one (.int .i64 0), .one (.bool false), .one (.int .i64 0), .one (.int .i64 0), .one (.int .i64 0), .one (.bool false)], .no, .lit 0, .sym, .among 16, .yes, .sym, .no, .yes, .yes, .yes, .yes, .yes, .yes, .call [] [] 1000 (.func (.yield 1) ⟨[.int .i64 (Int.tmod m.Next 2), .int .i64 (Int.tmod (i64.wrap (Int.tdiv m.Next 2)) 2), .int .i64 (Int.tmod (i64.wrap (Int.tdiv (i64.wrap (Int.tdiv m.Next 2)) 2)) 2), .int .i64 (Int.tmod (i64.wrap (Int.tdiv (i64.wrap (Int.tdiv (i64.wrap (Int.tdiv m.Next 2)) 2)) 2)) 2), .int .i64 (Int.tmod (i64.wrap (Int.tdiv (i64.wrap (Int.tdiv (i64.wrap (Int.tdiv (i64.wrap (Int.tdiv m.Next 2)) 2)) 2)) 2)) 2), .int .i64 (Int.tmod (i64.wrap (Int.tdiv (i64.wrap (Int.tdiv (i64.wrap (Int.tdiv (i64.wrap (Int.tdiv (i64.wrap (Int.tdiv m.Next 2)) 2)) 2)) 2)) 2)) 2), .int .i64 (Int.tmod (i64.wrap (Int.tdiv (i64.wrap (Int.tdiv (i64.wrap (Int.tdiv (i64.wrap (Int.tdiv (i64.wrap (Int.tdiv (i64.wrap (Int.tdiv m.Next 2)) 2)) 2)) 2)) 2)) 2)) 2), .int .i64 (Int.tmod (i64.wrap (Int.tdiv (i64.wrap (Int.tdiv (i64.wrap (Int.tdiv (i64.wrap (Int.tdiv (i64.wrap (Int.tdiv (i64.wrap (Int.tdiv (i64.wrap (Int.tdiv m.Next 2)) 2)) 2)) 2)) 2)) 2)) 2)) 2)]⟩ ⟨[.bool true]⟩) []] (J c1 (J (Eq.refl (0 : Int)) (J (by decide : 0 < 4) (J (by decide : ((16 : Int) ≠ 0)) (J o1 (J o2 (J c2 (J o3 (J o4 (J c3 (J c4 (J c4 (J c4 (J c5 (J c6 (J c7 (J (rRow_p1 m.Next) trivial))))))))))))))))) (by kernel_rfl)
              · rw [if_neg (nt c7)]
                have o1 : 0 ≤ (Int.tmod (m.Reg 0) 16) ∧ (Int.tmod (m.Reg 0) 16) < ((16 : Nat) : Int) := by have e := Int.tmod_eq_emod_of_nonneg (b := 16) h0.1; omega
                have o2 : (Int.toNat (Int.tmod (m.Reg 0) 16)) < 16 := by have e := Int.tmod_eq_emod_of_nonneg (b := 16) h0.1; omega
                have o3 : m.told = true := ht c2
                have o4 : 0 ≤ (i64.wrap (8 - m.Bits)) ∧ (i64.wrap (8 - m.Bits)) < ((8 : Nat) : Int) := by first | decide | omega | (simp only [decide_eq_true_eq, decide_eq_false_iff_not, rng, IntKind.wrap_i64, IntKind.wrap_u8, IntKind.wrap_u16] at *; omega)
                exact fn_of_x hG hM Tryd.func50 (by kernel_rfl) (by kernel_rfl) 400 [.group [4, 1, 1, 1, 1, 1, 1, 1, 1, 1], .segs [.ints .i64 4 (fun _ => 0), .one (.int .i64 0), .one (.int .i64 0), .one (.slice none 0 0), .one (.int .i64 0), .one (.bool false), .one (.int .i64 0), .one (.int .i64 0), .one (.int .i64 0), .one (.bool false)], .no, .lit 0, .sym, .among 16, .yes, .sym, .no, .yes, .yes, .yes, .yes, .yes, .no] (J c1 (J (Eq.refl (0 : Int)) (J (by decide : 0 < 4) (J (by decide : ((16 : Int) ≠ 0)) (J o1 (J o2 (J c2 (J o3 (J o4 (J c3 (J c4 (J c4 (J c4 (J c5 (J c6 (J c7 trivial)))))))))))))))) (by kernel_rfl)
            · rw [if_neg (nt c6)]
              have o1 : 0 ≤ (Int.tmod (m.Reg 0) 16) ∧ (Int.tmod (m.Reg 0) 16) < ((16 : Nat) : Int) := by have e := Int.tmod_eq_emod_of_nonneg (b := 16) h0.1; omega
              have o2 : (Int.toNat (Int.tmod (m.Reg 0) 16)) < 16 := by have e := Int.tmod_eq_emod_of_nonneg (b := 16) h0.1; omega
              have o3 : m.told = true := ht c2
              have o4 : 0 ≤ (i64.wrap (8 - m.Bits)) ∧ (i64.wrap (8 - m.Bits)) < ((8 : Nat) : Int) := by first | decide | omega | (simp only [decide_eq_true_eq, decide_eq_false_iff_not, rng, IntKind.wrap_i64, IntKind.wrap_u8, IntKind.wrap_u16] at *; omega)
              exact fn_of_x hG hM Tryd.func50 (by kernel_rfl) (by kernel_rfl) 400 [.group [4, 1, 1, 1, 1, 1, 1, 1, 1, 1], .segs [.ints .i64 4 (fun _ => 0), .one (.int .i64 0), .one (.int .i64 0), .one (.slice none 0 0), .one (.int .i64 0), .one (.bool false), .one (.int .i64 0), .one (.int .i64 0), .one (.int .i64 0), .one (.bool false)], .no, .lit 0, .sym, .among 16, .yes, .sym, .no, .yes, .yes, .yes, .yes, .no] (J c1 (J (Eq.refl (0 : Int)) (J (by decide : 0 < 4) (J (by decide : ((16 : Int) ≠ 0)) (J o1 (J o2 (J c2 (J o3 (J o4 (J c3 (J c4 (J c4 (J c4 (J c5 (J c6 trivial))))))))))))))) (by kernel_rfl)
          · rw [if_neg (nt c5)]
            rcases bt ((i64.wrap (m.Bits - 1)) == 0) with c6 | c6
            · rw [if_pos c6]
              rcases bt (!(decide (m.Next < 0))) with c7 | c7
              · rw [if_pos c7]
                have o1 : 0 ≤ (Int.tmod (m.Reg 0) 16) ∧ (Int.tmod (m.Reg 0) 16) < ((16 : Nat) : Int) := by have e := Int.tmod_eq_emod_of_nonneg (b := 16) h0.1; omega
                have o2 : (Int.toNat (Int.tmod (m.Reg 0) 16)) < 16 := by have e := Int.tmod_eq_emod_of_nonneg (b := 16) h0.1; omega
                have o3 : m.told = true := ht c2
                have o4 : 0 ≤ (i64.wrap (8 - m.Bits)) ∧ (i64.wrap (8 - m.Bits)) < ((8 : Nat) : Int) := by first | decide | omega | (simp only [decide_eq_true_eq, decide_eq_false_iff_not, rng, IntKind.wrap_i64, IntKind.wrap_u8, IntKind.wrap_u16] at *; omega)
                exact fn_of_x hG hM Tryd.func50 (by kernel_rfl) (by kernel_rfl) 400 [.group [4, 1, 1, 1, 1, 1, 1, 1, 1, 1], .segs [.ints .i64 4 (fun _ => 0), .one (.int .i64 0), .one (.int .i64 0), .one (.slice none 0 0), .one (.int .i64 0), .one (.bool false), .one (.int .i64 0), .one (.int .i64 0), .one (.int .i64 0), .one (.bool false)], .no, .lit 0, .sym, .among 16, .yes, .sym, .no, .yes, .yes, .yes, .no, .yes, .yes, .call [] [] 1000 (.func (.yield 1) ⟨[.int .i64 (Int.tmod m.Next 2), .int .i64 (Int.tmod (i64.wrap (Int.tdiv m.Next 2)) 2), .int .i64 (Int.tmod (i64.wrap (Int.tdiv (i64.wrap (Int.tdiv m.Next 2)) 2)) 2), .int .i64 (Int.tmod (i64.wrap (Int.tdiv (i64.wrap (Int.tdiv (i64.wrap (Int.tdiv m.Next 2)) 2)) 2)) 2), .int .i64 (Int.tmod (i64.wrap (Int.tdiv (i64.wrap (Int.tdiv (i64.wrap (Int.tdiv (i64.wrap (Int.tdiv m.Next 2)) 2)) 2)) 2)) 2), .int .i64 (Int.tmod (i64.wrap (Int.tdiv (i64.wrap (Int.tdiv (i64.wrap (Int.tdiv (i64.wrap (Int.tdiv (i64.wrap (Int.tdiv m.Next 2)) 2)) 2)) 2)) 2)) 2), .int .i64 (Int.tmod (i64.wrap (Int.tdiv (i64.wrap (Int.tdiv (i64.wrap (Int.tdiv (i64.wrap (Int.tdiv (i64.wrap (Int.tdiv (i64.wrap (Int.tdiv m.Next 2)) 2)) 2)) 2)) 2)) 2)) 2), .int .i64 (Int.tmod (i64.wrap (Int.tdiv (i64.wrap (Int.tdiv (i64.wrap (Int.tdiv (i64.wrap (Int.tdiv (i64.wrap (Int.tdiv (i64.wrap (Int.tdiv (i64.wrap (Int.tdiv m.Next 2)) 2)) 2)) 2)) 2)) 2)) 2)) 2)]⟩ ⟨[.bool true]⟩) []] (J c1 (J (Eq.refl (0 : Int)) (J (by decide : 0 < 4) (J (by decide : ((16 : Int) ≠ 0)) (J o1 (J o2 (J c2 (J o3 (J o4 (J c3 (J c4 (J c4 (J c4 (J c5 (J c6 (J c7 (J (rRow_p1 m.Next) trivial))))))))))))))))) (by kernel_rfl)
              · rw [if_neg (nt c7)]
                have o1 : 0 ≤ (Int.tmod (m.Reg 0) 16) ∧ (Int.tmod (m.Reg 0) 16) < ((16 : Nat) : Int) := by have e := Int.tmod_eq_emod_of_nonneg (b := 16) h0.1; omega
                have o2 : (Int.toNat (Int.tmod (m.Reg 0) 16)) < 16 := by have e := Int.tmod_eq_emod_of_nonneg (b := 16) h0.1; omega
                have o3 : m.told = true := ht c2
                have o4 : 0 ≤ (i64.wrap (8 - m.Bits)) ∧ (i64.wrap (8 - m.Bits)) < ((8 : Nat) : Int) := by first | decide | omega | (simp only [decide_eq_true_eq, decide_eq_false_iff_not, rng, IntKind.wrap_i64, IntKind.wrap_u8, IntKind.wrap_u16] at *; omega)
                exact fn_of_x hG hM Tryd.func50 (by kernel_rfl) (by kernel_rfl) 400 [.group [4, 1, 1, 1, 1, 1, 1, 1, 1, 1], .segs [.ints .i64 4 (fun _ => 0), .one (.int .i64 0), .one (.int .i64 0), .one (.slice none 0 0), .one (.int .i64 0), .one (.bool false), .one (.int .i64 0), .one (.int .i64 0), .one (.int .i64 0), .one (.bool false)], .no, .lit 0, .sym, .among 16, .yes, .sym, .no, .yes, .yes, .yes, .no, .yes, .no] (J c1 (J (Eq.refl (0 : Int)) (J (by decide : 0 < 4) (J (by decide : ((16 : Int) ≠ 0)) (J o1 (J o2 (J c2 (J o3 (J o4 (J c3 (J c4 (J c4 (J c4 (J c5 (J c6 (J c7 trivial)))))))))))))))) (by kernel_rfl)
            · rw [if_neg (nt c6)]
              have o1 : 0 ≤ (Int.tmod (m.Reg 0) 16) ∧ (Int.tmod (m.Reg 0) 16) < ((16 : Nat) : Int) := by have e := Int.tmod_eq_emod_of_nonneg (b := 16) h0.1; omega
              have o2 : (Int.toNat (Int.tmod (m.Reg 0) 16)) < 16 := by have e := Int.tmod_eq_emod_of_nonneg (b := 16) h0.1; omega
              have o3 : m.told = true := ht c2
              have o4 : 0 ≤ (i64.wrap (8 - m.Bits)) ∧ (i64.wrap (8 - m.Bits)) < ((8 : Nat) : Int) := by first | decide | omega | (simp only [decide_eq_true_eq, decide_eq_false_iff_not, rng, IntKind.wrap_i64, IntKind.wrap_u8, IntKind.wrap_u16] at *; omega)
              exact fn_of_x hG hM Tryd.func50 (by kernel_rfl) (by kernel_rfl) 400 [.group [4, 1, 1, 1, 1, 1, 1, 1, 1, 1], .segs [.ints .i64 4 (fun _ => 0), .one (.int .i64 0), .one (.int .i64 0), .one (.slice none 0 0), .one (.int .i64 0), .one (.bool false), .one (.int .i64 0), .one (.int .i64 0), .one (.int .i64 0), .one (.bool false)], .no, .lit 0, .sym, .among 16, .yes, .sym, .no, .yes, .yes, .yes, .no, .no] (J c1 (J (Eq.refl (0 : Int)) (J (by decide : 0 < 4) (J (by decide : ((16 : Int) ≠ 0)) (J o1 (J o2 (J c2 (J o3 (J o4 (J c3 (J c4 (J c4 (J c4 (J c5 (J c6 trivial))))))))))))))) (by kernel_rfl)
        · rw [if_neg (nt c4)]
          rcases bt ((i64.wrap (m.Bits - 1)) == 0) with c5 | c5
          · rw [if_pos c5]
            rcases bt (!(decide (m.Next < 0))) with c6 | c6
            · rw [if_pos c6]
              have o1 : 0 ≤ (Int.tmod (m.Reg 0) 16) ∧ (Int.tmod (m.Reg 0) 16) < ((16 : Nat) : Int) := by have e := Int.tmod_eq_emod_of_nonneg (b := 16) h0.1; omega
              have o2 : (Int.toNat (Int.tmod (m.Reg 0) 16)) < 16 := by have e := Int.tmod_eq_emod_of_nonneg (b := 16) h0.1; omega
              have o3 : m.told = true := ht c2
              have o4 : 0 ≤ (i64.wrap (8 - m.Bits)) ∧ (i64.wrap (8 - m.Bits)) < ((8 : Nat) : Int) := by first | decide | omega | (simp only [decide_eq_true_eq, decide_eq_false_iff_not, rng, IntKind.wrap_i64, IntKind.wrap_u8, IntKind.wrap_u16] at *; omega)
              exact fn_of_x hG hM Tryd.func50 (by kernel_rfl) (by kernel_rfl) 400 [.group [4, 1, 1, 1, 1, 1, 1, 1, 1, 1], .segs [.ints .i64 4 (fun _ => 0), .one (.int .i64 0), .one (.int .i64 0), .one (.slice none 0 0), .one (.int .i64 0), .one (.bool false), .one (.int .i64 0), .one (.int .i64 0), .one (.int .i64 0), .one (.bool false)], .no, .lit 0, .sym, .among 16, .yes, .sym, .no, .no, .no, .no, .no, .yes, .yes, .call [] [] 1000 (.func (.yield 1) ⟨[.int .i64 (Int.tmod m.Next 2), .int .i64 (Int.tmod (i64.wrap (Int.tdiv m.Next 2)) 2), .int .i64 (Int.tmod (i64.wrap (Int.tdiv (i64.wrap (Int.tdiv m.Next 2)) 2)) 2), .int .i64 (Int.tmod (i64.wrap (Int.tdiv (i64.wrap (Int.tdiv (i64.wrap (Int.tdiv m.Next 2)) 2)) 2)) 2), .int .i64 (Int.tmod (i64.wrap (Int.tdiv (i64.wrap (Int.tdiv (i64.wrap (Int.tdiv (i64.wrap (Int.tdiv m.Next 2)) 2)) 2)) 2)) 2), .int .i64 (Int.tmod (i64.wrap (Int.tdiv (i64.wrap (Int.tdiv (i64.wrap (Int.tdiv (i64.wrap (Int.tdiv (i64.wrap (Int.tdiv m.Next 2)) 2)) 2)) 2)) 2)) 2), .int .i64 (Int.tmod (i64.wrap (Int.tdiv (i64.wrap (Int.tdiv (i64.wrap (Int.tdiv (i64.wrap (Int.tdiv (i64.wrap (Int.tdiv (i64.wrap (Int.tdiv m.Next 2)) 2)) 2)) 2)) 2)) 2)) 2), .int .i64 (Int.tmod (i64.wrap (Int.tdiv (i64.wrap (Int.tdiv (i64.wrap (Int.tdiv (i64.wrap (Int.tdiv (i64.wrap (Int.tdiv (i64.wrap (Int.tdiv (i64.wrap (Int.tdiv m.Next 2)) 2)) 2)) 2)) 2)) 2)) 2)) 2)]⟩ ⟨[.bool true]⟩) []] (J c1 (J (Eq.refl (0 : Int)) (J (by decide : 0 < 4) (J (by decide : ((16 : Int) ≠ 0)) (J o1 (J o2 (J c2 (J o3 (J o4 (J c3 (J c4 (J c4 (J c4 (J T0 (J c5 (J c6 (J (rRow_p1 m.Next) trivial))))))))))))))))) (by kernel_rfl)
            · rw [if_neg (nt c6)]
              have o1 : 0 ≤ (Int.tmod (m.Reg 0) 16) ∧ (Int.tmod (m.Reg 0) 16) < ((16 : Nat) : Int) := by have e := Int.tmod_eq_emod_of_nonneg (b := 16) h0.1; omega
              have o2 : (Int.toNat (Int.tmod (m.Reg 0) 16)) < 16 := by have e := Int.tmod_eq_emod_of_nonneg (b := 16) h0.1; omega
              have o3 : m.told = true := ht c2
              have o4 : 0 ≤ (i64.wrap (8 - m.Bits)) ∧ (i64.wrap (8 - m.Bits)) < ((8 : Nat) : Int) := by first | decide | omega | (simp only [decide_eq_true_eq, decide_eq_false_iff_not, rng, IntKind.wrap_i64, IntKind.wrap_u8, IntKind.wrap_u16] at *; omega)
              exact fn_of_x hG hM Tryd.func50 (by kernel_rfl) (by kernel_rfl) 400 [.group [4, 1, 1, 1, 1, 1, 1, 1, 1, 1], .segs [.ints .i64 4 (fun _ => 0), .one (.int .i64 0), .one (.int .i64 0), .one (.slice none 0 0), .one (.int .i64 0), .one (.bool false), .one (.int .i64 0), .one (.int .i64 0), .one (.int .i64 0), .one (.bool false)], .no, .lit 0, .sym, .among 16, .yes, .sym, .no, .no, .no, .no, .no, .yes, .no] (J c1 (J (Eq.refl (0 : Int)) (J (by decide : 0 < 4) (J (by decide : ((16 : Int) ≠ 0)) (J o1 (J o2 (J c2 (J o3 (J o4 (J c3 (J c4 (J c4 (J c4 (J T0 (J c5 (J c6 trivial)))))))))))))))) (by kernel_rfl)
          · rw [if_neg (nt c5)]
            have o1 : 0 ≤ (Int.tmod (m.Reg 0) 16) ∧ (Int.tmod (m.Reg 0) 16) < ((16 : Nat) : Int) := by have e := Int.tmod_eq_emod_of_nonneg (b := 16) h0.1; omega
            have o2 : (Int.toNat (Int.tmod (m.Reg 0) 16)) < 16 := by have e := Int.tmod_eq_emod_of_nonneg (b := 16) h0.1; omega
            have o3 : m.told = true := ht c2
            have o4 : 0 ≤ (i64.wrap (8 - m.Bits)) ∧ (i64.wrap (8 - m.Bits)) < ((8 : Nat) : Int) := by first | decide | omega | (simp only [decide_eq_true_eq, decide_eq_false_iff_not, rng, IntKind.wrap_i64, IntKind.wrap_u8, IntKind.wrap_u16] at *; omega)
            exact fn_of_x hG hM Tryd.func50 (by kernel_rfl) (by kernel_rfl) 400 [.group [4, 1, 1, 1, 1, 1, 1, 1, 1, 1], .segs [.ints .i64 4 (fun _ => 0), .one (.int .i64 0), .one (.int .i64 0), .one (.slice none 0 0), .one (.int .i64 0), .one (.bool false), .one (.int .i64 0), .one (.int .i64 0), .one (.int .i64 0), .one (.bool false)], .no, .lit 0, .sym, .among 16, .yes, .sym, .no, .no, .no, .no, .no, .no] (J c1 (J (Eq.refl (0 : Int)) (J (by decide : 0 < 4) (J (by decide : ((16 : Int) ≠ 0)) (J o1 (J o2 (J c2 (J o3 (J o4 (J c3 (J c4 (J c4 (J c4 (J T0 (J c5 trivial))))))))))))))) (by kernel_rfl)
    · rw [if_neg (nt c2)]
      rcases bt ((i64.wrap (m.Bits - 1)) == 0) with c3 | c3
      · rw [if_pos c3]
        rcases bt (!(decide (m.Next < 0))) with c4 | c4
        · rw [if_pos c4]
          have o1 : 0 ≤ (Int.tmod (m.Reg 0) 16) ∧ (Int.tmod (m.Reg 0) 16) < ((16 : Nat) : Int) := by have e := Int.tmod_eq_emod_of_nonneg (b := 16) h0.1; omega
          have o2 : (Int.toNat (Int.tmod (m.Reg 0) 16)) < 16 := by have e := Int.tmod_eq_emod_of_nonneg (b := 16) h0.1; omega
          exact fn_of_x hG hM Tryd.func50 (by kernel_rfl) (by kernel_rfl) 400 [.group [4, 1, 1, 1, 1, 1, 1, 1, 1, 1], .segs [.ints .i64 4 (fun _ => 0), .one (.int .i64 0), .one (.int .i64 0), .one (.slice none 0 0), .one (.int .i64 0), .one (.bool false), .one (.int .i64 0), .one (.int .i64 0), .one (.int .i64 0), .one (.bool false)], .no, .lit 0, .sym, .among 16, .no, .yes, .yes, .call [] [] 1000 (.func (.yield 1) ⟨[.int .i64 (Int.tmod m.Next 2), .int .i64 (Int.tmod (i64.wrap (Int.tdiv m.Next 2)) 2), .int .i64 (Int.tmod (i64.wrap (Int.tdiv (i64.wrap (Int.tdiv m.Next 2)) 2)) 2), .int .i64 (Int.tmod (i64.wrap (Int.tdiv (i64.wrap (Int.tdiv (i64.wrap (Int.tdiv m.Next 2)) 2)) 2)) 2), .int .i64 (Int.tmod (i64.wrap (Int.tdiv (i64.wrap (Int.tdiv (i64.wrap (Int.tdiv (i64.wrap (Int.tdiv m.Next 2)) 2)) 2)) 2)) 2), .int .i64 (Int.tmod (i64.wrap (Int.tdiv (i64.wrap (Int.tdiv (i64.wrap (Int.tdiv (i64.wrap (Int.tdiv (i64.wrap (Int.tdiv m.Next 2)) 2)) 2)) 2)) 2)) 2), .int .i64 (Int.tmod (i64.wrap (Int.tdiv (i64.wrap (Int.tdiv (i64.wrap (Int.tdiv (i64.wrap (Int.tdiv (i64.wrap (Int.tdiv (i64.wrap (Int.tdiv m.Next 2)) 2)) 2)) 2)) 2)) 2)) 2), .int .i64 (Int.tmod (i64.wrap (Int.tdiv (i64.wrap (Int.tdiv (i64.wrap (Int.tdiv (i64.wrap (Int.tdiv (i64.wrap (Int.tdiv (i64.wrap (Int.tdiv (i64.wrap (Int.tdiv m.Next 2)) 2)) 2)) 2)) 2)) 2)) 2)) 2)]⟩ ⟨[.bool true]⟩) []] (J c1 (J (Eq.refl (0 : Int)) (J (by decide : 0 < 4) (J (by decide : ((16 : Int) ≠ 0)) (J o1 (J o2 (J c2 (J c3 (J c4 (J (rRow_p1 m.Next) trivial)))))))))) (by kernel_rfl)
        · rw [if_neg (nt c4)]
          have o1 : 0 ≤ (Int.tmod (m.Reg 0) 16) ∧ (Int.tmod (m.Reg 0) 16) < ((16 : Nat) : Int) := by have e := Int.tmod_eq_emod_of_nonneg (b := 16) h0.1; omega
          have o2 : (Int.toNat (Int.tmod (m.Reg 0) 16)) < 16 := by have e := Int.tmod_eq_emod_of_nonneg (b := 16) h0.1; omega
          exact fn_of_x hG hM Tryd.func50 (by kernel_rfl) (by kernel_rfl) 400 [.group [4, 1, 1, 1, 1, 1, 1, 1, 1, 1], .segs [.ints .i64 4 (fun _ => 0), .one (.int .i64 0), .one (.int .i64 0), .one (.slice none 0 0), .one (.int .i64 0), .one (.bool false), .one (.int .i64 0), .one (.int .i64 0), .one (.int .i64 0), .one (.bool false)], .no, .lit 0, .sym, .among 16, .no, .yes, .no] (J c1 (J (Eq.refl (0 : Int)) (J (by decide : 0 < 4) (J (by decide : ((16 : Int) ≠ 0)) (J o1 (J o2 (J c2 (J c3 (J c4 trivial))))))))) (by kernel_rfl)
      · rw [if_neg (nt c3)]
        have o1 : 0 ≤ (Int.tmod (m.Reg 0) 16) ∧ (Int.tmod (m.Reg 0) 16) < ((16 : Nat) : Int) := by have e := Int.tmod_eq_emod_of_nonneg (b := 16) h0.1; omega
        have o2 : (Int.toNat (Int.tmod (m.Reg 0) 16)) < 16 := by have e := Int.tmod_eq_emod_of_nonneg (b := 16) h0.1; omega
        exact fn_of_x hG hM Tryd.func50 (by kernel_rfl) (by kernel_rfl) 400 [.group [4, 1, 1, 1, 1, 1, 1, 1, 1, 1], .segs [.ints .i64 4 (fun _ => 0), .one (.int .i64 0), .one (.int .i64 0), .one (.slice none 0 0), .one (.int .i64 0), .one (.bool false), .one (.int .i64 0), .one (.int .i64 0), .one (.int .i64 0), .one (.bool false)], .no, .lit 0, .sym, .among 16, .no, .no] (J c1 (J (Eq.refl (0 : Int)) (J (by decide : 0 < 4) (J (by decide : ((16 : Int) ≠ 0)) (J o1 (J o2 (J c2 (J c3 trivial)))))))) (by kernel_rfl)
end Go.Proofs.YtgpcfjokmonlgaaDoor
