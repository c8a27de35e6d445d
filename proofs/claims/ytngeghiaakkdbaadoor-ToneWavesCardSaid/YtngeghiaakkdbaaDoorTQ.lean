/-
  What the reference puts out, and its halves. Written by gen_tone.py. No condition.
-/
import Derived.Test.YtngeghiaakkdbaaDoorTPa
namespace Go.Proofs.YtngeghiaakkdbaaDoor
open Go VX
set_option linter.unusedVariables false
set_option linter.unusedSimpArgs false
set_option maxRecDepth 100000

theorem Good.len {x : RTone} (h : Good x) {n : Int} : Good ({ x with Length := n } : RTone) := ⟨h.reg, h.period, h.step, h.kind⟩
theorem Good.put {x : RTone} (h : Good x) (n : Int) : Good ({ x with Length := n } : RTone) := ⟨h.reg, h.period, h.step, h.kind⟩
theorem step8 {x : RTone} (h : Good x) (c : ((x.Kind : Int) == 2) = false) {B : ByteArray} (hB : B.size = 8) : (0 : Int) ≤ x.Step ∧ (x.Step : Int) < ((ByteArray.size B : Nat) : Int) := by
  have h1 := h.kind
  have h2 := h.step
  have c' : ¬ x.Kind = 2 := by simpa using c
  rw [hB]; omega
theorem Good.sweep {x : RTone} (h : Good x) (n : Int) : Good ({ x with Sweep := n } : RTone) := ⟨h.reg, h.period, h.step, h.kind⟩

/-- kotatsu/kotatsuref11.mute -/
def rMute (x : RTone) : Bool :=
  if (decide ((x.Period : Int) < 8)) = true then
    true
  else
    (decide (((rTarget x) : Int) > 2047))
theorem rMute_p1 (x : RTone) (hg : Good x) (c1 : (decide ((x.Period : Int) < 8)) = true) : FnSpec Tryd.prog 38 1000 [RTone.enc x] [] (.bool true) [] := by
  exact fn_of_x hG hM Tryd.func38 (by kernel_rfl) (by kernel_rfl) 400 [.group [1, 1, 4, 1, 1, 1, 1, 1, 1, 1, 1, 1, 1, 1], .yes, .yes, .yes, .yes] (And.intro c1 (And.intro c1 (And.intro c1 (And.intro c1 trivial)))) (by kernel_rfl)
theorem rMute_p2 (x : RTone) (hg : Good x) (c1 : (decide ((x.Period : Int) < 8)) = false) : FnSpec Tryd.prog 38 1000 [RTone.enc x] [] (.bool (decide (((rTarget x) : Int) > 2047))) [] := by
  exact fn_of_x hG hM Tryd.func38 (by kernel_rfl) (by kernel_rfl) 400 [.group [1, 1, 4, 1, 1, 1, 1, 1, 1, 1, 1, 1, 1, 1], .no, .no, .call [] [] 1000 (.int .i64 (rTarget x)) [], .no, .no] (And.intro c1 (And.intro c1 (And.intro (rTarget_ok x hg) (And.intro c1 (And.intro c1 trivial))))) (by kernel_rfl)
theorem rMute_ok (x : RTone) (hg : Good x) : FnSpec Tryd.prog 38 1000 [RTone.enc x] [] (.bool (rMute x)) [] := by
  rcases bt (decide ((x.Period : Int) < 8)) with c1 | c1
  ·
    have e : rMute x = true := by unfold rMute; rw [if_pos c1]
    rw [e]
    exact rMute_p1 x hg c1
  ·
    have e : rMute x = (decide (((rTarget x) : Int) > 2047)) := by unfold rMute; rw [if_neg (nt c1)]
    rw [e]
    exact rMute_p2 x hg c1

/-- kotatsu/kotatsuref11.Half -/
def rHalf (x : RTone) : RTone :=
  if ((x.Kind : Int) == 2) = true then
    if (!(decide (((x.Reg 0) : Int) ≥ 128))) = true then
      if (decide ((x.Kind : Int) > 1)) = true then
        ({ x with Reg := (upd (upd (upd (upd (fun _ => 0) 0 (x.Reg 0)) 1 (x.Reg 1)) 2 (x.Reg 2)) 3 (x.Reg 3)), Length := (if 0 > (IntKind.i64.wrap (x.Length - 1)) then 0 else (IntKind.i64.wrap (x.Length - 1))) } : RTone)
      else
        if ((x.Sweep : Int) == 0) = true then
          if (decide (((x.Reg 1) : Int) ≥ 128)) = true then
            if (decide (((Int.tmod (x.Reg 1) 8) : Int) > 0)) = true then
              if (!(rMute ({ x with Length := (if 0 > (IntKind.i64.wrap (x.Length - 1)) then 0 else (IntKind.i64.wrap (x.Length - 1))) } : RTone))) = true then
                ({ x with Reg := (upd (upd (upd (upd (fun _ => 0) 0 (x.Reg 0)) 1 (x.Reg 1)) 2 (x.Reg 2)) 3 (x.Reg 3)), Length := (if 0 > (IntKind.i64.wrap (x.Length - 1)) then 0 else (IntKind.i64.wrap (x.Length - 1))), Period := (rTarget ({ x with Length := (if 0 > (IntKind.i64.wrap (x.Length - 1)) then 0 else (IntKind.i64.wrap (x.Length - 1))) } : RTone)), Swept := false, Sweep := (Int.tmod (IntKind.i64.wrap (Int.tdiv (x.Reg 1) 16)) 8) } : RTone)
              else
                ({ x with Reg := (upd (upd (upd (upd (fun _ => 0) 0 (x.Reg 0)) 1 (x.Reg 1)) 2 (x.Reg 2)) 3 (x.Reg 3)), Length := (if 0 > (IntKind.i64.wrap (x.Length - 1)) then 0 else (IntKind.i64.wrap (x.Length - 1))), Swept := false, Sweep := (Int.tmod (IntKind.i64.wrap (Int.tdiv (x.Reg 1) 16)) 8) } : RTone)
            else
              ({ x with Reg := (upd (upd (upd (upd (fun _ => 0) 0 (x.Reg 0)) 1 (x.Reg 1)) 2 (x.Reg 2)) 3 (x.Reg 3)), Length := (if 0 > (IntKind.i64.wrap (x.Length - 1)) then 0 else (IntKind.i64.wrap (x.Length - 1))), Swept := false, Sweep := (Int.tmod (IntKind.i64.wrap (Int.tdiv (x.Reg 1) 16)) 8) } : RTone)
          else
            ({ x with Reg := (upd (upd (upd (upd (fun _ => 0) 0 (x.Reg 0)) 1 (x.Reg 1)) 2 (x.Reg 2)) 3 (x.Reg 3)), Length := (if 0 > (IntKind.i64.wrap (x.Length - 1)) then 0 else (IntKind.i64.wrap (x.Length - 1))), Swept := false, Sweep := (Int.tmod (IntKind.i64.wrap (Int.tdiv (x.Reg 1) 16)) 8) } : RTone)
        else
          if x.Swept = true then
            ({ x with Reg := (upd (upd (upd (upd (fun _ => 0) 0 (x.Reg 0)) 1 (x.Reg 1)) 2 (x.Reg 2)) 3 (x.Reg 3)), Length := (if 0 > (IntKind.i64.wrap (x.Length - 1)) then 0 else (IntKind.i64.wrap (x.Length - 1))), Swept := false, Sweep := (Int.tmod (IntKind.i64.wrap (Int.tdiv (x.Reg 1) 16)) 8) } : RTone)
          else
            ({ x with Reg := (upd (upd (upd (upd (fun _ => 0) 0 (x.Reg 0)) 1 (x.Reg 1)) 2 (x.Reg 2)) 3 (x.Reg 3)), Length := (if 0 > (IntKind.i64.wrap (x.Length - 1)) then 0 else (IntKind.i64.wrap (x.Length - 1))), Swept := false, Sweep := (IntKind.i64.wrap (x.Sweep - 1)) } : RTone)
    else
      if (decide ((x.Kind : Int) > 1)) = true then
        ({ x with Reg := (upd (upd (upd (upd (fun _ => 0) 0 (x.Reg 0)) 1 (x.Reg 1)) 2 (x.Reg 2)) 3 (x.Reg 3)) } : RTone)
      else
        if ((x.Sweep : Int) == 0) = true then
          if (decide (((x.Reg 1) : Int) ≥ 128)) = true then
            if (decide (((Int.tmod (x.Reg 1) 8) : Int) > 0)) = true then
              if (!(rMute x)) = true then
                ({ x with Reg := (upd (upd (upd (upd (fun _ => 0) 0 (x.Reg 0)) 1 (x.Reg 1)) 2 (x.Reg 2)) 3 (x.Reg 3)), Period := (rTarget x), Swept := false, Sweep := (Int.tmod (IntKind.i64.wrap (Int.tdiv (x.Reg 1) 16)) 8) } : RTone)
              else
                ({ x with Reg := (upd (upd (upd (upd (fun _ => 0) 0 (x.Reg 0)) 1 (x.Reg 1)) 2 (x.Reg 2)) 3 (x.Reg 3)), Swept := false, Sweep := (Int.tmod (IntKind.i64.wrap (Int.tdiv (x.Reg 1) 16)) 8) } : RTone)
            else
              ({ x with Reg := (upd (upd (upd (upd (fun _ => 0) 0 (x.Reg 0)) 1 (x.Reg 1)) 2 (x.Reg 2)) 3 (x.Reg 3)), Swept := false, Sweep := (Int.tmod (IntKind.i64.wrap (Int.tdiv (x.Reg 1) 16)) 8) } : RTone)
          else
            ({ x with Reg := (upd (upd (upd (upd (fun _ => 0) 0 (x.Reg 0)) 1 (x.Reg 1)) 2 (x.Reg 2)) 3 (x.Reg 3)), Swept := false, Sweep := (Int.tmod (IntKind.i64.wrap (Int.tdiv (x.Reg 1) 16)) 8) } : RTone)
        else
          if x.Swept = true then
            ({ x with Reg := (upd (upd (upd (upd (fun _ => 0) 0 (x.Reg 0)) 1 (x.Reg 1)) 2 (x.Reg 2)) 3 (x.Reg 3)), Swept := false, Sweep := (Int.tmod (IntKind.i64.wrap (Int.tdiv (x.Reg 1) 16)) 8) } : RTone)
          else
            ({ x with Reg := (upd (upd (upd (upd (fun _ => 0) 0 (x.Reg 0)) 1 (x.Reg 1)) 2 (x.Reg 2)) 3 (x.Reg 3)), Swept := false, Sweep := (IntKind.i64.wrap (x.Sweep - 1)) } : RTone)
  else
    if (!(((Int.tmod (IntKind.i64.wrap (Int.tdiv (x.Reg 0) 32)) 2) : Int) == 1)) = true then
      if (decide ((x.Kind : Int) > 1)) = true then
        ({ x with Reg := (upd (upd (upd (upd (fun _ => 0) 0 (x.Reg 0)) 1 (x.Reg 1)) 2 (x.Reg 2)) 3 (x.Reg 3)), Length := (if 0 > (IntKind.i64.wrap (x.Length - 1)) then 0 else (IntKind.i64.wrap (x.Length - 1))) } : RTone)
      else
        if ((x.Sweep : Int) == 0) = true then
          if (decide (((x.Reg 1) : Int) ≥ 128)) = true then
            if (decide (((Int.tmod (x.Reg 1) 8) : Int) > 0)) = true then
              if (!(rMute ({ x with Length := (if 0 > (IntKind.i64.wrap (x.Length - 1)) then 0 else (IntKind.i64.wrap (x.Length - 1))) } : RTone))) = true then
                ({ x with Reg := (upd (upd (upd (upd (fun _ => 0) 0 (x.Reg 0)) 1 (x.Reg 1)) 2 (x.Reg 2)) 3 (x.Reg 3)), Length := (if 0 > (IntKind.i64.wrap (x.Length - 1)) then 0 else (IntKind.i64.wrap (x.Length - 1))), Period := (rTarget ({ x with Length := (if 0 > (IntKind.i64.wrap (x.Length - 1)) then 0 else (IntKind.i64.wrap (x.Length - 1))) } : RTone)), Swept := false, Sweep := (Int.tmod (IntKind.i64.wrap (Int.tdiv (x.Reg 1) 16)) 8) } : RTone)
              else
                ({ x with Reg := (upd (upd (upd (upd (fun _ => 0) 0 (x.Reg 0)) 1 (x.Reg 1)) 2 (x.Reg 2)) 3 (x.Reg 3)), Length := (if 0 > (IntKind.i64.wrap (x.Length - 1)) then 0 else (IntKind.i64.wrap (x.Length - 1))), Swept := false, Sweep := (Int.tmod (IntKind.i64.wrap (Int.tdiv (x.Reg 1) 16)) 8) } : RTone)
            else
              ({ x with Reg := (upd (upd (upd (upd (fun _ => 0) 0 (x.Reg 0)) 1 (x.Reg 1)) 2 (x.Reg 2)) 3 (x.Reg 3)), Length := (if 0 > (IntKind.i64.wrap (x.Length - 1)) then 0 else (IntKind.i64.wrap (x.Length - 1))), Swept := false, Sweep := (Int.tmod (IntKind.i64.wrap (Int.tdiv (x.Reg 1) 16)) 8) } : RTone)
          else
            ({ x with Reg := (upd (upd (upd (upd (fun _ => 0) 0 (x.Reg 0)) 1 (x.Reg 1)) 2 (x.Reg 2)) 3 (x.Reg 3)), Length := (if 0 > (IntKind.i64.wrap (x.Length - 1)) then 0 else (IntKind.i64.wrap (x.Length - 1))), Swept := false, Sweep := (Int.tmod (IntKind.i64.wrap (Int.tdiv (x.Reg 1) 16)) 8) } : RTone)
        else
          if x.Swept = true then
            ({ x with Reg := (upd (upd (upd (upd (fun _ => 0) 0 (x.Reg 0)) 1 (x.Reg 1)) 2 (x.Reg 2)) 3 (x.Reg 3)), Length := (if 0 > (IntKind.i64.wrap (x.Length - 1)) then 0 else (IntKind.i64.wrap (x.Length - 1))), Swept := false, Sweep := (Int.tmod (IntKind.i64.wrap (Int.tdiv (x.Reg 1) 16)) 8) } : RTone)
          else
            ({ x with Reg := (upd (upd (upd (upd (fun _ => 0) 0 (x.Reg 0)) 1 (x.Reg 1)) 2 (x.Reg 2)) 3 (x.Reg 3)), Length := (if 0 > (IntKind.i64.wrap (x.Length - 1)) then 0 else (IntKind.i64.wrap (x.Length - 1))), Swept := false, Sweep := (IntKind.i64.wrap (x.Sweep - 1)) } : RTone)
    else
      if (decide ((x.Kind : Int) > 1)) = true then
        ({ x with Reg := (upd (upd (upd (upd (fun _ => 0) 0 (x.Reg 0)) 1 (x.Reg 1)) 2 (x.Reg 2)) 3 (x.Reg 3)) } : RTone)
      else
        if ((x.Sweep : Int) == 0) = true then
          if (decide (((x.Reg 1) : Int) ≥ 128)) = true then
            if (decide (((Int.tmod (x.Reg 1) 8) : Int) > 0)) = true then
              if (!(rMute x)) = true then
                ({ x with Reg := (upd (upd (upd (upd (fun _ => 0) 0 (x.Reg 0)) 1 (x.Reg 1)) 2 (x.Reg 2)) 3 (x.Reg 3)), Period := (rTarget x), Swept := false, Sweep := (Int.tmod (IntKind.i64.wrap (Int.tdiv (x.Reg 1) 16)) 8) } : RTone)
              else
                ({ x with Reg := (upd (upd (upd (upd (fun _ => 0) 0 (x.Reg 0)) 1 (x.Reg 1)) 2 (x.Reg 2)) 3 (x.Reg 3)), Swept := false, Sweep := (Int.tmod (IntKind.i64.wrap (Int.tdiv (x.Reg 1) 16)) 8) } : RTone)
            else
              ({ x with Reg := (upd (upd (upd (upd (fun _ => 0) 0 (x.Reg 0)) 1 (x.Reg 1)) 2 (x.Reg 2)) 3 (x.Reg 3)), Swept := false, Sweep := (Int.tmod (IntKind.i64.wrap (Int.tdiv (x.Reg 1) 16)) 8) } : RTone)
          else
            ({ x with Reg := (upd (upd (upd (upd (fun _ => 0) 0 (x.Reg 0)) 1 (x.Reg 1)) 2 (x.Reg 2)) 3 (x.Reg 3)), Swept := false, Sweep := (Int.tmod (IntKind.i64.wrap (Int.tdiv (x.Reg 1) 16)) 8) } : RTone)
        else
          if x.Swept = true then
            ({ x with Reg := (upd (upd (upd (upd (fun _ => 0) 0 (x.Reg 0)) 1 (x.Reg 1)) 2 (x.Reg 2)) 3 (x.Reg 3)), Swept := false, Sweep := (Int.tmod (IntKind.i64.wrap (Int.tdiv (x.Reg 1) 16)) 8) } : RTone)
          else
            ({ x with Reg := (upd (upd (upd (upd (fun _ => 0) 0 (x.Reg 0)) 1 (x.Reg 1)) 2 (x.Reg 2)) 3 (x.Reg 3)), Swept := false, Sweep := (IntKind.i64.wrap (x.Sweep - 1)) } : RTone)
theorem rHalf_p1 (x : RTone) (hg : Good x) (c1 : ((x.Kind : Int) == 2) = true) (c2 : (!(decide (((x.Reg 0) : Int) ≥ 128))) = true) (c3 : (decide ((x.Kind : Int) > 1)) = true) : FnSpec Tryd.prog 37 1000 [RTone.enc x] [] (RTone.enc ({ x with Reg := (upd (upd (upd (upd (fun _ => 0) 0 (x.Reg 0)) 1 (x.Reg 1)) 2 (x.Reg 2)) 3 (x.Reg 3)), Length := (if 0 > (IntKind.i64.wrap (x.Length - 1)) then 0 else (IntKind.i64.wrap (x.Length - 1))) } : RTone)) [] := by
  exact fn_of_x hG hM Tryd.func37 (by kernel_rfl) (by kernel_rfl) 400 [.group [1, 1, 4, 1, 1, 1, 1, 1, 1, 1, 1, 1, 1, 1], .segs [.one (.int .i64 0), .one (.bool false), .ints .i64 4 (fun _ => 0), .one (.int .i64 0), .one (.int .i64 0), .one (.int .i64 0), .one (.int .i64 0), .one (.bool false), .one (.bool false), .one (.int .i64 0), .one (.int .i64 0), .one (.int .i64 0), .one (.int .i64 0), .one (.slice none 0 0)], .lit 0, .yes, .lit 0, .yes, .yes] (And.intro (Eq.refl (0 : Int)) (And.intro (by decide : 0 < 4) (And.intro (by decide : ((32 : Int) ≠ 0)) (And.intro (by decide : ((2 : Int) ≠ 0)) (And.intro c1 (And.intro (Eq.refl (0 : Int)) (And.intro (by decide : 0 < 4) (And.intro c2 (And.intro c3 trivial))))))))) (by kernel_rfl)
theorem rHalf_p2 (x : RTone) (hg : Good x) (c1 : ((x.Kind : Int) == 2) = true) (c2 : (!(decide (((x.Reg 0) : Int) ≥ 128))) = true) (c3 : (decide ((x.Kind : Int) > 1)) = false) (c4 : ((x.Sweep : Int) == 0) = true) (c5 : (decide (((x.Reg 1) : Int) ≥ 128)) = true) (c6 : (decide (((Int.tmod (x.Reg 1) 8) : Int) > 0)) = true) (c7 : (!(rMute ({ x with Length := (if 0 > (IntKind.i64.wrap (x.Length - 1)) then 0 else (IntKind.i64.wrap (x.Length - 1))) } : RTone))) = true) : FnSpec Tryd.prog 37 1000 [RTone.enc x] [] (RTone.enc ({ x with Reg := (upd (upd (upd (upd (fun _ => 0) 0 (x.Reg 0)) 1 (x.Reg 1)) 2 (x.Reg 2)) 3 (x.Reg 3)), Length := (if 0 > (IntKind.i64.wrap (x.Length - 1)) then 0 else (IntKind.i64.wrap (x.Length - 1))), Period := (rTarget ({ x with Length := (if 0 > (IntKind.i64.wrap (x.Length - 1)) then 0 else (IntKind.i64.wrap (x.Length - 1))) } : RTone)), Swept := false, Sweep := (Int.tmod (IntKind.i64.wrap (Int.tdiv (x.Reg 1) 16)) 8) } : RTone)) [] := by
  exact fn_of_x hG hM Tryd.func37 (by kernel_rfl) (by kernel_rfl) 400 [.group [1, 1, 4, 1, 1, 1, 1, 1, 1, 1, 1, 1, 1, 1], .segs [.one (.int .i64 0), .one (.bool false), .ints .i64 4 (fun _ => 0), .one (.int .i64 0), .one (.int .i64 0), .one (.int .i64 0), .one (.int .i64 0), .one (.bool false), .one (.bool false), .one (.int .i64 0), .one (.int .i64 0), .one (.int .i64 0), .one (.int .i64 0), .one (.slice none 0 0)], .lit 0, .yes, .lit 0, .yes, .no, .yes, .yes, .lit 1, .yes, .yes, .yes, .yes, .yes, .lit 1, .yes, .yes, .yes, .yes, .yes, .yes, .call [] [] 1000 (.bool (rMute ({ x with Length := (if 0 > (IntKind.i64.wrap (x.Length - 1)) then 0 else (IntKind.i64.wrap (x.Length - 1))) } : RTone))) [], .yes, .yes, .yes, .call [] [] 1000 (.int .i64 (rTarget ({ x with Length := (if 0 > (IntKind.i64.wrap (x.Length - 1)) then 0 else (IntKind.i64.wrap (x.Length - 1))) } : RTone))) [], .yes, .yes, .yes, .yes, .lit 1] (And.intro (Eq.refl (0 : Int)) (And.intro (by decide : 0 < 4) (And.intro (by decide : ((32 : Int) ≠ 0)) (And.intro (by decide : ((2 : Int) ≠ 0)) (And.intro c1 (And.intro (Eq.refl (0 : Int)) (And.intro (by decide : 0 < 4) (And.intro c2 (And.intro c3 (And.intro c4 (And.intro c4 (And.intro (Eq.refl (1 : Int)) (And.intro (by decide : 1 < 4) (And.intro c4 (And.intro c4 (And.intro c4 (And.intro c5 (And.intro c5 (And.intro (Eq.refl (1 : Int)) (And.intro (by decide : 1 < 4) (And.intro c5 (And.intro c5 (And.intro (by decide : ((8 : Int) ≠ 0)) (And.intro c5 (And.intro c5 (And.intro c6 (And.intro c6 (And.intro (rMute_ok ({ x with Length := (if 0 > (IntKind.i64.wrap (x.Length - 1)) then 0 else (IntKind.i64.wrap (x.Length - 1))) } : RTone) (⟨hg.reg, hg.period, hg.step, hg.kind⟩ : Good ({ x with Length := (if 0 > (IntKind.i64.wrap (x.Length - 1)) then 0 else (IntKind.i64.wrap (x.Length - 1))) } : RTone))) (And.intro c6 (And.intro c6 (And.intro c7 (And.intro (rTarget_ok ({ x with Length := (if 0 > (IntKind.i64.wrap (x.Length - 1)) then 0 else (IntKind.i64.wrap (x.Length - 1))) } : RTone) (⟨hg.reg, hg.period, hg.step, hg.kind⟩ : Good ({ x with Length := (if 0 > (IntKind.i64.wrap (x.Length - 1)) then 0 else (IntKind.i64.wrap (x.Length - 1))) } : RTone))) (And.intro c4 (And.intro c4 (And.intro c4 (And.intro (Eq.refl true) (And.intro (Eq.refl (1 : Int)) (And.intro (by decide : 1 < 4) (And.intro (by decide : ((16 : Int) ≠ 0)) (And.intro (by decide : ((8 : Int) ≠ 0)) trivial)))))))))))))))))))))))))))))))))))))))) (by kernel_rfl)
theorem rHalf_p3 (x : RTone) (hg : Good x) (c1 : ((x.Kind : Int) == 2) = true) (c2 : (!(decide (((x.Reg 0) : Int) ≥ 128))) = true) (c3 : (decide ((x.Kind : Int) > 1)) = false) (c4 : ((x.Sweep : Int) == 0) = true) (c5 : (decide (((x.Reg 1) : Int) ≥ 128)) = true) (c6 : (decide (((Int.tmod (x.Reg 1) 8) : Int) > 0)) = true) (c7 : (!(rMute ({ x with Length := (if 0 > (IntKind.i64.wrap (x.Length - 1)) then 0 else (IntKind.i64.wrap (x.Length - 1))) } : RTone))) = false) : FnSpec Tryd.prog 37 1000 [RTone.enc x] [] (RTone.enc ({ x with Reg := (upd (upd (upd (upd (fun _ => 0) 0 (x.Reg 0)) 1 (x.Reg 1)) 2 (x.Reg 2)) 3 (x.Reg 3)), Length := (if 0 > (IntKind.i64.wrap (x.Length - 1)) then 0 else (IntKind.i64.wrap (x.Length - 1))), Swept := false, Sweep := (Int.tmod (IntKind.i64.wrap (Int.tdiv (x.Reg 1) 16)) 8) } : RTone)) [] := by
  exact fn_of_x hG hM Tryd.func37 (by kernel_rfl) (by kernel_rfl) 400 [.group [1, 1, 4, 1, 1, 1, 1, 1, 1, 1, 1, 1, 1, 1], .segs [.one (.int .i64 0), .one (.bool false), .ints .i64 4 (fun _ => 0), .one (.int .i64 0), .one (.int .i64 0), .one (.int .i64 0), .one (.int .i64 0), .one (.bool false), .one (.bool false), .one (.int .i64 0), .one (.int .i64 0), .one (.int .i64 0), .one (.int .i64 0), .one (.slice none 0 0)], .lit 0, .yes, .lit 0, .yes, .no, .yes, .yes, .lit 1, .yes, .yes, .yes, .yes, .yes, .lit 1, .yes, .yes, .yes, .yes, .yes, .yes, .call [] [] 1000 (.bool (rMute ({ x with Length := (if 0 > (IntKind.i64.wrap (x.Length - 1)) then 0 else (IntKind.i64.wrap (x.Length - 1))) } : RTone))) [], .yes, .yes, .no, .yes, .yes, .yes, .yes, .lit 1] (And.intro (Eq.refl (0 : Int)) (And.intro (by decide : 0 < 4) (And.intro (by decide : ((32 : Int) ≠ 0)) (And.intro (by decide : ((2 : Int) ≠ 0)) (And.intro c1 (And.intro (Eq.refl (0 : Int)) (And.intro (by decide : 0 < 4) (And.intro c2 (And.intro c3 (And.intro c4 (And.intro c4 (And.intro (Eq.refl (1 : Int)) (And.intro (by decide : 1 < 4) (And.intro c4 (And.intro c4 (And.intro c4 (And.intro c5 (And.intro c5 (And.intro (Eq.refl (1 : Int)) (And.intro (by decide : 1 < 4) (And.intro c5 (And.intro c5 (And.intro (by decide : ((8 : Int) ≠ 0)) (And.intro c5 (And.intro c5 (And.intro c6 (And.intro c6 (And.intro (rMute_ok ({ x with Length := (if 0 > (IntKind.i64.wrap (x.Length - 1)) then 0 else (IntKind.i64.wrap (x.Length - 1))) } : RTone) (⟨hg.reg, hg.period, hg.step, hg.kind⟩ : Good ({ x with Length := (if 0 > (IntKind.i64.wrap (x.Length - 1)) then 0 else (IntKind.i64.wrap (x.Length - 1))) } : RTone))) (And.intro c6 (And.intro c6 (And.intro c7 (And.intro c4 (And.intro c4 (And.intro c4 (And.intro (Eq.refl true) (And.intro (Eq.refl (1 : Int)) (And.intro (by decide : 1 < 4) (And.intro (by decide : ((16 : Int) ≠ 0)) (And.intro (by decide : ((8 : Int) ≠ 0)) trivial))))))))))))))))))))))))))))))))))))))) (by kernel_rfl)
theorem rHalf_p4 (x : RTone) (hg : Good x) (c1 : ((x.Kind : Int) == 2) = true) (c2 : (!(decide (((x.Reg 0) : Int) ≥ 128))) = true) (c3 : (decide ((x.Kind : Int) > 1)) = false) (c4 : ((x.Sweep : Int) == 0) = true) (c5 : (decide (((x.Reg 1) : Int) ≥ 128)) = true) (c6 : (decide (((Int.tmod (x.Reg 1) 8) : Int) > 0)) = false) : FnSpec Tryd.prog 37 1000 [RTone.enc x] [] (RTone.enc ({ x with Reg := (upd (upd (upd (upd (fun _ => 0) 0 (x.Reg 0)) 1 (x.Reg 1)) 2 (x.Reg 2)) 3 (x.Reg 3)), Length := (if 0 > (IntKind.i64.wrap (x.Length - 1)) then 0 else (IntKind.i64.wrap (x.Length - 1))), Swept := false, Sweep := (Int.tmod (IntKind.i64.wrap (Int.tdiv (x.Reg 1) 16)) 8) } : RTone)) [] := by
  exact fn_of_x hG hM Tryd.func37 (by kernel_rfl) (by kernel_rfl) 400 [.group [1, 1, 4, 1, 1, 1, 1, 1, 1, 1, 1, 1, 1, 1], .segs [.one (.int .i64 0), .one (.bool false), .ints .i64 4 (fun _ => 0), .one (.int .i64 0), .one (.int .i64 0), .one (.int .i64 0), .one (.int .i64 0), .one (.bool false), .one (.bool false), .one (.int .i64 0), .one (.int .i64 0), .one (.int .i64 0), .one (.int .i64 0), .one (.slice none 0 0)], .lit 0, .yes, .lit 0, .yes, .no, .yes, .yes, .lit 1, .yes, .yes, .yes, .yes, .yes, .lit 1, .yes, .yes, .yes, .yes, .no, .no, .no, .no, .no, .yes, .yes, .yes, .yes, .lit 1] (And.intro (Eq.refl (0 : Int)) (And.intro (by decide : 0 < 4) (And.intro (by decide : ((32 : Int) ≠ 0)) (And.intro (by decide : ((2 : Int) ≠ 0)) (And.intro c1 (And.intro (Eq.refl (0 : Int)) (And.intro (by decide : 0 < 4) (And.intro c2 (And.intro c3 (And.intro c4 (And.intro c4 (And.intro (Eq.refl (1 : Int)) (And.intro (by decide : 1 < 4) (And.intro c4 (And.intro c4 (And.intro c4 (And.intro c5 (And.intro c5 (And.intro (Eq.refl (1 : Int)) (And.intro (by decide : 1 < 4) (And.intro c5 (And.intro c5 (And.intro (by decide : ((8 : Int) ≠ 0)) (And.intro c5 (And.intro c5 (And.intro c6 (And.intro c6 (And.intro c6 (And.intro c6 (And.intro (Eq.refl false) (And.intro c4 (And.intro c4 (And.intro c4 (And.intro (Eq.refl true) (And.intro (Eq.refl (1 : Int)) (And.intro (by decide : 1 < 4) (And.intro (by decide : ((16 : Int) ≠ 0)) (And.intro (by decide : ((8 : Int) ≠ 0)) trivial)))))))))))))))))))))))))))))))))))))) (by kernel_rfl)
theorem rHalf_p5 (x : RTone) (hg : Good x) (c1 : ((x.Kind : Int) == 2) = true) (c2 : (!(decide (((x.Reg 0) : Int) ≥ 128))) = true) (c3 : (decide ((x.Kind : Int) > 1)) = false) (c4 : ((x.Sweep : Int) == 0) = true) (c5 : (decide (((x.Reg 1) : Int) ≥ 128)) = false) : FnSpec Tryd.prog 37 1000 [RTone.enc x] [] (RTone.enc ({ x with Reg := (upd (upd (upd (upd (fun _ => 0) 0 (x.Reg 0)) 1 (x.Reg 1)) 2 (x.Reg 2)) 3 (x.Reg 3)), Length := (if 0 > (IntKind.i64.wrap (x.Length - 1)) then 0 else (IntKind.i64.wrap (x.Length - 1))), Swept := false, Sweep := (Int.tmod (IntKind.i64.wrap (Int.tdiv (x.Reg 1) 16)) 8) } : RTone)) [] := by
  exact fn_of_x hG hM Tryd.func37 (by kernel_rfl) (by kernel_rfl) 400 [.group [1, 1, 4, 1, 1, 1, 1, 1, 1, 1, 1, 1, 1, 1], .segs [.one (.int .i64 0), .one (.bool false), .ints .i64 4 (fun _ => 0), .one (.int .i64 0), .one (.int .i64 0), .one (.int .i64 0), .one (.int .i64 0), .one (.bool false), .one (.bool false), .one (.int .i64 0), .one (.int .i64 0), .one (.int .i64 0), .one (.int .i64 0), .one (.slice none 0 0)], .lit 0, .yes, .lit 0, .yes, .no, .yes, .yes, .lit 1, .yes, .yes, .yes, .no, .no, .no, .no, .no, .no, .no, .no, .no, .no, .no, .yes, .yes, .yes, .yes, .lit 1] (And.intro (Eq.refl (0 : Int)) (And.intro (by decide : 0 < 4) (And.intro (by decide : ((32 : Int) ≠ 0)) (And.intro (by decide : ((2 : Int) ≠ 0)) (And.intro c1 (And.intro (Eq.refl (0 : Int)) (And.intro (by decide : 0 < 4) (And.intro c2 (And.intro c3 (And.intro c4 (And.intro c4 (And.intro (Eq.refl (1 : Int)) (And.intro (by decide : 1 < 4) (And.intro c4 (And.intro c4 (And.intro c4 (And.intro c5 (And.intro c5 (And.intro c5 (And.intro c5 (And.intro c5 (And.intro c5 (And.intro (Eq.refl false) (And.intro (Eq.refl false) (And.intro (Eq.refl false) (And.intro (Eq.refl false) (And.intro (Eq.refl false) (And.intro c4 (And.intro c4 (And.intro c4 (And.intro (Eq.refl true) (And.intro (Eq.refl (1 : Int)) (And.intro (by decide : 1 < 4) (And.intro (by decide : ((16 : Int) ≠ 0)) (And.intro (by decide : ((8 : Int) ≠ 0)) trivial))))))))))))))))))))))))))))))))))) (by kernel_rfl)
theorem rHalf_p6 (x : RTone) (hg : Good x) (c1 : ((x.Kind : Int) == 2) = true) (c2 : (!(decide (((x.Reg 0) : Int) ≥ 128))) = true) (c3 : (decide ((x.Kind : Int) > 1)) = false) (c4 : ((x.Sweep : Int) == 0) = false) (c5 : x.Swept = true) : FnSpec Tryd.prog 37 1000 [RTone.enc x] [] (RTone.enc ({ x with Reg := (upd (upd (upd (upd (fun _ => 0) 0 (x.Reg 0)) 1 (x.Reg 1)) 2 (x.Reg 2)) 3 (x.Reg 3)), Length := (if 0 > (IntKind.i64.wrap (x.Length - 1)) then 0 else (IntKind.i64.wrap (x.Length - 1))), Swept := false, Sweep := (Int.tmod (IntKind.i64.wrap (Int.tdiv (x.Reg 1) 16)) 8) } : RTone)) [] := by
  exact fn_of_x hG hM Tryd.func37 (by kernel_rfl) (by kernel_rfl) 400 [.group [1, 1, 4, 1, 1, 1, 1, 1, 1, 1, 1, 1, 1, 1], .segs [.one (.int .i64 0), .one (.bool false), .ints .i64 4 (fun _ => 0), .one (.int .i64 0), .one (.int .i64 0), .one (.int .i64 0), .one (.int .i64 0), .one (.bool false), .one (.bool false), .one (.int .i64 0), .one (.int .i64 0), .one (.int .i64 0), .one (.int .i64 0), .one (.slice none 0 0)], .lit 0, .yes, .lit 0, .yes, .no, .no, .no, .no, .no, .no, .no, .no, .no, .no, .no, .no, .no, .no, .no, .no, .no, .no, .no, .no, .yes, .lit 1] (And.intro (Eq.refl (0 : Int)) (And.intro (by decide : 0 < 4) (And.intro (by decide : ((32 : Int) ≠ 0)) (And.intro (by decide : ((2 : Int) ≠ 0)) (And.intro c1 (And.intro (Eq.refl (0 : Int)) (And.intro (by decide : 0 < 4) (And.intro c2 (And.intro c3 (And.intro c4 (And.intro c4 (And.intro c4 (And.intro c4 (And.intro c4 (And.intro (Eq.refl false) (And.intro (Eq.refl false) (And.intro (Eq.refl false) (And.intro (Eq.refl false) (And.intro (Eq.refl false) (And.intro (Eq.refl false) (And.intro (Eq.refl false) (And.intro (Eq.refl false) (And.intro (Eq.refl false) (And.intro (Eq.refl false) (And.intro (Eq.refl false) (And.intro c4 (And.intro c4 (And.intro c4 (And.intro c5 (And.intro (Eq.refl (1 : Int)) (And.intro (by decide : 1 < 4) (And.intro (by decide : ((16 : Int) ≠ 0)) (And.intro (by decide : ((8 : Int) ≠ 0)) trivial))))))))))))))))))))))))))))))))) (by kernel_rfl)
theorem rHalf_p7 (x : RTone) (hg : Good x) (c1 : ((x.Kind : Int) == 2) = true) (c2 : (!(decide (((x.Reg 0) : Int) ≥ 128))) = true) (c3 : (decide ((x.Kind : Int) > 1)) = false) (c4 : ((x.Sweep : Int) == 0) = false) (c5 : x.Swept = false) : FnSpec Tryd.prog 37 1000 [RTone.enc x] [] (RTone.enc ({ x with Reg := (upd (upd (upd (upd (fun _ => 0) 0 (x.Reg 0)) 1 (x.Reg 1)) 2 (x.Reg 2)) 3 (x.Reg 3)), Length := (if 0 > (IntKind.i64.wrap (x.Length - 1)) then 0 else (IntKind.i64.wrap (x.Length - 1))), Swept := false, Sweep := (IntKind.i64.wrap (x.Sweep - 1)) } : RTone)) [] := by
  exact fn_of_x hG hM Tryd.func37 (by kernel_rfl) (by kernel_rfl) 400 [.group [1, 1, 4, 1, 1, 1, 1, 1, 1, 1, 1, 1, 1, 1], .segs [.one (.int .i64 0), .one (.bool false), .ints .i64 4 (fun _ => 0), .one (.int .i64 0), .one (.int .i64 0), .one (.int .i64 0), .one (.int .i64 0), .one (.bool false), .one (.bool false), .one (.int .i64 0), .one (.int .i64 0), .one (.int .i64 0), .one (.int .i64 0), .one (.slice none 0 0)], .lit 0, .yes, .lit 0, .yes, .no, .no, .no, .no, .no, .no, .no, .no, .no, .no, .no, .no, .no, .no, .no, .no, .no, .no, .no, .no, .no] (And.intro (Eq.refl (0 : Int)) (And.intro (by decide : 0 < 4) (And.intro (by decide : ((32 : Int) ≠ 0)) (And.intro (by decide : ((2 : Int) ≠ 0)) (And.intro c1 (And.intro (Eq.refl (0 : Int)) (And.intro (by decide : 0 < 4) (And.intro c2 (And.intro c3 (And.intro c4 (And.intro c4 (And.intro c4 (And.intro c4 (And.intro c4 (And.intro (Eq.refl false) (And.intro (Eq.refl false) (And.intro (Eq.refl false) (And.intro (Eq.refl false) (And.intro (Eq.refl false) (And.intro (Eq.refl false) (And.intro (Eq.refl false) (And.intro (Eq.refl false) (And.intro (Eq.refl false) (And.intro (Eq.refl false) (And.intro (Eq.refl false) (And.intro c4 (And.intro c4 (And.intro c4 (And.intro c5 trivial))))))))))))))))))))))))))))) (by kernel_rfl)
theorem rHalf_p8 (x : RTone) (hg : Good x) (c1 : ((x.Kind : Int) == 2) = true) (c2 : (!(decide (((x.Reg 0) : Int) ≥ 128))) = false) (c3 : (decide ((x.Kind : Int) > 1)) = true) : FnSpec Tryd.prog 37 1000 [RTone.enc x] [] (RTone.enc ({ x with Reg := (upd (upd (upd (upd (fun _ => 0) 0 (x.Reg 0)) 1 (x.Reg 1)) 2 (x.Reg 2)) 3 (x.Reg 3)) } : RTone)) [] := by
  exact fn_of_x hG hM Tryd.func37 (by kernel_rfl) (by kernel_rfl) 400 [.group [1, 1, 4, 1, 1, 1, 1, 1, 1, 1, 1, 1, 1, 1], .segs [.one (.int .i64 0), .one (.bool false), .ints .i64 4 (fun _ => 0), .one (.int .i64 0), .one (.int .i64 0), .one (.int .i64 0), .one (.int .i64 0), .one (.bool false), .one (.bool false), .one (.int .i64 0), .one (.int .i64 0), .one (.int .i64 0), .one (.int .i64 0), .one (.slice none 0 0)], .lit 0, .yes, .lit 0, .no, .yes] (And.intro (Eq.refl (0 : Int)) (And.intro (by decide : 0 < 4) (And.intro (by decide : ((32 : Int) ≠ 0)) (And.intro (by decide : ((2 : Int) ≠ 0)) (And.intro c1 (And.intro (Eq.refl (0 : Int)) (And.intro (by decide : 0 < 4) (And.intro c2 (And.intro c3 trivial))))))))) (by kernel_rfl)
theorem rHalf_p9 (x : RTone) (hg : Good x) (c1 : ((x.Kind : Int) == 2) = true) (c2 : (!(decide (((x.Reg 0) : Int) ≥ 128))) = false) (c3 : (decide ((x.Kind : Int) > 1)) = false) (c4 : ((x.Sweep : Int) == 0) = true) (c5 : (decide (((x.Reg 1) : Int) ≥ 128)) = true) (c6 : (decide (((Int.tmod (x.Reg 1) 8) : Int) > 0)) = true) (c7 : (!(rMute x)) = true) : FnSpec Tryd.prog 37 1000 [RTone.enc x] [] (RTone.enc ({ x with Reg := (upd (upd (upd (upd (fun _ => 0) 0 (x.Reg 0)) 1 (x.Reg 1)) 2 (x.Reg 2)) 3 (x.Reg 3)), Period := (rTarget x), Swept := false, Sweep := (Int.tmod (IntKind.i64.wrap (Int.tdiv (x.Reg 1) 16)) 8) } : RTone)) [] := by
  exact fn_of_x hG hM Tryd.func37 (by kernel_rfl) (by kernel_rfl) 400 [.group [1, 1, 4, 1, 1, 1, 1, 1, 1, 1, 1, 1, 1, 1], .segs [.one (.int .i64 0), .one (.bool false), .ints .i64 4 (fun _ => 0), .one (.int .i64 0), .one (.int .i64 0), .one (.int .i64 0), .one (.int .i64 0), .one (.bool false), .one (.bool false), .one (.int .i64 0), .one (.int .i64 0), .one (.int .i64 0), .one (.int .i64 0), .one (.slice none 0 0)], .lit 0, .yes, .lit 0, .no, .no, .yes, .yes, .lit 1, .yes, .yes, .yes, .yes, .yes, .lit 1, .yes, .yes, .yes, .yes, .yes, .yes, .call [] [] 1000 (.bool (rMute x)) [], .yes, .yes, .yes, .call [] [] 1000 (.int .i64 (rTarget x)) [], .yes, .yes, .yes, .yes, .lit 1] (And.intro (Eq.refl (0 : Int)) (And.intro (by decide : 0 < 4) (And.intro (by decide : ((32 : Int) ≠ 0)) (And.intro (by decide : ((2 : Int) ≠ 0)) (And.intro c1 (And.intro (Eq.refl (0 : Int)) (And.intro (by decide : 0 < 4) (And.intro c2 (And.intro c3 (And.intro c4 (And.intro c4 (And.intro (Eq.refl (1 : Int)) (And.intro (by decide : 1 < 4) (And.intro c4 (And.intro c4 (And.intro c4 (And.intro c5 (And.intro c5 (And.intro (Eq.refl (1 : Int)) (And.intro (by decide : 1 < 4) (And.intro c5 (And.intro c5 (And.intro (by decide : ((8 : Int) ≠ 0)) (And.intro c5 (And.intro c5 (And.intro c6 (And.intro c6 (And.intro (rMute_ok x hg) (And.intro c6 (And.intro c6 (And.intro c7 (And.intro (rTarget_ok x hg) (And.intro c4 (And.intro c4 (And.intro c4 (And.intro (Eq.refl true) (And.intro (Eq.refl (1 : Int)) (And.intro (by decide : 1 < 4) (And.intro (by decide : ((16 : Int) ≠ 0)) (And.intro (by decide : ((8 : Int) ≠ 0)) trivial)))))))))))))))))))))))))))))))))))))))) (by kernel_rfl)
theorem rHalf_p10 (x : RTone) (hg : Good x) (c1 : ((x.Kind : Int) == 2) = true) (c2 : (!(decide (((x.Reg 0) : Int) ≥ 128))) = false) (c3 : (decide ((x.Kind : Int) > 1)) = false) (c4 : ((x.Sweep : Int) == 0) = true) (c5 : (decide (((x.Reg 1) : Int) ≥ 128)) = true) (c6 : (decide (((Int.tmod (x.Reg 1) 8) : Int) > 0)) = true) (c7 : (!(rMute x)) = false) : FnSpec Tryd.prog 37 1000 [RTone.enc x] [] (RTone.enc ({ x with Reg := (upd (upd (upd (upd (fun _ => 0) 0 (x.Reg 0)) 1 (x.Reg 1)) 2 (x.Reg 2)) 3 (x.Reg 3)), Swept := false, Sweep := (Int.tmod (IntKind.i64.wrap (Int.tdiv (x.Reg 1) 16)) 8) } : RTone)) [] := by
  exact fn_of_x hG hM Tryd.func37 (by kernel_rfl) (by kernel_rfl) 400 [.group [1, 1, 4, 1, 1, 1, 1, 1, 1, 1, 1, 1, 1, 1], .segs [.one (.int .i64 0), .one (.bool false), .ints .i64 4 (fun _ => 0), .one (.int .i64 0), .one (.int .i64 0), .one (.int .i64 0), .one (.int .i64 0), .one (.bool false), .one (.bool false), .one (.int .i64 0), .one (.int .i64 0), .one (.int .i64 0), .one (.int .i64 0), .one (.slice none 0 0)], .lit 0, .yes, .lit 0, .no, .no, .yes, .yes, .lit 1, .yes, .yes, .yes, .yes, .yes, .lit 1, .yes, .yes, .yes, .yes, .yes, .yes, .call [] [] 1000 (.bool (rMute x)) [], .yes, .yes, .no, .yes, .yes, .yes, .yes, .lit 1] (And.intro (Eq.refl (0 : Int)) (And.intro (by decide : 0 < 4) (And.intro (by decide : ((32 : Int) ≠ 0)) (And.intro (by decide : ((2 : Int) ≠ 0)) (And.intro c1 (And.intro (Eq.refl (0 : Int)) (And.intro (by decide : 0 < 4) (And.intro c2 (And.intro c3 (And.intro c4 (And.intro c4 (And.intro (Eq.refl (1 : Int)) (And.intro (by decide : 1 < 4) (And.intro c4 (And.intro c4 (And.intro c4 (And.intro c5 (And.intro c5 (And.intro (Eq.refl (1 : Int)) (And.intro (by decide : 1 < 4) (And.intro c5 (And.intro c5 (And.intro (by decide : ((8 : Int) ≠ 0)) (And.intro c5 (And.intro c5 (And.intro c6 (And.intro c6 (And.intro (rMute_ok x hg) (And.intro c6 (And.intro c6 (And.intro c7 (And.intro c4 (And.intro c4 (And.intro c4 (And.intro (Eq.refl true) (And.intro (Eq.refl (1 : Int)) (And.intro (by decide : 1 < 4) (And.intro (by decide : ((16 : Int) ≠ 0)) (And.intro (by decide : ((8 : Int) ≠ 0)) trivial))))))))))))))))))))))))))))))))))))))) (by kernel_rfl)
theorem rHalf_p11 (x : RTone) (hg : Good x) (c1 : ((x.Kind : Int) == 2) = true) (c2 : (!(decide (((x.Reg 0) : Int) ≥ 128))) = false) (c3 : (decide ((x.Kind : Int) > 1)) = false) (c4 : ((x.Sweep : Int) == 0) = true) (c5 : (decide (((x.Reg 1) : Int) ≥ 128)) = true) (c6 : (decide (((Int.tmod (x.Reg 1) 8) : Int) > 0)) = false) : FnSpec Tryd.prog 37 1000 [RTone.enc x] [] (RTone.enc ({ x with Reg := (upd (upd (upd (upd (fun _ => 0) 0 (x.Reg 0)) 1 (x.Reg 1)) 2 (x.Reg 2)) 3 (x.Reg 3)), Swept := false, Sweep := (Int.tmod (IntKind.i64.wrap (Int.tdiv (x.Reg 1) 16)) 8) } : RTone)) [] := by
  exact fn_of_x hG hM Tryd.func37 (by kernel_rfl) (by kernel_rfl) 400 [.group [1, 1, 4, 1, 1, 1, 1, 1, 1, 1, 1, 1, 1, 1], .segs [.one (.int .i64 0), .one (.bool false), .ints .i64 4 (fun _ => 0), .one (.int .i64 0), .one (.int .i64 0), .one (.int .i64 0), .one (.int .i64 0), .one (.bool false), .one (.bool false), .one (.int .i64 0), .one (.int .i64 0), .one (.int .i64 0), .one (.int .i64 0), .one (.slice none 0 0)], .lit 0, .yes, .lit 0, .no, .no, .yes, .yes, .lit 1, .yes, .yes, .yes, .yes, .yes, .lit 1, .yes, .yes, .yes, .yes, .no, .no, .no, .no, .no, .yes, .yes, .yes, .yes, .lit 1] (And.intro (Eq.refl (0 : Int)) (And.intro (by decide : 0 < 4) (And.intro (by decide : ((32 : Int) ≠ 0)) (And.intro (by decide : ((2 : Int) ≠ 0)) (And.intro c1 (And.intro (Eq.refl (0 : Int)) (And.intro (by decide : 0 < 4) (And.intro c2 (And.intro c3 (And.intro c4 (And.intro c4 (And.intro (Eq.refl (1 : Int)) (And.intro (by decide : 1 < 4) (And.intro c4 (And.intro c4 (And.intro c4 (And.intro c5 (And.intro c5 (And.intro (Eq.refl (1 : Int)) (And.intro (by decide : 1 < 4) (And.intro c5 (And.intro c5 (And.intro (by decide : ((8 : Int) ≠ 0)) (And.intro c5 (And.intro c5 (And.intro c6 (And.intro c6 (And.intro c6 (And.intro c6 (And.intro (Eq.refl false) (And.intro c4 (And.intro c4 (And.intro c4 (And.intro (Eq.refl true) (And.intro (Eq.refl (1 : Int)) (And.intro (by decide : 1 < 4) (And.intro (by decide : ((16 : Int) ≠ 0)) (And.intro (by decide : ((8 : Int) ≠ 0)) trivial)))))))))))))))))))))))))))))))))))))) (by kernel_rfl)
theorem rHalf_p12 (x : RTone) (hg : Good x) (c1 : ((x.Kind : Int) == 2) = true) (c2 : (!(decide (((x.Reg 0) : Int) ≥ 128))) = false) (c3 : (decide ((x.Kind : Int) > 1)) = false) (c4 : ((x.Sweep : Int) == 0) = true) (c5 : (decide (((x.Reg 1) : Int) ≥ 128)) = false) : FnSpec Tryd.prog 37 1000 [RTone.enc x] [] (RTone.enc ({ x with Reg := (upd (upd (upd (upd (fun _ => 0) 0 (x.Reg 0)) 1 (x.Reg 1)) 2 (x.Reg 2)) 3 (x.Reg 3)), Swept := false, Sweep := (Int.tmod (IntKind.i64.wrap (Int.tdiv (x.Reg 1) 16)) 8) } : RTone)) [] := by
  exact fn_of_x hG hM Tryd.func37 (by kernel_rfl) (by kernel_rfl) 400 [.group [1, 1, 4, 1, 1, 1, 1, 1, 1, 1, 1, 1, 1, 1], .segs [.one (.int .i64 0), .one (.bool false), .ints .i64 4 (fun _ => 0), .one (.int .i64 0), .one (.int .i64 0), .one (.int .i64 0), .one (.int .i64 0), .one (.bool false), .one (.bool false), .one (.int .i64 0), .one (.int .i64 0), .one (.int .i64 0), .one (.int .i64 0), .one (.slice none 0 0)], .lit 0, .yes, .lit 0, .no, .no, .yes, .yes, .lit 1, .yes, .yes, .yes, .no, .no, .no, .no, .no, .no, .no, .no, .no, .no, .no, .yes, .yes, .yes, .yes, .lit 1] (And.intro (Eq.refl (0 : Int)) (And.intro (by decide : 0 < 4) (And.intro (by decide : ((32 : Int) ≠ 0)) (And.intro (by decide : ((2 : Int) ≠ 0)) (And.intro c1 (And.intro (Eq.refl (0 : Int)) (And.intro (by decide : 0 < 4) (And.intro c2 (And.intro c3 (And.intro c4 (And.intro c4 (And.intro (Eq.refl (1 : Int)) (And.intro (by decide : 1 < 4) (And.intro c4 (And.intro c4 (And.intro c4 (And.intro c5 (And.intro c5 (And.intro c5 (And.intro c5 (And.intro c5 (And.intro c5 (And.intro (Eq.refl false) (And.intro (Eq.refl false) (And.intro (Eq.refl false) (And.intro (Eq.refl false) (And.intro (Eq.refl false) (And.intro c4 (And.intro c4 (And.intro c4 (And.intro (Eq.refl true) (And.intro (Eq.refl (1 : Int)) (And.intro (by decide : 1 < 4) (And.intro (by decide : ((16 : Int) ≠ 0)) (And.intro (by decide : ((8 : Int) ≠ 0)) trivial))))))))))))))))))))))))))))))))))) (by kernel_rfl)
theorem rHalf_p13 (x : RTone) (hg : Good x) (c1 : ((x.Kind : Int) == 2) = true) (c2 : (!(decide (((x.Reg 0) : Int) ≥ 128))) = false) (c3 : (decide ((x.Kind : Int) > 1)) = false) (c4 : ((x.Sweep : Int) == 0) = false) (c5 : x.Swept = true) : FnSpec Tryd.prog 37 1000 [RTone.enc x] [] (RTone.enc ({ x with Reg := (upd (upd (upd (upd (fun _ => 0) 0 (x.Reg 0)) 1 (x.Reg 1)) 2 (x.Reg 2)) 3 (x.Reg 3)), Swept := false, Sweep := (Int.tmod (IntKind.i64.wrap (Int.tdiv (x.Reg 1) 16)) 8) } : RTone)) [] := by
  exact fn_of_x hG hM Tryd.func37 (by kernel_rfl) (by kernel_rfl) 400 [.group [1, 1, 4, 1, 1, 1, 1, 1, 1, 1, 1, 1, 1, 1], .segs [.one (.int .i64 0), .one (.bool false), .ints .i64 4 (fun _ => 0), .one (.int .i64 0), .one (.int .i64 0), .one (.int .i64 0), .one (.int .i64 0), .one (.bool false), .one (.bool false), .one (.int .i64 0), .one (.int .i64 0), .one (.int .i64 0), .one (.int .i64 0), .one (.slice none 0 0)], .lit 0, .yes, .lit 0, .no, .no, .no, .no, .no, .no, .no, .no, .no, .no, .no, .no, .no, .no, .no, .no, .no, .no, .no, .no, .no, .yes, .lit 1] (And.intro (Eq.refl (0 : Int)) (And.intro (by decide : 0 < 4) (And.intro (by decide : ((32 : Int) ≠ 0)) (And.intro (by decide : ((2 : Int) ≠ 0)) (And.intro c1 (And.intro (Eq.refl (0 : Int)) (And.intro (by decide : 0 < 4) (And.intro c2 (And.intro c3 (And.intro c4 (And.intro c4 (And.intro c4 (And.intro c4 (And.intro c4 (And.intro (Eq.refl false) (And.intro (Eq.refl false) (And.intro (Eq.refl false) (And.intro (Eq.refl false) (And.intro (Eq.refl false) (And.intro (Eq.refl false) (And.intro (Eq.refl false) (And.intro (Eq.refl false) (And.intro (Eq.refl false) (And.intro (Eq.refl false) (And.intro (Eq.refl false) (And.intro c4 (And.intro c4 (And.intro c4 (And.intro c5 (And.intro (Eq.refl (1 : Int)) (And.intro (by decide : 1 < 4) (And.intro (by decide : ((16 : Int) ≠ 0)) (And.intro (by decide : ((8 : Int) ≠ 0)) trivial))))))))))))))))))))))))))))))))) (by kernel_rfl)
theorem rHalf_p14 (x : RTone) (hg : Good x) (c1 : ((x.Kind : Int) == 2) = true) (c2 : (!(decide (((x.Reg 0) : Int) ≥ 128))) = false) (c3 : (decide ((x.Kind : Int) > 1)) = false) (c4 : ((x.Sweep : Int) == 0) = false) (c5 : x.Swept = false) : FnSpec Tryd.prog 37 1000 [RTone.enc x] [] (RTone.enc ({ x with Reg := (upd (upd (upd (upd (fun _ => 0) 0 (x.Reg 0)) 1 (x.Reg 1)) 2 (x.Reg 2)) 3 (x.Reg 3)), Swept := false, Sweep := (IntKind.i64.wrap (x.Sweep - 1)) } : RTone)) [] := by
  exact fn_of_x hG hM Tryd.func37 (by kernel_rfl) (by kernel_rfl) 400 [.group [1, 1, 4, 1, 1, 1, 1, 1, 1, 1, 1, 1, 1, 1], .segs [.one (.int .i64 0), .one (.bool false), .ints .i64 4 (fun _ => 0), .one (.int .i64 0), .one (.int .i64 0), .one (.int .i64 0), .one (.int .i64 0), .one (.bool false), .one (.bool false), .one (.int .i64 0), .one (.int .i64 0), .one (.int .i64 0), .one (.int .i64 0), .one (.slice none 0 0)], .lit 0, .yes, .lit 0, .no, .no, .no, .no, .no, .no, .no, .no, .no, .no, .no, .no, .no, .no, .no, .no, .no, .no, .no, .no, .no, .no] (And.intro (Eq.refl (0 : Int)) (And.intro (by decide : 0 < 4) (And.intro (by decide : ((32 : Int) ≠ 0)) (And.intro (by decide : ((2 : Int) ≠ 0)) (And.intro c1 (And.intro (Eq.refl (0 : Int)) (And.intro (by decide : 0 < 4) (And.intro c2 (And.intro c3 (And.intro c4 (And.intro c4 (And.intro c4 (And.intro c4 (And.intro c4 (And.intro (Eq.refl false) (And.intro (Eq.refl false) (And.intro (Eq.refl false) (And.intro (Eq.refl false) (And.intro (Eq.refl false) (And.intro (Eq.refl false) (And.intro (Eq.refl false) (And.intro (Eq.refl false) (And.intro (Eq.refl false) (And.intro (Eq.refl false) (And.intro (Eq.refl false) (And.intro c4 (And.intro c4 (And.intro c4 (And.intro c5 trivial))))))))))))))))))))))))))))) (by kernel_rfl)
theorem rHalf_p15 (x : RTone) (hg : Good x) (c1 : ((x.Kind : Int) == 2) = false) (c2 : (!(((Int.tmod (IntKind.i64.wrap (Int.tdiv (x.Reg 0) 32)) 2) : Int) == 1)) = true) (c3 : (decide ((x.Kind : Int) > 1)) = true) : FnSpec Tryd.prog 37 1000 [RTone.enc x] [] (RTone.enc ({ x with Reg := (upd (upd (upd (upd (fun _ => 0) 0 (x.Reg 0)) 1 (x.Reg 1)) 2 (x.Reg 2)) 3 (x.Reg 3)), Length := (if 0 > (IntKind.i64.wrap (x.Length - 1)) then 0 else (IntKind.i64.wrap (x.Length - 1))) } : RTone)) [] := by
  exact fn_of_x hG hM Tryd.func37 (by kernel_rfl) (by kernel_rfl) 400 [.group [1, 1, 4, 1, 1, 1, 1, 1, 1, 1, 1, 1, 1, 1], .segs [.one (.int .i64 0), .one (.bool false), .ints .i64 4 (fun _ => 0), .one (.int .i64 0), .one (.int .i64 0), .one (.int .i64 0), .one (.int .i64 0), .one (.bool false), .one (.bool false), .one (.int .i64 0), .one (.int .i64 0), .one (.int .i64 0), .one (.int .i64 0), .one (.slice none 0 0)], .lit 0, .no, .yes, .yes] (And.intro (Eq.refl (0 : Int)) (And.intro (by decide : 0 < 4) (And.intro (by decide : ((32 : Int) ≠ 0)) (And.intro (by decide : ((2 : Int) ≠ 0)) (And.intro c1 (And.intro c2 (And.intro c3 trivial))))))) (by kernel_rfl)
theorem rHalf_p16 (x : RTone) (hg : Good x) (c1 : ((x.Kind : Int) == 2) = false) (c2 : (!(((Int.tmod (IntKind.i64.wrap (Int.tdiv (x.Reg 0) 32)) 2) : Int) == 1)) = true) (c3 : (decide ((x.Kind : Int) > 1)) = false) (c4 : ((x.Sweep : Int) == 0) = true) (c5 : (decide (((x.Reg 1) : Int) ≥ 128)) = true) (c6 : (decide (((Int.tmod (x.Reg 1) 8) : Int) > 0)) = true) (c7 : (!(rMute ({ x with Length := (if 0 > (IntKind.i64.wrap (x.Length - 1)) then 0 else (IntKind.i64.wrap (x.Length - 1))) } : RTone))) = true) : FnSpec Tryd.prog 37 1000 [RTone.enc x] [] (RTone.enc ({ x with Reg := (upd (upd (upd (upd (fun _ => 0) 0 (x.Reg 0)) 1 (x.Reg 1)) 2 (x.Reg 2)) 3 (x.Reg 3)), Length := (if 0 > (IntKind.i64.wrap (x.Length - 1)) then 0 else (IntKind.i64.wrap (x.Length - 1))), Period := (rTarget ({ x with Length := (if 0 > (IntKind.i64.wrap (x.Length - 1)) then 0 else (IntKind.i64.wrap (x.Length - 1))) } : RTone)), Swept := false, Sweep := (Int.tmod (IntKind.i64.wrap (Int.tdiv (x.Reg 1) 16)) 8) } : RTone)) [] := by
  exact fn_of_x hG hM Tryd.func37 (by kernel_rfl) (by kernel_rfl) 400 [.group [1, 1, 4, 1, 1, 1, 1, 1, 1, 1, 1, 1, 1, 1], .segs [.one (.int .i64 0), .one (.bool false), .ints .i64 4 (fun _ => 0), .one (.int .i64 0), .one (.int .i64 0), .one (.int .i64 0), .one (.int .i64 0), .one (.bool false), .one (.bool false), .one (.int .i64 0), .one (.int .i64 0), .one (.int .i64 0), .one (.int .i64 0), .one (.slice none 0 0)], .lit 0, .no, .yes, .no, .yes, .yes, .lit 1, .yes, .yes, .yes, .yes, .yes, .lit 1, .yes, .yes, .yes, .yes, .yes, .yes, .call [] [] 1000 (.bool (rMute ({ x with Length := (if 0 > (IntKind.i64.wrap (x.Length - 1)) then 0 else (IntKind.i64.wrap (x.Length - 1))) } : RTone))) [], .yes, .yes, .yes, .call [] [] 1000 (.int .i64 (rTarget ({ x with Length := (if 0 > (IntKind.i64.wrap (x.Length - 1)) then 0 else (IntKind.i64.wrap (x.Length - 1))) } : RTone))) [], .yes, .yes, .yes, .yes, .lit 1] (And.intro (Eq.refl (0 : Int)) (And.intro (by decide : 0 < 4) (And.intro (by decide : ((32 : Int) ≠ 0)) (And.intro (by decide : ((2 : Int) ≠ 0)) (And.intro c1 (And.intro c2 (And.intro c3 (And.intro c4 (And.intro c4 (And.intro (Eq.refl (1 : Int)) (And.intro (by decide : 1 < 4) (And.intro c4 (And.intro c4 (And.intro c4 (And.intro c5 (And.intro c5 (And.intro (Eq.refl (1 : Int)) (And.intro (by decide : 1 < 4) (And.intro c5 (And.intro c5 (And.intro (by decide : ((8 : Int) ≠ 0)) (And.intro c5 (And.intro c5 (And.intro c6 (And.intro c6 (And.intro (rMute_ok ({ x with Length := (if 0 > (IntKind.i64.wrap (x.Length - 1)) then 0 else (IntKind.i64.wrap (x.Length - 1))) } : RTone) (⟨hg.reg, hg.period, hg.step, hg.kind⟩ : Good ({ x with Length := (if 0 > (IntKind.i64.wrap (x.Length - 1)) then 0 else (IntKind.i64.wrap (x.Length - 1))) } : RTone))) (And.intro c6 (And.intro c6 (And.intro c7 (And.intro (rTarget_ok ({ x with Length := (if 0 > (IntKind.i64.wrap (x.Length - 1)) then 0 else (IntKind.i64.wrap (x.Length - 1))) } : RTone) (⟨hg.reg, hg.period, hg.step, hg.kind⟩ : Good ({ x with Length := (if 0 > (IntKind.i64.wrap (x.Length - 1)) then 0 else (IntKind.i64.wrap (x.Length - 1))) } : RTone))) (And.intro c4 (And.intro c4 (And.intro c4 (And.intro (Eq.refl true) (And.intro (Eq.refl (1 : Int)) (And.intro (by decide : 1 < 4) (And.intro (by decide : ((16 : Int) ≠ 0)) (And.intro (by decide : ((8 : Int) ≠ 0)) trivial)))))))))))))))))))))))))))))))))))))) (by kernel_rfl)
theorem rHalf_p17 (x : RTone) (hg : Good x) (c1 : ((x.Kind : Int) == 2) = false) (c2 : (!(((Int.tmod (IntKind.i64.wrap (Int.tdiv (x.Reg 0) 32)) 2) : Int) == 1)) = true) (c3 : (decide ((x.Kind : Int) > 1)) = false) (c4 : ((x.Sweep : Int) == 0) = true) (c5 : (decide (((x.Reg 1) : Int) ≥ 128)) = true) (c6 : (decide (((Int.tmod (x.Reg 1) 8) : Int) > 0)) = true) (c7 : (!(rMute ({ x with Length := (if 0 > (IntKind.i64.wrap (x.Length - 1)) then 0 else (IntKind.i64.wrap (x.Length - 1))) } : RTone))) = false) : FnSpec Tryd.prog 37 1000 [RTone.enc x] [] (RTone.enc ({ x with Reg := (upd (upd (upd (upd (fun _ => 0) 0 (x.Reg 0)) 1 (x.Reg 1)) 2 (x.Reg 2)) 3 (x.Reg 3)), Length := (if 0 > (IntKind.i64.wrap (x.Length - 1)) then 0 else (IntKind.i64.wrap (x.Length - 1))), Swept := false, Sweep := (Int.tmod (IntKind.i64.wrap (Int.tdiv (x.Reg 1) 16)) 8) } : RTone)) [] := by
  exact fn_of_x hG hM Tryd.func37 (by kernel_rfl) (by kernel_rfl) 400 [.group [1, 1, 4, 1, 1, 1, 1, 1, 1, 1, 1, 1, 1, 1], .segs [.one (.int .i64 0), .one (.bool false), .ints .i64 4 (fun _ => 0), .one (.int .i64 0), .one (.int .i64 0), .one (.int .i64 0), .one (.int .i64 0), .one (.bool false), .one (.bool false), .one (.int .i64 0), .one (.int .i64 0), .one (.int .i64 0), .one (.int .i64 0), .one (.slice none 0 0)], .lit 0, .no, .yes, .no, .yes, .yes, .lit 1, .yes, .yes, .yes, .yes, .yes, .lit 1, .yes, .yes, .yes, .yes, .yes, .yes, .call [] [] 1000 (.bool (rMute ({ x with Length := (if 0 > (IntKind.i64.wrap (x.Length - 1)) then 0 else (IntKind.i64.wrap (x.Length - 1))) } : RTone))) [], .yes, .yes, .no, .yes, .yes, .yes, .yes, .lit 1] (And.intro (Eq.refl (0 : Int)) (And.intro (by decide : 0 < 4) (And.intro (by decide : ((32 : Int) ≠ 0)) (And.intro (by decide : ((2 : Int) ≠ 0)) (And.intro c1 (And.intro c2 (And.intro c3 (And.intro c4 (And.intro c4 (And.intro (Eq.refl (1 : Int)) (And.intro (by decide : 1 < 4) (And.intro c4 (And.intro c4 (And.intro c4 (And.intro c5 (And.intro c5 (And.intro (Eq.refl (1 : Int)) (And.intro (by decide : 1 < 4) (And.intro c5 (And.intro c5 (And.intro (by decide : ((8 : Int) ≠ 0)) (And.intro c5 (And.intro c5 (And.intro c6 (And.intro c6 (And.intro (rMute_ok ({ x with Length := (if 0 > (IntKind.i64.wrap (x.Length - 1)) then 0 else (IntKind.i64.wrap (x.Length - 1))) } : RTone) (⟨hg.reg, hg.period, hg.step, hg.kind⟩ : Good ({ x with Length := (if 0 > (IntKind.i64.wrap (x.Length - 1)) then 0 else (IntKind.i64.wrap (x.Length - 1))) } : RTone))) (And.intro c6 (And.intro c6 (And.intro c7 (And.intro c4 (And.intro c4 (And.intro c4 (And.intro (Eq.refl true) (And.intro (Eq.refl (1 : Int)) (And.intro (by decide : 1 < 4) (And.intro (by decide : ((16 : Int) ≠ 0)) (And.intro (by decide : ((8 : Int) ≠ 0)) trivial))))))))))))))))))))))))))))))))))))) (by kernel_rfl)
theorem rHalf_p18 (x : RTone) (hg : Good x) (c1 : ((x.Kind : Int) == 2) = false) (c2 : (!(((Int.tmod (IntKind.i64.wrap (Int.tdiv (x.Reg 0) 32)) 2) : Int) == 1)) = true) (c3 : (decide ((x.Kind : Int) > 1)) = false) (c4 : ((x.Sweep : Int) == 0) = true) (c5 : (decide (((x.Reg 1) : Int) ≥ 128)) = true) (c6 : (decide (((Int.tmod (x.Reg 1) 8) : Int) > 0)) = false) : FnSpec Tryd.prog 37 1000 [RTone.enc x] [] (RTone.enc ({ x with Reg := (upd (upd (upd (upd (fun _ => 0) 0 (x.Reg 0)) 1 (x.Reg 1)) 2 (x.Reg 2)) 3 (x.Reg 3)), Length := (if 0 > (IntKind.i64.wrap (x.Length - 1)) then 0 else (IntKind.i64.wrap (x.Length - 1))), Swept := false, Sweep := (Int.tmod (IntKind.i64.wrap (Int.tdiv (x.Reg 1) 16)) 8) } : RTone)) [] := by
  exact fn_of_x hG hM Tryd.func37 (by kernel_rfl) (by kernel_rfl) 400 [.group [1, 1, 4, 1, 1, 1, 1, 1, 1, 1, 1, 1, 1, 1], .segs [.one (.int .i64 0), .one (.bool false), .ints .i64 4 (fun _ => 0), .one (.int .i64 0), .one (.int .i64 0), .one (.int .i64 0), .one (.int .i64 0), .one (.bool false), .one (.bool false), .one (.int .i64 0), .one (.int .i64 0), .one (.int .i64 0), .one (.int .i64 0), .one (.slice none 0 0)], .lit 0, .no, .yes, .no, .yes, .yes, .lit 1, .yes, .yes, .yes, .yes, .yes, .lit 1, .yes, .yes, .yes, .yes, .no, .no, .no, .no, .no, .yes, .yes, .yes, .yes, .lit 1] (And.intro (Eq.refl (0 : Int)) (And.intro (by decide : 0 < 4) (And.intro (by decide : ((32 : Int) ≠ 0)) (And.intro (by decide : ((2 : Int) ≠ 0)) (And.intro c1 (And.intro c2 (And.intro c3 (And.intro c4 (And.intro c4 (And.intro (Eq.refl (1 : Int)) (And.intro (by decide : 1 < 4) (And.intro c4 (And.intro c4 (And.intro c4 (And.intro c5 (And.intro c5 (And.intro (Eq.refl (1 : Int)) (And.intro (by decide : 1 < 4) (And.intro c5 (And.intro c5 (And.intro (by decide : ((8 : Int) ≠ 0)) (And.intro c5 (And.intro c5 (And.intro c6 (And.intro c6 (And.intro c6 (And.intro c6 (And.intro (Eq.refl false) (And.intro c4 (And.intro c4 (And.intro c4 (And.intro (Eq.refl true) (And.intro (Eq.refl (1 : Int)) (And.intro (by decide : 1 < 4) (And.intro (by decide : ((16 : Int) ≠ 0)) (And.intro (by decide : ((8 : Int) ≠ 0)) trivial)))))))))))))))))))))))))))))))))))) (by kernel_rfl)
theorem rHalf_p19 (x : RTone) (hg : Good x) (c1 : ((x.Kind : Int) == 2) = false) (c2 : (!(((Int.tmod (IntKind.i64.wrap (Int.tdiv (x.Reg 0) 32)) 2) : Int) == 1)) = true) (c3 : (decide ((x.Kind : Int) > 1)) = false) (c4 : ((x.Sweep : Int) == 0) = true) (c5 : (decide (((x.Reg 1) : Int) ≥ 128)) = false) : FnSpec Tryd.prog 37 1000 [RTone.enc x] [] (RTone.enc ({ x with Reg := (upd (upd (upd (upd (fun _ => 0) 0 (x.Reg 0)) 1 (x.Reg 1)) 2 (x.Reg 2)) 3 (x.Reg 3)), Length := (if 0 > (IntKind.i64.wrap (x.Length - 1)) then 0 else (IntKind.i64.wrap (x.Length - 1))), Swept := false, Sweep := (Int.tmod (IntKind.i64.wrap (Int.tdiv (x.Reg 1) 16)) 8) } : RTone)) [] := by
  exact fn_of_x hG hM Tryd.func37 (by kernel_rfl) (by kernel_rfl) 400 [.group [1, 1, 4, 1, 1, 1, 1, 1, 1, 1, 1, 1, 1, 1], .segs [.one (.int .i64 0), .one (.bool false), .ints .i64 4 (fun _ => 0), .one (.int .i64 0), .one (.int .i64 0), .one (.int .i64 0), .one (.int .i64 0), .one (.bool false), .one (.bool false), .one (.int .i64 0), .one (.int .i64 0), .one (.int .i64 0), .one (.int .i64 0), .one (.slice none 0 0)], .lit 0, .no, .yes, .no, .yes, .yes, .lit 1, .yes, .yes, .yes, .no, .no, .no, .no, .no, .no, .no, .no, .no, .no, .no, .yes, .yes, .yes, .yes, .lit 1] (And.intro (Eq.refl (0 : Int)) (And.intro (by decide : 0 < 4) (And.intro (by decide : ((32 : Int) ≠ 0)) (And.intro (by decide : ((2 : Int) ≠ 0)) (And.intro c1 (And.intro c2 (And.intro c3 (And.intro c4 (And.intro c4 (And.intro (Eq.refl (1 : Int)) (And.intro (by decide : 1 < 4) (And.intro c4 (And.intro c4 (And.intro c4 (And.intro c5 (And.intro c5 (And.intro c5 (And.intro c5 (And.intro c5 (And.intro c5 (And.intro (Eq.refl false) (And.intro (Eq.refl false) (And.intro (Eq.refl false) (And.intro (Eq.refl false) (And.intro (Eq.refl false) (And.intro c4 (And.intro c4 (And.intro c4 (And.intro (Eq.refl true) (And.intro (Eq.refl (1 : Int)) (And.intro (by decide : 1 < 4) (And.intro (by decide : ((16 : Int) ≠ 0)) (And.intro (by decide : ((8 : Int) ≠ 0)) trivial))))))))))))))))))))))))))))))))) (by kernel_rfl)
theorem rHalf_p20 (x : RTone) (hg : Good x) (c1 : ((x.Kind : Int) == 2) = false) (c2 : (!(((Int.tmod (IntKind.i64.wrap (Int.tdiv (x.Reg 0) 32)) 2) : Int) == 1)) = true) (c3 : (decide ((x.Kind : Int) > 1)) = false) (c4 : ((x.Sweep : Int) == 0) = false) (c5 : x.Swept = true) : FnSpec Tryd.prog 37 1000 [RTone.enc x] [] (RTone.enc ({ x with Reg := (upd (upd (upd (upd (fun _ => 0) 0 (x.Reg 0)) 1 (x.Reg 1)) 2 (x.Reg 2)) 3 (x.Reg 3)), Length := (if 0 > (IntKind.i64.wrap (x.Length - 1)) then 0 else (IntKind.i64.wrap (x.Length - 1))), Swept := false, Sweep := (Int.tmod (IntKind.i64.wrap (Int.tdiv (x.Reg 1) 16)) 8) } : RTone)) [] := by
  exact fn_of_x hG hM Tryd.func37 (by kernel_rfl) (by kernel_rfl) 400 [.group [1, 1, 4, 1, 1, 1, 1, 1, 1, 1, 1, 1, 1, 1], .segs [.one (.int .i64 0), .one (.bool false), .ints .i64 4 (fun _ => 0), .one (.int .i64 0), .one (.int .i64 0), .one (.int .i64 0), .one (.int .i64 0), .one (.bool false), .one (.bool false), .one (.int .i64 0), .one (.int .i64 0), .one (.int .i64 0), .one (.int .i64 0), .one (.slice none 0 0)], .lit 0, .no, .yes, .no, .no, .no, .no, .no, .no, .no, .no, .no, .no, .no, .no, .no, .no, .no, .no, .no, .no, .no, .no, .yes, .lit 1] (And.intro (Eq.refl (0 : Int)) (And.intro (by decide : 0 < 4) (And.intro (by decide : ((32 : Int) ≠ 0)) (And.intro (by decide : ((2 : Int) ≠ 0)) (And.intro c1 (And.intro c2 (And.intro c3 (And.intro c4 (And.intro c4 (And.intro c4 (And.intro c4 (And.intro c4 (And.intro (Eq.refl false) (And.intro (Eq.refl false) (And.intro (Eq.refl false) (And.intro (Eq.refl false) (And.intro (Eq.refl false) (And.intro (Eq.refl false) (And.intro (Eq.refl false) (And.intro (Eq.refl false) (And.intro (Eq.refl false) (And.intro (Eq.refl false) (And.intro (Eq.refl false) (And.intro c4 (And.intro c4 (And.intro c4 (And.intro c5 (And.intro (Eq.refl (1 : Int)) (And.intro (by decide : 1 < 4) (And.intro (by decide : ((16 : Int) ≠ 0)) (And.intro (by decide : ((8 : Int) ≠ 0)) trivial))))))))))))))))))))))))))))))) (by kernel_rfl)
theorem rHalf_p21 (x : RTone) (hg : Good x) (c1 : ((x.Kind : Int) == 2) = false) (c2 : (!(((Int.tmod (IntKind.i64.wrap (Int.tdiv (x.Reg 0) 32)) 2) : Int) == 1)) = true) (c3 : (decide ((x.Kind : Int) > 1)) = false) (c4 : ((x.Sweep : Int) == 0) = false) (c5 : x.Swept = false) : FnSpec Tryd.prog 37 1000 [RTone.enc x] [] (RTone.enc ({ x with Reg := (upd (upd (upd (upd (fun _ => 0) 0 (x.Reg 0)) 1 (x.Reg 1)) 2 (x.Reg 2)) 3 (x.Reg 3)), Length := (if 0 > (IntKind.i64.wrap (x.Length - 1)) then 0 else (IntKind.i64.wrap (x.Length - 1))), Swept := false, Sweep := (IntKind.i64.wrap (x.Sweep - 1)) } : RTone)) [] := by
  exact fn_of_x hG hM Tryd.func37 (by kernel_rfl) (by kernel_rfl) 400 [.group [1, 1, 4, 1, 1, 1, 1, 1, 1, 1, 1, 1, 1, 1], .segs [.one (.int .i64 0), .one (.bool false), .ints .i64 4 (fun _ => 0), .one (.int .i64 0), .one (.int .i64 0), .one (.int .i64 0), .one (.int .i64 0), .one (.bool false), .one (.bool false), .one (.int .i64 0), .one (.int .i64 0), .one (.int .i64 0), .one (.int .i64 0), .one (.slice none 0 0)], .lit 0, .no, .yes, .no, .no, .no, .no, .no, .no, .no, .no, .no, .no, .no, .no, .no, .no, .no, .no, .no, .no, .no, .no, .no] (And.intro (Eq.refl (0 : Int)) (And.intro (by decide : 0 < 4) (And.intro (by decide : ((32 : Int) ≠ 0)) (And.intro (by decide : ((2 : Int) ≠ 0)) (And.intro c1 (And.intro c2 (And.intro c3 (And.intro c4 (And.intro c4 (And.intro c4 (And.intro c4 (And.intro c4 (And.intro (Eq.refl false) (And.intro (Eq.refl false) (And.intro (Eq.refl false) (And.intro (Eq.refl false) (And.intro (Eq.refl false) (And.intro (Eq.refl false) (And.intro (Eq.refl false) (And.intro (Eq.refl false) (And.intro (Eq.refl false) (And.intro (Eq.refl false) (And.intro (Eq.refl false) (And.intro c4 (And.intro c4 (And.intro c4 (And.intro c5 trivial))))))))))))))))))))))))))) (by kernel_rfl)
theorem rHalf_p22 (x : RTone) (hg : Good x) (c1 : ((x.Kind : Int) == 2) = false) (c2 : (!(((Int.tmod (IntKind.i64.wrap (Int.tdiv (x.Reg 0) 32)) 2) : Int) == 1)) = false) (c3 : (decide ((x.Kind : Int) > 1)) = true) : FnSpec Tryd.prog 37 1000 [RTone.enc x] [] (RTone.enc ({ x with Reg := (upd (upd (upd (upd (fun _ => 0) 0 (x.Reg 0)) 1 (x.Reg 1)) 2 (x.Reg 2)) 3 (x.Reg 3)) } : RTone)) [] := by
  exact fn_of_x hG hM Tryd.func37 (by kernel_rfl) (by kernel_rfl) 400 [.group [1, 1, 4, 1, 1, 1, 1, 1, 1, 1, 1, 1, 1, 1], .segs [.one (.int .i64 0), .one (.bool false), .ints .i64 4 (fun _ => 0), .one (.int .i64 0), .one (.int .i64 0), .one (.int .i64 0), .one (.int .i64 0), .one (.bool false), .one (.bool false), .one (.int .i64 0), .one (.int .i64 0), .one (.int .i64 0), .one (.int .i64 0), .one (.slice none 0 0)], .lit 0, .no, .no, .yes] (And.intro (Eq.refl (0 : Int)) (And.intro (by decide : 0 < 4) (And.intro (by decide : ((32 : Int) ≠ 0)) (And.intro (by decide : ((2 : Int) ≠ 0)) (And.intro c1 (And.intro c2 (And.intro c3 trivial))))))) (by kernel_rfl)
theorem rHalf_p23 (x : RTone) (hg : Good x) (c1 : ((x.Kind : Int) == 2) = false) (c2 : (!(((Int.tmod (IntKind.i64.wrap (Int.tdiv (x.Reg 0) 32)) 2) : Int) == 1)) = false) (c3 : (decide ((x.Kind : Int) > 1)) = false) (c4 : ((x.Sweep : Int) == 0) = true) (c5 : (decide (((x.Reg 1) : Int) ≥ 128)) = true) (c6 : (decide (((Int.tmod (x.Reg 1) 8) : Int) > 0)) = true) (c7 : (!(rMute x)) = true) : FnSpec Tryd.prog 37 1000 [RTone.enc x] [] (RTone.enc ({ x with Reg := (upd (upd (upd (upd (fun _ => 0) 0 (x.Reg 0)) 1 (x.Reg 1)) 2 (x.Reg 2)) 3 (x.Reg 3)), Period := (rTarget x), Swept := false, Sweep := (Int.tmod (IntKind.i64.wrap (Int.tdiv (x.Reg 1) 16)) 8) } : RTone)) [] := by
  exact fn_of_x hG hM Tryd.func37 (by kernel_rfl) (by kernel_rfl) 400 [.group [1, 1, 4, 1, 1, 1, 1, 1, 1, 1, 1, 1, 1, 1], .segs [.one (.int .i64 0), .one (.bool false), .ints .i64 4 (fun _ => 0), .one (.int .i64 0), .one (.int .i64 0), .one (.int .i64 0), .one (.int .i64 0), .one (.bool false), .one (.bool false), .one (.int .i64 0), .one (.int .i64 0), .one (.int .i64 0), .one (.int .i64 0), .one (.slice none 0 0)], .lit 0, .no, .no, .no, .yes, .yes, .lit 1, .yes, .yes, .yes, .yes, .yes, .lit 1, .yes, .yes, .yes, .yes, .yes, .yes, .call [] [] 1000 (.bool (rMute x)) [], .yes, .yes, .yes, .call [] [] 1000 (.int .i64 (rTarget x)) [], .yes, .yes, .yes, .yes, .lit 1] (And.intro (Eq.refl (0 : Int)) (And.intro (by decide : 0 < 4) (And.intro (by decide : ((32 : Int) ≠ 0)) (And.intro (by decide : ((2 : Int) ≠ 0)) (And.intro c1 (And.intro c2 (And.intro c3 (And.intro c4 (And.intro c4 (And.intro (Eq.refl (1 : Int)) (And.intro (by decide : 1 < 4) (And.intro c4 (And.intro c4 (And.intro c4 (And.intro c5 (And.intro c5 (And.intro (Eq.refl (1 : Int)) (And.intro (by decide : 1 < 4) (And.intro c5 (And.intro c5 (And.intro (by decide : ((8 : Int) ≠ 0)) (And.intro c5 (And.intro c5 (And.intro c6 (And.intro c6 (And.intro (rMute_ok x hg) (And.intro c6 (And.intro c6 (And.intro c7 (And.intro (rTarget_ok x hg) (And.intro c4 (And.intro c4 (And.intro c4 (And.intro (Eq.refl true) (And.intro (Eq.refl (1 : Int)) (And.intro (by decide : 1 < 4) (And.intro (by decide : ((16 : Int) ≠ 0)) (And.intro (by decide : ((8 : Int) ≠ 0)) trivial)))))))))))))))))))))))))))))))))))))) (by kernel_rfl)
theorem rHalf_p24 (x : RTone) (hg : Good x) (c1 : ((x.Kind : Int) == 2) = false) (c2 : (!(((Int.tmod (IntKind.i64.wrap (Int.tdiv (x.Reg 0) 32)) 2) : Int) == 1)) = false) (c3 : (decide ((x.Kind : Int) > 1)) = false) (c4 : ((x.Sweep : Int) == 0) = true) (c5 : (decide (((x.Reg 1) : Int) ≥ 128)) = true) (c6 : (decide (((Int.tmod (x.Reg 1) 8) : Int) > 0)) = true) (c7 : (!(rMute x)) = false) : FnSpec Tryd.prog 37 1000 [RTone.enc x] [] (RTone.enc ({ x with Reg := (upd (upd (upd (upd (fun _ => 0) 0 (x.Reg 0)) 1 (x.Reg 1)) 2 (x.Reg 2)) 3 (x.Reg 3)), Swept := false, Sweep := (Int.tmod (IntKind.i64.wrap (Int.tdiv (x.Reg 1) 16)) 8) } : RTone)) [] := by
  exact fn_of_x hG hM Tryd.func37 (by kernel_rfl) (by kernel_rfl) 400 [.group [1, 1, 4, 1, 1, 1, 1, 1, 1, 1, 1, 1, 1, 1], .segs [.one (.int .i64 0), .one (.bool false), .ints .i64 4 (fun _ => 0), .one (.int .i64 0), .one (.int .i64 0), .one (.int .i64 0), .one (.int .i64 0), .one (.bool false), .one (.bool false), .one (.int .i64 0), .one (.int .i64 0), .one (.int .i64 0), .one (.int .i64 0), .one (.slice none 0 0)], .lit 0, .no, .no, .no, .yes, .yes, .lit 1, .yes, .yes, .yes, .yes, .yes, .lit 1, .yes, .yes, .yes, .yes, .yes, .yes, .call [] [] 1000 (.bool (rMute x)) [], .yes, .yes, .no, .yes, .yes, .yes, .yes, .lit 1] (And.intro (Eq.refl (0 : Int)) (And.intro (by decide : 0 < 4) (And.intro (by decide : ((32 : Int) ≠ 0)) (And.intro (by decide : ((2 : Int) ≠ 0)) (And.intro c1 (And.intro c2 (And.intro c3 (And.intro c4 (And.intro c4 (And.intro (Eq.refl (1 : Int)) (And.intro (by decide : 1 < 4) (And.intro c4 (And.intro c4 (And.intro c4 (And.intro c5 (And.intro c5 (And.intro (Eq.refl (1 : Int)) (And.intro (by decide : 1 < 4) (And.intro c5 (And.intro c5 (And.intro (by decide : ((8 : Int) ≠ 0)) (And.intro c5 (And.intro c5 (And.intro c6 (And.intro c6 (And.intro (rMute_ok x hg) (And.intro c6 (And.intro c6 (And.intro c7 (And.intro c4 (And.intro c4 (And.intro c4 (And.intro (Eq.refl true) (And.intro (Eq.refl (1 : Int)) (And.intro (by decide : 1 < 4) (And.intro (by decide : ((16 : Int) ≠ 0)) (And.intro (by decide : ((8 : Int) ≠ 0)) trivial))))))))))))))))))))))))))))))))))))) (by kernel_rfl)
theorem rHalf_p25 (x : RTone) (hg : Good x) (c1 : ((x.Kind : Int) == 2) = false) (c2 : (!(((Int.tmod (IntKind.i64.wrap (Int.tdiv (x.Reg 0) 32)) 2) : Int) == 1)) = false) (c3 : (decide ((x.Kind : Int) > 1)) = false) (c4 : ((x.Sweep : Int) == 0) = true) (c5 : (decide (((x.Reg 1) : Int) ≥ 128)) = true) (c6 : (decide (((Int.tmod (x.Reg 1) 8) : Int) > 0)) = false) : FnSpec Tryd.prog 37 1000 [RTone.enc x] [] (RTone.enc ({ x with Reg := (upd (upd (upd (upd (fun _ => 0) 0 (x.Reg 0)) 1 (x.Reg 1)) 2 (x.Reg 2)) 3 (x.Reg 3)), Swept := false, Sweep := (Int.tmod (IntKind.i64.wrap (Int.tdiv (x.Reg 1) 16)) 8) } : RTone)) [] := by
  exact fn_of_x hG hM Tryd.func37 (by kernel_rfl) (by kernel_rfl) 400 [.group [1, 1, 4, 1, 1, 1, 1, 1, 1, 1, 1, 1, 1, 1], .segs [.one (.int .i64 0), .one (.bool false), .ints .i64 4 (fun _ => 0), .one (.int .i64 0), .one (.int .i64 0), .one (.int .i64 0), .one (.int .i64 0), .one (.bool false), .one (.bool false), .one (.int .i64 0), .one (.int .i64 0), .one (.int .i64 0), .one (.int .i64 0), .one (.slice none 0 0)], .lit 0, .no, .no, .no, .yes, .yes, .lit 1, .yes, .yes, .yes, .yes, .yes, .lit 1, .yes, .yes, .yes, .yes, .no, .no, .no, .no, .no, .yes, .yes, .yes, .yes, .lit 1] (And.intro (Eq.refl (0 : Int)) (And.intro (by decide : 0 < 4) (And.intro (by decide : ((32 : Int) ≠ 0)) (And.intro (by decide : ((2 : Int) ≠ 0)) (And.intro c1 (And.intro c2 (And.intro c3 (And.intro c4 (And.intro c4 (And.intro (Eq.refl (1 : Int)) (And.intro (by decide : 1 < 4) (And.intro c4 (And.intro c4 (And.intro c4 (And.intro c5 (And.intro c5 (And.intro (Eq.refl (1 : Int)) (And.intro (by decide : 1 < 4) (And.intro c5 (And.intro c5 (And.intro (by decide : ((8 : Int) ≠ 0)) (And.intro c5 (And.intro c5 (And.intro c6 (And.intro c6 (And.intro c6 (And.intro c6 (And.intro (Eq.refl false) (And.intro c4 (And.intro c4 (And.intro c4 (And.intro (Eq.refl true) (And.intro (Eq.refl (1 : Int)) (And.intro (by decide : 1 < 4) (And.intro (by decide : ((16 : Int) ≠ 0)) (And.intro (by decide : ((8 : Int) ≠ 0)) trivial)))))))))))))))))))))))))))))))))))) (by kernel_rfl)
theorem rHalf_p26 (x : RTone) (hg : Good x) (c1 : ((x.Kind : Int) == 2) = false) (c2 : (!(((Int.tmod (IntKind.i64.wrap (Int.tdiv (x.Reg 0) 32)) 2) : Int) == 1)) = false) (c3 : (decide ((x.Kind : Int) > 1)) = false) (c4 : ((x.Sweep : Int) == 0) = true) (c5 : (decide (((x.Reg 1) : Int) ≥ 128)) = false) : FnSpec Tryd.prog 37 1000 [RTone.enc x] [] (RTone.enc ({ x with Reg := (upd (upd (upd (upd (fun _ => 0) 0 (x.Reg 0)) 1 (x.Reg 1)) 2 (x.Reg 2)) 3 (x.Reg 3)), Swept := false, Sweep := (Int.tmod (IntKind.i64.wrap (Int.tdiv (x.Reg 1) 16)) 8) } : RTone)) [] := by
  exact fn_of_x hG hM Tryd.func37 (by kernel_rfl) (by kernel_rfl) 400 [.group [1, 1, 4, 1, 1, 1, 1, 1, 1, 1, 1, 1, 1, 1], .segs [.one (.int .i64 0), .one (.bool false), .ints .i64 4 (fun _ => 0), .one (.int .i64 0), .one (.int .i64 0), .one (.int .i64 0), .one (.int .i64 0), .one (.bool false), .one (.bool false), .one (.int .i64 0), .one (.int .i64 0), .one (.int .i64 0), .one (.int .i64 0), .one (.slice none 0 0)], .lit 0, .no, .no, .no, .yes, .yes, .lit 1, .yes, .yes, .yes, .no, .no, .no, .no, .no, .no, .no, .no, .no, .no, .no, .yes, .yes, .yes, .yes, .lit 1] (And.intro (Eq.refl (0 : Int)) (And.intro (by decide : 0 < 4) (And.intro (by decide : ((32 : Int) ≠ 0)) (And.intro (by decide : ((2 : Int) ≠ 0)) (And.intro c1 (And.intro c2 (And.intro c3 (And.intro c4 (And.intro c4 (And.intro (Eq.refl (1 : Int)) (And.intro (by decide : 1 < 4) (And.intro c4 (And.intro c4 (And.intro c4 (And.intro c5 (And.intro c5 (And.intro c5 (And.intro c5 (And.intro c5 (And.intro c5 (And.intro (Eq.refl false) (And.intro (Eq.refl false) (And.intro (Eq.refl false) (And.intro (Eq.refl false) (And.intro (Eq.refl false) (And.intro c4 (And.intro c4 (And.intro c4 (And.intro (Eq.refl true) (And.intro (Eq.refl (1 : Int)) (And.intro (by decide : 1 < 4) (And.intro (by decide : ((16 : Int) ≠ 0)) (And.intro (by decide : ((8 : Int) ≠ 0)) trivial))))))))))))))))))))))))))))))))) (by kernel_rfl)
theorem rHalf_p27 (x : RTone) (hg : Good x) (c1 : ((x.Kind : Int) == 2) = false) (c2 : (!(((Int.tmod (IntKind.i64.wrap (Int.tdiv (x.Reg 0) 32)) 2) : Int) == 1)) = false) (c3 : (decide ((x.Kind : Int) > 1)) = false) (c4 : ((x.Sweep : Int) == 0) = false) (c5 : x.Swept = true) : FnSpec Tryd.prog 37 1000 [RTone.enc x] [] (RTone.enc ({ x with Reg := (upd (upd (upd (upd (fun _ => 0) 0 (x.Reg 0)) 1 (x.Reg 1)) 2 (x.Reg 2)) 3 (x.Reg 3)), Swept := false, Sweep := (Int.tmod (IntKind.i64.wrap (Int.tdiv (x.Reg 1) 16)) 8) } : RTone)) [] := by
  exact fn_of_x hG hM Tryd.func37 (by kernel_rfl) (by kernel_rfl) 400 [.group [1, 1, 4, 1, 1, 1, 1, 1, 1, 1, 1, 1, 1, 1], .segs [.one (.int .i64 0), .one (.bool false), .ints .i64 4 (fun _ => 0), .one (.int .i64 0), .one (.int .i64 0), .one (.int .i64 0), .one (.int .i64 0), .one (.bool false), .one (.bool false), .one (.int .i64 0), .one (.int .i64 0), .one (.int .i64 0), .one (.int .i64 0), .one (.slice none 0 0)], .lit 0, .no, .no, .no, .no, .no, .no, .no, .no, .no, .no, .no, .no, .no, .no, .no, .no, .no, .no, .no, .no, .no, .no, .yes, .lit 1] (And.intro (Eq.refl (0 : Int)) (And.intro (by decide : 0 < 4) (And.intro (by decide : ((32 : Int) ≠ 0)) (And.intro (by decide : ((2 : Int) ≠ 0)) (And.intro c1 (And.intro c2 (And.intro c3 (And.intro c4 (And.intro c4 (And.intro c4 (And.intro c4 (And.intro c4 (And.intro (Eq.refl false) (And.intro (Eq.refl false) (And.intro (Eq.refl false) (And.intro (Eq.refl false) (And.intro (Eq.refl false) (And.intro (Eq.refl false) (And.intro (Eq.refl false) (And.intro (Eq.refl false) (And.intro (Eq.refl false) (And.intro (Eq.refl false) (And.intro (Eq.refl false) (And.intro c4 (And.intro c4 (And.intro c4 (And.intro c5 (And.intro (Eq.refl (1 : Int)) (And.intro (by decide : 1 < 4) (And.intro (by decide : ((16 : Int) ≠ 0)) (And.intro (by decide : ((8 : Int) ≠ 0)) trivial))))))))))))))))))))))))))))))) (by kernel_rfl)
theorem rHalf_p28 (x : RTone) (hg : Good x) (c1 : ((x.Kind : Int) == 2) = false) (c2 : (!(((Int.tmod (IntKind.i64.wrap (Int.tdiv (x.Reg 0) 32)) 2) : Int) == 1)) = false) (c3 : (decide ((x.Kind : Int) > 1)) = false) (c4 : ((x.Sweep : Int) == 0) = false) (c5 : x.Swept = false) : FnSpec Tryd.prog 37 1000 [RTone.enc x] [] (RTone.enc ({ x with Reg := (upd (upd (upd (upd (fun _ => 0) 0 (x.Reg 0)) 1 (x.Reg 1)) 2 (x.Reg 2)) 3 (x.Reg 3)), Swept := false, Sweep := (IntKind.i64.wrap (x.Sweep - 1)) } : RTone)) [] := by
  exact fn_of_x hG hM Tryd.func37 (by kernel_rfl) (by kernel_rfl) 400 [.group [1, 1, 4, 1, 1, 1, 1, 1, 1, 1, 1, 1, 1, 1], .segs [.one (.int .i64 0), .one (.bool false), .ints .i64 4 (fun _ => 0), .one (.int .i64 0), .one (.int .i64 0), .one (.int .i64 0), .one (.int .i64 0), .one (.bool false), .one (.bool false), .one (.int .i64 0), .one (.int .i64 0), .one (.int .i64 0), .one (.int .i64 0), .one (.slice none 0 0)], .lit 0, .no, .no, .no, .no, .no, .no, .no, .no, .no, .no, .no, .no, .no, .no, .no, .no, .no, .no, .no, .no, .no, .no, .no] (And.intro (Eq.refl (0 : Int)) (And.intro (by decide : 0 < 4) (And.intro (by decide : ((32 : Int) ≠ 0)) (And.intro (by decide : ((2 : Int) ≠ 0)) (And.intro c1 (And.intro c2 (And.intro c3 (And.intro c4 (And.intro c4 (And.intro c4 (And.intro c4 (And.intro c4 (And.intro (Eq.refl false) (And.intro (Eq.refl false) (And.intro (Eq.refl false) (And.intro (Eq.refl false) (And.intro (Eq.refl false) (And.intro (Eq.refl false) (And.intro (Eq.refl false) (And.intro (Eq.refl false) (And.intro (Eq.refl false) (And.intro (Eq.refl false) (And.intro (Eq.refl false) (And.intro c4 (And.intro c4 (And.intro c4 (And.intro c5 trivial))))))))))))))))))))))))))) (by kernel_rfl)
theorem rHalf_ok (x : RTone) (hg : Good x) : FnSpec Tryd.prog 37 1000 [RTone.enc x] [] (RTone.enc (rHalf x)) [] := by
  rcases bt ((x.Kind : Int) == 2) with c1 | c1
  ·
    rcases bt (!(decide (((x.Reg 0) : Int) ≥ 128))) with c2 | c2
    ·
      rcases bt (decide ((x.Kind : Int) > 1)) with c3 | c3
      ·
        have e : rHalf x = ({ x with Reg := (upd (upd (upd (upd (fun _ => 0) 0 (x.Reg 0)) 1 (x.Reg 1)) 2 (x.Reg 2)) 3 (x.Reg 3)), Length := (if 0 > (IntKind.i64.wrap (x.Length - 1)) then 0 else (IntKind.i64.wrap (x.Length - 1))) } : RTone) := by unfold rHalf; rw [if_pos c1, if_pos c2, if_pos c3]
        rw [e]
        exact rHalf_p1 x hg c1 c2 c3
      ·
        rcases bt ((x.Sweep : Int) == 0) with c4 | c4
        ·
          rcases bt (decide (((x.Reg 1) : Int) ≥ 128)) with c5 | c5
          ·
            rcases bt (decide (((Int.tmod (x.Reg 1) 8) : Int) > 0)) with c6 | c6
            ·
              rcases bt (!(rMute ({ x with Length := (if 0 > (IntKind.i64.wrap (x.Length - 1)) then 0 else (IntKind.i64.wrap (x.Length - 1))) } : RTone))) with c7 | c7
              ·
                have e : rHalf x = ({ x with Reg := (upd (upd (upd (upd (fun _ => 0) 0 (x.Reg 0)) 1 (x.Reg 1)) 2 (x.Reg 2)) 3 (x.Reg 3)), Length := (if 0 > (IntKind.i64.wrap (x.Length - 1)) then 0 else (IntKind.i64.wrap (x.Length - 1))), Period := (rTarget ({ x with Length := (if 0 > (IntKind.i64.wrap (x.Length - 1)) then 0 else (IntKind.i64.wrap (x.Length - 1))) } : RTone)), Swept := false, Sweep := (Int.tmod (IntKind.i64.wrap (Int.tdiv (x.Reg 1) 16)) 8) } : RTone) := by unfold rHalf; rw [if_pos c1, if_pos c2, if_neg (nt c3), if_pos c4, if_pos c5, if_pos c6, if_pos c7]
                rw [e]
                exact rHalf_p2 x hg c1 c2 c3 c4 c5 c6 c7
              ·
                have e : rHalf x = ({ x with Reg := (upd (upd (upd (upd (fun _ => 0) 0 (x.Reg 0)) 1 (x.Reg 1)) 2 (x.Reg 2)) 3 (x.Reg 3)), Length := (if 0 > (IntKind.i64.wrap (x.Length - 1)) then 0 else (IntKind.i64.wrap (x.Length - 1))), Swept := false, Sweep := (Int.tmod (IntKind.i64.wrap (Int.tdiv (x.Reg 1) 16)) 8) } : RTone) := by unfold rHalf; rw [if_pos c1, if_pos c2, if_neg (nt c3), if_pos c4, if_pos c5, if_pos c6, if_neg (nt c7)]
                rw [e]
                exact rHalf_p3 x hg c1 c2 c3 c4 c5 c6 c7
            ·
              have e : rHalf x = ({ x with Reg := (upd (upd (upd (upd (fun _ => 0) 0 (x.Reg 0)) 1 (x.Reg 1)) 2 (x.Reg 2)) 3 (x.Reg 3)), Length := (if 0 > (IntKind.i64.wrap (x.Length - 1)) then 0 else (IntKind.i64.wrap (x.Length - 1))), Swept := false, Sweep := (Int.tmod (IntKind.i64.wrap (Int.tdiv (x.Reg 1) 16)) 8) } : RTone) := by unfold rHalf; rw [if_pos c1, if_pos c2, if_neg (nt c3), if_pos c4, if_pos c5, if_neg (nt c6)]
              rw [e]
              exact rHalf_p4 x hg c1 c2 c3 c4 c5 c6
          ·
            have e : rHalf x = ({ x with Reg := (upd (upd (upd (upd (fun _ => 0) 0 (x.Reg 0)) 1 (x.Reg 1)) 2 (x.Reg 2)) 3 (x.Reg 3)), Length := (if 0 > (IntKind.i64.wrap (x.Length - 1)) then 0 else (IntKind.i64.wrap (x.Length - 1))), Swept := false, Sweep := (Int.tmod (IntKind.i64.wrap (Int.tdiv (x.Reg 1) 16)) 8) } : RTone) := by unfold rHalf; rw [if_pos c1, if_pos c2, if_neg (nt c3), if_pos c4, if_neg (nt c5)]
            rw [e]
            exact rHalf_p5 x hg c1 c2 c3 c4 c5
        ·
          rcases bt x.Swept with c5 | c5
          ·
            have e : rHalf x = ({ x with Reg := (upd (upd (upd (upd (fun _ => 0) 0 (x.Reg 0)) 1 (x.Reg 1)) 2 (x.Reg 2)) 3 (x.Reg 3)), Length := (if 0 > (IntKind.i64.wrap (x.Length - 1)) then 0 else (IntKind.i64.wrap (x.Length - 1))), Swept := false, Sweep := (Int.tmod (IntKind.i64.wrap (Int.tdiv (x.Reg 1) 16)) 8) } : RTone) := by unfold rHalf; rw [if_pos c1, if_pos c2, if_neg (nt c3), if_neg (nt c4), if_pos c5]
            rw [e]
            exact rHalf_p6 x hg c1 c2 c3 c4 c5
          ·
            have e : rHalf x = ({ x with Reg := (upd (upd (upd (upd (fun _ => 0) 0 (x.Reg 0)) 1 (x.Reg 1)) 2 (x.Reg 2)) 3 (x.Reg 3)), Length := (if 0 > (IntKind.i64.wrap (x.Length - 1)) then 0 else (IntKind.i64.wrap (x.Length - 1))), Swept := false, Sweep := (IntKind.i64.wrap (x.Sweep - 1)) } : RTone) := by unfold rHalf; rw [if_pos c1, if_pos c2, if_neg (nt c3), if_neg (nt c4), if_neg (nt c5)]
            rw [e]
            exact rHalf_p7 x hg c1 c2 c3 c4 c5
    ·
      rcases bt (decide ((x.Kind : Int) > 1)) with c3 | c3
      ·
        have e : rHalf x = ({ x with Reg := (upd (upd (upd (upd (fun _ => 0) 0 (x.Reg 0)) 1 (x.Reg 1)) 2 (x.Reg 2)) 3 (x.Reg 3)) } : RTone) := by unfold rHalf; rw [if_pos c1, if_neg (nt c2), if_pos c3]
        rw [e]
        exact rHalf_p8 x hg c1 c2 c3
      ·
        rcases bt ((x.Sweep : Int) == 0) with c4 | c4
        ·
          rcases bt (decide (((x.Reg 1) : Int) ≥ 128)) with c5 | c5
          ·
            rcases bt (decide (((Int.tmod (x.Reg 1) 8) : Int) > 0)) with c6 | c6
            ·
              rcases bt (!(rMute x)) with c7 | c7
              ·
                have e : rHalf x = ({ x with Reg := (upd (upd (upd (upd (fun _ => 0) 0 (x.Reg 0)) 1 (x.Reg 1)) 2 (x.Reg 2)) 3 (x.Reg 3)), Period := (rTarget x), Swept := false, Sweep := (Int.tmod (IntKind.i64.wrap (Int.tdiv (x.Reg 1) 16)) 8) } : RTone) := by unfold rHalf; rw [if_pos c1, if_neg (nt c2), if_neg (nt c3), if_pos c4, if_pos c5, if_pos c6, if_pos c7]
                rw [e]
                exact rHalf_p9 x hg c1 c2 c3 c4 c5 c6 c7
              ·
                have e : rHalf x = ({ x with Reg := (upd (upd (upd (upd (fun _ => 0) 0 (x.Reg 0)) 1 (x.Reg 1)) 2 (x.Reg 2)) 3 (x.Reg 3)), Swept := false, Sweep := (Int.tmod (IntKind.i64.wrap (Int.tdiv (x.Reg 1) 16)) 8) } : RTone) := by unfold rHalf; rw [if_pos c1, if_neg (nt c2), if_neg (nt c3), if_pos c4, if_pos c5, if_pos c6, if_neg (nt c7)]
                rw [e]
                exact rHalf_p10 x hg c1 c2 c3 c4 c5 c6 c7
            ·
              have e : rHalf x = ({ x with Reg := (upd (upd (upd (upd (fun _ => 0) 0 (x.Reg 0)) 1 (x.Reg 1)) 2 (x.Reg 2)) 3 (x.Reg 3)), Swept := false, Sweep := (Int.tmod (IntKind.i64.wrap (Int.tdiv (x.Reg 1) 16)) 8) } : RTone) := by unfold rHalf; rw [if_pos c1, if_neg (nt c2), if_neg (nt c3), if_pos c4, if_pos c5, if_neg (nt c6)]
              rw [e]
              exact rHalf_p11 x hg c1 c2 c3 c4 c5 c6
          ·
            have e : rHalf x = ({ x with Reg := (upd (upd (upd (upd (fun _ => 0) 0 (x.Reg 0)) 1 (x.Reg 1)) 2 (x.Reg 2)) 3 (x.Reg 3)), Swept := false, Sweep := (Int.tmod (IntKind.i64.wrap (Int.tdiv (x.Reg 1) 16)) 8) } : RTone) := by unfold rHalf; rw [if_pos c1, if_neg (nt c2), if_neg (nt c3), if_pos c4, if_neg (nt c5)]
            rw [e]
            exact rHalf_p12 x hg c1 c2 c3 c4 c5
        ·
          rcases bt x.Swept with c5 | c5
          ·
            have e : rHalf x = ({ x with Reg := (upd (upd (upd (upd (fun _ => 0) 0 (x.Reg 0)) 1 (x.Reg 1)) 2 (x.Reg 2)) 3 (x.Reg 3)), Swept := false, Sweep := (Int.tmod (IntKind.i64.wrap (Int.tdiv (x.Reg 1) 16)) 8) } : RTone) := by unfold rHalf; rw [if_pos c1, if_neg (nt c2), if_neg (nt c3), if_neg (nt c4), if_pos c5]
            rw [e]
            exact rHalf_p13 x hg c1 c2 c3 c4 c5
          ·
            have e : rHalf x = ({ x with Reg := (upd (upd (upd (upd (fun _ => 0) 0 (x.Reg 0)) 1 (x.Reg 1)) 2 (x.Reg 2)) 3 (x.Reg 3)), Swept := false, Sweep := (IntKind.i64.wrap (x.Sweep - 1)) } : RTone) := by unfold rHalf; rw [if_pos c1, if_neg (nt c2), if_neg (nt c3), if_neg (nt c4), if_neg (nt c5)]
            rw [e]
            exact rHalf_p14 x hg c1 c2 c3 c4 c5
  ·
    rcases bt (!(((Int.tmod (IntKind.i64.wrap (Int.tdiv (x.Reg 0) 32)) 2) : Int) == 1)) with c2 | c2
    ·
      rcases bt (decide ((x.Kind : Int) > 1)) with c3 | c3
      ·
        have e : rHalf x = ({ x with Reg := (upd (upd (upd (upd (fun _ => 0) 0 (x.Reg 0)) 1 (x.Reg 1)) 2 (x.Reg 2)) 3 (x.Reg 3)), Length := (if 0 > (IntKind.i64.wrap (x.Length - 1)) then 0 else (IntKind.i64.wrap (x.Length - 1))) } : RTone) := by unfold rHalf; rw [if_neg (nt c1), if_pos c2, if_pos c3]
        rw [e]
        exact rHalf_p15 x hg c1 c2 c3
      ·
        rcases bt ((x.Sweep : Int) == 0) with c4 | c4
        ·
          rcases bt (decide (((x.Reg 1) : Int) ≥ 128)) with c5 | c5
          ·
            rcases bt (decide (((Int.tmod (x.Reg 1) 8) : Int) > 0)) with c6 | c6
            ·
              rcases bt (!(rMute ({ x with Length := (if 0 > (IntKind.i64.wrap (x.Length - 1)) then 0 else (IntKind.i64.wrap (x.Length - 1))) } : RTone))) with c7 | c7
              ·
                have e : rHalf x = ({ x with Reg := (upd (upd (upd (upd (fun _ => 0) 0 (x.Reg 0)) 1 (x.Reg 1)) 2 (x.Reg 2)) 3 (x.Reg 3)), Length := (if 0 > (IntKind.i64.wrap (x.Length - 1)) then 0 else (IntKind.i64.wrap (x.Length - 1))), Period := (rTarget ({ x with Length := (if 0 > (IntKind.i64.wrap (x.Length - 1)) then 0 else (IntKind.i64.wrap (x.Length - 1))) } : RTone)), Swept := false, Sweep := (Int.tmod (IntKind.i64.wrap (Int.tdiv (x.Reg 1) 16)) 8) } : RTone) := by unfold rHalf; rw [if_neg (nt c1), if_pos c2, if_neg (nt c3), if_pos c4, if_pos c5, if_pos c6, if_pos c7]
                rw [e]
                exact rHalf_p16 x hg c1 c2 c3 c4 c5 c6 c7
              ·
                have e : rHalf x = ({ x with Reg := (upd (upd (upd (upd (fun _ => 0) 0 (x.Reg 0)) 1 (x.Reg 1)) 2 (x.Reg 2)) 3 (x.Reg 3)), Length := (if 0 > (IntKind.i64.wrap (x.Length - 1)) then 0 else (IntKind.i64.wrap (x.Length - 1))), Swept := false, Sweep := (Int.tmod (IntKind.i64.wrap (Int.tdiv (x.Reg 1) 16)) 8) } : RTone) := by unfold rHalf; rw [if_neg (nt c1), if_pos c2, if_neg (nt c3), if_pos c4, if_pos c5, if_pos c6, if_neg (nt c7)]
                rw [e]
                exact rHalf_p17 x hg c1 c2 c3 c4 c5 c6 c7
            ·
              have e : rHalf x = ({ x with Reg := (upd (upd (upd (upd (fun _ => 0) 0 (x.Reg 0)) 1 (x.Reg 1)) 2 (x.Reg 2)) 3 (x.Reg 3)), Length := (if 0 > (IntKind.i64.wrap (x.Length - 1)) then 0 else (IntKind.i64.wrap (x.Length - 1))), Swept := false, Sweep := (Int.tmod (IntKind.i64.wrap (Int.tdiv (x.Reg 1) 16)) 8) } : RTone) := by unfold rHalf; rw [if_neg (nt c1), if_pos c2, if_neg (nt c3), if_pos c4, if_pos c5, if_neg (nt c6)]
              rw [e]
              exact rHalf_p18 x hg c1 c2 c3 c4 c5 c6
          ·
            have e : rHalf x = ({ x with Reg := (upd (upd (upd (upd (fun _ => 0) 0 (x.Reg 0)) 1 (x.Reg 1)) 2 (x.Reg 2)) 3 (x.Reg 3)), Length := (if 0 > (IntKind.i64.wrap (x.Length - 1)) then 0 else (IntKind.i64.wrap (x.Length - 1))), Swept := false, Sweep := (Int.tmod (IntKind.i64.wrap (Int.tdiv (x.Reg 1) 16)) 8) } : RTone) := by unfold rHalf; rw [if_neg (nt c1), if_pos c2, if_neg (nt c3), if_pos c4, if_neg (nt c5)]
            rw [e]
            exact rHalf_p19 x hg c1 c2 c3 c4 c5
        ·
          rcases bt x.Swept with c5 | c5
          ·
            have e : rHalf x = ({ x with Reg := (upd (upd (upd (upd (fun _ => 0) 0 (x.Reg 0)) 1 (x.Reg 1)) 2 (x.Reg 2)) 3 (x.Reg 3)), Length := (if 0 > (IntKind.i64.wrap (x.Length - 1)) then 0 else (IntKind.i64.wrap (x.Length - 1))), Swept := false, Sweep := (Int.tmod (IntKind.i64.wrap (Int.tdiv (x.Reg 1) 16)) 8) } : RTone) := by unfold rHalf; rw [if_neg (nt c1), if_pos c2, if_neg (nt c3), if_neg (nt c4), if_pos c5]
            rw [e]
            exact rHalf_p20 x hg c1 c2 c3 c4 c5
          ·
            have e : rHalf x = ({ x with Reg := (upd (upd (upd (upd (fun _ => 0) 0 (x.Reg 0)) 1 (x.Reg 1)) 2 (x.Reg 2)) 3 (x.Reg 3)), Length := (if 0 > (IntKind.i64.wrap (x.Length - 1)) then 0 else (IntKind.i64.wrap (x.Length - 1))), Swept := false, Sweep := (IntKind.i64.wrap (x.Sweep - 1)) } : RTone) := by unfold rHalf; rw [if_neg (nt c1), if_pos c2, if_neg (nt c3), if_neg (nt c4), if_neg (nt c5)]
            rw [e]
            exact rHalf_p21 x hg c1 c2 c3 c4 c5
    ·
      rcases bt (decide ((x.Kind : Int) > 1)) with c3 | c3
      ·
        have e : rHalf x = ({ x with Reg := (upd (upd (upd (upd (fun _ => 0) 0 (x.Reg 0)) 1 (x.Reg 1)) 2 (x.Reg 2)) 3 (x.Reg 3)) } : RTone) := by unfold rHalf; rw [if_neg (nt c1), if_neg (nt c2), if_pos c3]
        rw [e]
        exact rHalf_p22 x hg c1 c2 c3
      ·
        rcases bt ((x.Sweep : Int) == 0) with c4 | c4
        ·
          rcases bt (decide (((x.Reg 1) : Int) ≥ 128)) with c5 | c5
          ·
            rcases bt (decide (((Int.tmod (x.Reg 1) 8) : Int) > 0)) with c6 | c6
            ·
              rcases bt (!(rMute x)) with c7 | c7
              ·
                have e : rHalf x = ({ x with Reg := (upd (upd (upd (upd (fun _ => 0) 0 (x.Reg 0)) 1 (x.Reg 1)) 2 (x.Reg 2)) 3 (x.Reg 3)), Period := (rTarget x), Swept := false, Sweep := (Int.tmod (IntKind.i64.wrap (Int.tdiv (x.Reg 1) 16)) 8) } : RTone) := by unfold rHalf; rw [if_neg (nt c1), if_neg (nt c2), if_neg (nt c3), if_pos c4, if_pos c5, if_pos c6, if_pos c7]
                rw [e]
                exact rHalf_p23 x hg c1 c2 c3 c4 c5 c6 c7
              ·
                have e : rHalf x = ({ x with Reg := (upd (upd (upd (upd (fun _ => 0) 0 (x.Reg 0)) 1 (x.Reg 1)) 2 (x.Reg 2)) 3 (x.Reg 3)), Swept := false, Sweep := (Int.tmod (IntKind.i64.wrap (Int.tdiv (x.Reg 1) 16)) 8) } : RTone) := by unfold rHalf; rw [if_neg (nt c1), if_neg (nt c2), if_neg (nt c3), if_pos c4, if_pos c5, if_pos c6, if_neg (nt c7)]
                rw [e]
                exact rHalf_p24 x hg c1 c2 c3 c4 c5 c6 c7
            ·
              have e : rHalf x = ({ x with Reg := (upd (upd (upd (upd (fun _ => 0) 0 (x.Reg 0)) 1 (x.Reg 1)) 2 (x.Reg 2)) 3 (x.Reg 3)), Swept := false, Sweep := (Int.tmod (IntKind.i64.wrap (Int.tdiv (x.Reg 1) 16)) 8) } : RTone) := by unfold rHalf; rw [if_neg (nt c1), if_neg (nt c2), if_neg (nt c3), if_pos c4, if_pos c5, if_neg (nt c6)]
              rw [e]
              exact rHalf_p25 x hg c1 c2 c3 c4 c5 c6
          ·
            have e : rHalf x = ({ x with Reg := (upd (upd (upd (upd (fun _ => 0) 0 (x.Reg 0)) 1 (x.Reg 1)) 2 (x.Reg 2)) 3 (x.Reg 3)), Swept := false, Sweep := (Int.tmod (IntKind.i64.wrap (Int.tdiv (x.Reg 1) 16)) 8) } : RTone) := by unfold rHalf; rw [if_neg (nt c1), if_neg (nt c2), if_neg (nt c3), if_pos c4, if_neg (nt c5)]
            rw [e]
            exact rHalf_p26 x hg c1 c2 c3 c4 c5
        ·
          rcases bt x.Swept with c5 | c5
          ·
            have e : rHalf x = ({ x with Reg := (upd (upd (upd (upd (fun _ => 0) 0 (x.Reg 0)) 1 (x.Reg 1)) 2 (x.Reg 2)) 3 (x.Reg 3)), Swept := false, Sweep := (Int.tmod (IntKind.i64.wrap (Int.tdiv (x.Reg 1) 16)) 8) } : RTone) := by unfold rHalf; rw [if_neg (nt c1), if_neg (nt c2), if_neg (nt c3), if_neg (nt c4), if_pos c5]
            rw [e]
            exact rHalf_p27 x hg c1 c2 c3 c4 c5
          ·
            have e : rHalf x = ({ x with Reg := (upd (upd (upd (upd (fun _ => 0) 0 (x.Reg 0)) 1 (x.Reg 1)) 2 (x.Reg 2)) 3 (x.Reg 3)), Swept := false, Sweep := (IntKind.i64.wrap (x.Sweep - 1)) } : RTone) := by unfold rHalf; rw [if_neg (nt c1), if_neg (nt c2), if_neg (nt c3), if_neg (nt c4), if_neg (nt c5)]
            rw [e]
            exact rHalf_p28 x hg c1 c2 c3 c4 c5

/-- kotatsu/kotatsuref11.Out -/
def rOut_0 (x : RTone) : Int :=
  if ((x.Kind : Int) == 2) = true then
    if (decide ((x.Step : Int) < 16)) = true then
      (IntKind.i64.wrap (15 - x.Step))
    else
      (IntKind.i64.wrap (x.Step - 16))
  else
    if ((x.Kind : Int) == 3) = true then
      if (decide ((x.Length : Int) > 0)) = true then
        if (!(((x.Row 0) : Int) == 0)) = true then
          0
        else
          if (((Int.tmod (IntKind.i64.wrap (Int.tdiv (x.Reg 0) 16)) 2) : Int) == 1) = true then
            (Int.tmod (x.Reg 0) 16)
          else
            x.Level
      else
        0
    else
      if (decide ((x.Length : Int) > 0)) = true then
        if (!(rMute x)) = true then
          if (!(((strAt ⟨#[48, 49, 48, 48, 48, 48, 48, 48]⟩ (Int.toNat x.Step)) : Int) == 49)) = true then
            0
          else
            if (((Int.tmod (IntKind.i64.wrap (Int.tdiv (x.Reg 0) 16)) 2) : Int) == 1) = true then
              (Int.tmod (x.Reg 0) 16)
            else
              x.Level
        else
          0
      else
        0
theorem rOut_0_p1 (x : RTone) (hg : Good x) (hd : (IntKind.i64.wrap (Int.tdiv (x.Reg 0) 64)) = 0) (c1 : ((x.Kind : Int) == 2) = true) (c2 : (decide ((x.Step : Int) < 16)) = true) : FnSpec Tryd.prog 36 1000 [RTone.enc x] [] (.int .i64 (IntKind.i64.wrap (15 - x.Step))) [] := by
  exact fn_of_x hG hM Tryd.func36 (by kernel_rfl) (by kernel_rfl) 400 [.group [1, 1, 4, 1, 1, 1, 1, 1, 1, 1, 1, 1, 1, 1], .yes, .yes] (And.intro c1 (And.intro c2 trivial)) (by kernel_rfl)
theorem rOut_0_p2 (x : RTone) (hg : Good x) (hd : (IntKind.i64.wrap (Int.tdiv (x.Reg 0) 64)) = 0) (c1 : ((x.Kind : Int) == 2) = true) (c2 : (decide ((x.Step : Int) < 16)) = false) : FnSpec Tryd.prog 36 1000 [RTone.enc x] [] (.int .i64 (IntKind.i64.wrap (x.Step - 16))) [] := by
  exact fn_of_x hG hM Tryd.func36 (by kernel_rfl) (by kernel_rfl) 400 [.group [1, 1, 4, 1, 1, 1, 1, 1, 1, 1, 1, 1, 1, 1], .yes, .no] (And.intro c1 (And.intro c2 trivial)) (by kernel_rfl)
theorem rOut_0_p3 (x : RTone) (hg : Good x) (hd : (IntKind.i64.wrap (Int.tdiv (x.Reg 0) 64)) = 0) (c1 : ((x.Kind : Int) == 2) = false) (c2 : ((x.Kind : Int) == 3) = true) (c3 : (decide ((x.Length : Int) > 0)) = true) (c4 : (!(((x.Row 0) : Int) == 0)) = true) : FnSpec Tryd.prog 36 1000 [RTone.enc x] [] (.int .i64 0) [] := by
  exact fn_of_x hG hM Tryd.func36 (by kernel_rfl) (by kernel_rfl) 400 [.group [1, 1, 4, 1, 1, 1, 1, 1, 1, 1, 1, 1, 1, 1], .no, .yes, .yes, .yes, .yes, .lit 0, .yes, .yes, .yes, .yes] (And.intro c1 (And.intro c2 (And.intro c3 (And.intro c3 (And.intro c3 (And.intro (Eq.refl true) (And.intro (Eq.refl (0 : Int)) (And.intro c3 (And.intro c3 (And.intro c3 (And.intro c4 trivial))))))))))) (by kernel_rfl)
theorem rOut_0_p4 (x : RTone) (hg : Good x) (hd : (IntKind.i64.wrap (Int.tdiv (x.Reg 0) 64)) = 0) (c1 : ((x.Kind : Int) == 2) = false) (c2 : ((x.Kind : Int) == 3) = true) (c3 : (decide ((x.Length : Int) > 0)) = true) (c4 : (!(((x.Row 0) : Int) == 0)) = false) (c5 : (((Int.tmod (IntKind.i64.wrap (Int.tdiv (x.Reg 0) 16)) 2) : Int) == 1) = true) : FnSpec Tryd.prog 36 1000 [RTone.enc x] [] (.int .i64 (Int.tmod (x.Reg 0) 16)) [] := by
  exact fn_of_x hG hM Tryd.func36 (by kernel_rfl) (by kernel_rfl) 400 [.group [1, 1, 4, 1, 1, 1, 1, 1, 1, 1, 1, 1, 1, 1], .no, .yes, .yes, .yes, .yes, .lit 0, .yes, .yes, .yes, .no, .lit 0, .yes, .lit 0] (And.intro c1 (And.intro c2 (And.intro c3 (And.intro c3 (And.intro c3 (And.intro (Eq.refl true) (And.intro (Eq.refl (0 : Int)) (And.intro c3 (And.intro c3 (And.intro c3 (And.intro c4 (And.intro (Eq.refl (0 : Int)) (And.intro (by decide : 0 < 4) (And.intro (by decide : ((16 : Int) ≠ 0)) (And.intro (by decide : ((2 : Int) ≠ 0)) (And.intro c5 (And.intro (Eq.refl (0 : Int)) (And.intro (by decide : 0 < 4) (And.intro (by decide : ((16 : Int) ≠ 0)) trivial))))))))))))))))))) (by kernel_rfl)
theorem rOut_0_p5 (x : RTone) (hg : Good x) (hd : (IntKind.i64.wrap (Int.tdiv (x.Reg 0) 64)) = 0) (c1 : ((x.Kind : Int) == 2) = false) (c2 : ((x.Kind : Int) == 3) = true) (c3 : (decide ((x.Length : Int) > 0)) = true) (c4 : (!(((x.Row 0) : Int) == 0)) = false) (c5 : (((Int.tmod (IntKind.i64.wrap (Int.tdiv (x.Reg 0) 16)) 2) : Int) == 1) = false) : FnSpec Tryd.prog 36 1000 [RTone.enc x] [] (.int .i64 x.Level) [] := by
  exact fn_of_x hG hM Tryd.func36 (by kernel_rfl) (by kernel_rfl) 400 [.group [1, 1, 4, 1, 1, 1, 1, 1, 1, 1, 1, 1, 1, 1], .no, .yes, .yes, .yes, .yes, .lit 0, .yes, .yes, .yes, .no, .lit 0, .no] (And.intro c1 (And.intro c2 (And.intro c3 (And.intro c3 (And.intro c3 (And.intro (Eq.refl true) (And.intro (Eq.refl (0 : Int)) (And.intro c3 (And.intro c3 (And.intro c3 (And.intro c4 (And.intro (Eq.refl (0 : Int)) (And.intro (by decide : 0 < 4) (And.intro (by decide : ((16 : Int) ≠ 0)) (And.intro (by decide : ((2 : Int) ≠ 0)) (And.intro c5 trivial)))))))))))))))) (by kernel_rfl)
theorem rOut_0_p6 (x : RTone) (hg : Good x) (hd : (IntKind.i64.wrap (Int.tdiv (x.Reg 0) 64)) = 0) (c1 : ((x.Kind : Int) == 2) = false) (c2 : ((x.Kind : Int) == 3) = true) (c3 : (decide ((x.Length : Int) > 0)) = false) : FnSpec Tryd.prog 36 1000 [RTone.enc x] [] (.int .i64 0) [] := by
  exact fn_of_x hG hM Tryd.func36 (by kernel_rfl) (by kernel_rfl) 400 [.group [1, 1, 4, 1, 1, 1, 1, 1, 1, 1, 1, 1, 1, 1], .no, .yes, .no, .no, .no, .no, .no, .no, .yes] (And.intro c1 (And.intro c2 (And.intro c3 (And.intro c3 (And.intro c3 (And.intro c3 (And.intro c3 (And.intro c3 (And.intro (Eq.refl true) trivial))))))))) (by kernel_rfl)
theorem rOut_0_p7 (x : RTone) (hg : Good x) (hd : (IntKind.i64.wrap (Int.tdiv (x.Reg 0) 64)) = 0) (c1 : ((x.Kind : Int) == 2) = false) (c2 : ((x.Kind : Int) == 3) = false) (c3 : (decide ((x.Length : Int) > 0)) = true) (c4 : (!(rMute x)) = true) (c5 : (!(((strAt ⟨#[48, 49, 48, 48, 48, 48, 48, 48]⟩ (Int.toNat x.Step)) : Int) == 49)) = true) : FnSpec Tryd.prog 36 1000 [RTone.enc x] [] (.int .i64 0) [] := by
  have o1 : (0 : Int) ≤ x.Step ∧ (x.Step : Int) < ((ByteArray.size ⟨#[48, 49, 48, 48, 48, 48, 48, 48]⟩ : Nat) : Int) := by first | decide | exact step8 hg (by assumption) rfl | omega | exact hg | exact ⟨hg.reg, hg.period, hg.step, hg.kind⟩ | exact Good.put hg _ | exact Good.len hg | exact Good.sweep hg _ | (have h0 := hg.reg 0; have h1 := hg.reg 1; have h2 := hg.reg 2; have h4 := hg.step; have t1 := Int.tdiv_eq_ediv_of_nonneg (b := 8) h1.1; have t2 := Int.tmod_eq_emod_of_nonneg (b := 16) h2.1; have t3 := Int.tdiv_eq_ediv_of_nonneg (b := 64) h0.1; simp only [decide_eq_true_eq, decide_eq_false_iff_not, t1, t2, t3, IntKind.wrap_i64] at *; omega)
  exact fn_of_x hG hM Tryd.func36 (by kernel_rfl) (by kernel_rfl) 400 [.group [1, 1, 4, 1, 1, 1, 1, 1, 1, 1, 1, 1, 1, 1], .no, .no, .lit 0, .eq 35 (.int .i64 0), .lit 0, .yes, .yes, .call [] [] 1000 (.bool (rMute x)) [], .yes, .yes, .yes, .yes, .yes, .yes, .yes, .yes, .yes] (And.intro c1 (And.intro c2 (And.intro (Eq.refl (0 : Int)) (And.intro (by decide : 0 < 4) (And.intro (congrArg (Value.int .i64) hd : Value.int .i64 (IntKind.i64.wrap (Int.tdiv (x.Reg 0) 64)) = Value.int .i64 0) (And.intro (by decide : ((64 : Int) ≠ 0)) (And.intro (Eq.refl (0 : Int)) (And.intro (by decide : 0 < 4) (And.intro c3 (And.intro c3 (And.intro (rMute_ok x hg) (And.intro c3 (And.intro c3 (And.intro c4 (And.intro c4 (And.intro c4 (And.intro c4 (And.intro o1 (And.intro c4 (And.intro c4 (And.intro c5 trivial))))))))))))))))))))) (by kernel_rfl)
theorem rOut_0_p8 (x : RTone) (hg : Good x) (hd : (IntKind.i64.wrap (Int.tdiv (x.Reg 0) 64)) = 0) (c1 : ((x.Kind : Int) == 2) = false) (c2 : ((x.Kind : Int) == 3) = false) (c3 : (decide ((x.Length : Int) > 0)) = true) (c4 : (!(rMute x)) = true) (c5 : (!(((strAt ⟨#[48, 49, 48, 48, 48, 48, 48, 48]⟩ (Int.toNat x.Step)) : Int) == 49)) = false) (c6 : (((Int.tmod (IntKind.i64.wrap (Int.tdiv (x.Reg 0) 16)) 2) : Int) == 1) = true) : FnSpec Tryd.prog 36 1000 [RTone.enc x] [] (.int .i64 (Int.tmod (x.Reg 0) 16)) [] := by
  have o1 : (0 : Int) ≤ x.Step ∧ (x.Step : Int) < ((ByteArray.size ⟨#[48, 49, 48, 48, 48, 48, 48, 48]⟩ : Nat) : Int) := by first | decide | exact step8 hg (by assumption) rfl | omega | exact hg | exact ⟨hg.reg, hg.period, hg.step, hg.kind⟩ | exact Good.put hg _ | exact Good.len hg | exact Good.sweep hg _ | (have h0 := hg.reg 0; have h1 := hg.reg 1; have h2 := hg.reg 2; have h4 := hg.step; have t1 := Int.tdiv_eq_ediv_of_nonneg (b := 8) h1.1; have t2 := Int.tmod_eq_emod_of_nonneg (b := 16) h2.1; have t3 := Int.tdiv_eq_ediv_of_nonneg (b := 64) h0.1; simp only [decide_eq_true_eq, decide_eq_false_iff_not, t1, t2, t3, IntKind.wrap_i64] at *; omega)
  exact fn_of_x hG hM Tryd.func36 (by kernel_rfl) (by kernel_rfl) 400 [.group [1, 1, 4, 1, 1, 1, 1, 1, 1, 1, 1, 1, 1, 1], .no, .no, .lit 0, .eq 35 (.int .i64 0), .lit 0, .yes, .yes, .call [] [] 1000 (.bool (rMute x)) [], .yes, .yes, .yes, .yes, .yes, .yes, .yes, .yes, .no, .lit 0, .yes, .lit 0] (And.intro c1 (And.intro c2 (And.intro (Eq.refl (0 : Int)) (And.intro (by decide : 0 < 4) (And.intro (congrArg (Value.int .i64) hd : Value.int .i64 (IntKind.i64.wrap (Int.tdiv (x.Reg 0) 64)) = Value.int .i64 0) (And.intro (by decide : ((64 : Int) ≠ 0)) (And.intro (Eq.refl (0 : Int)) (And.intro (by decide : 0 < 4) (And.intro c3 (And.intro c3 (And.intro (rMute_ok x hg) (And.intro c3 (And.intro c3 (And.intro c4 (And.intro c4 (And.intro c4 (And.intro c4 (And.intro o1 (And.intro c4 (And.intro c4 (And.intro c5 (And.intro (Eq.refl (0 : Int)) (And.intro (by decide : 0 < 4) (And.intro (by decide : ((16 : Int) ≠ 0)) (And.intro (by decide : ((2 : Int) ≠ 0)) (And.intro c6 (And.intro (Eq.refl (0 : Int)) (And.intro (by decide : 0 < 4) (And.intro (by decide : ((16 : Int) ≠ 0)) trivial))))))))))))))))))))))))))))) (by kernel_rfl)
theorem rOut_0_p9 (x : RTone) (hg : Good x) (hd : (IntKind.i64.wrap (Int.tdiv (x.Reg 0) 64)) = 0) (c1 : ((x.Kind : Int) == 2) = false) (c2 : ((x.Kind : Int) == 3) = false) (c3 : (decide ((x.Length : Int) > 0)) = true) (c4 : (!(rMute x)) = true) (c5 : (!(((strAt ⟨#[48, 49, 48, 48, 48, 48, 48, 48]⟩ (Int.toNat x.Step)) : Int) == 49)) = false) (c6 : (((Int.tmod (IntKind.i64.wrap (Int.tdiv (x.Reg 0) 16)) 2) : Int) == 1) = false) : FnSpec Tryd.prog 36 1000 [RTone.enc x] [] (.int .i64 x.Level) [] := by
  have o1 : (0 : Int) ≤ x.Step ∧ (x.Step : Int) < ((ByteArray.size ⟨#[48, 49, 48, 48, 48, 48, 48, 48]⟩ : Nat) : Int) := by first | decide | exact step8 hg (by assumption) rfl | omega | exact hg | exact ⟨hg.reg, hg.period, hg.step, hg.kind⟩ | exact Good.put hg _ | exact Good.len hg | exact Good.sweep hg _ | (have h0 := hg.reg 0; have h1 := hg.reg 1; have h2 := hg.reg 2; have h4 := hg.step; have t1 := Int.tdiv_eq_ediv_of_nonneg (b := 8) h1.1; have t2 := Int.tmod_eq_emod_of_nonneg (b := 16) h2.1; have t3 := Int.tdiv_eq_ediv_of_nonneg (b := 64) h0.1; simp only [decide_eq_true_eq, decide_eq_false_iff_not, t1, t2, t3, IntKind.wrap_i64] at *; omega)
  exact fn_of_x hG hM Tryd.func36 (by kernel_rfl) (by kernel_rfl) 400 [.group [1, 1, 4, 1, 1, 1, 1, 1, 1, 1, 1, 1, 1, 1], .no, .no, .lit 0, .eq 35 (.int .i64 0), .lit 0, .yes, .yes, .call [] [] 1000 (.bool (rMute x)) [], .yes, .yes, .yes, .yes, .yes, .yes, .yes, .yes, .no, .lit 0, .no] (And.intro c1 (And.intro c2 (And.intro (Eq.refl (0 : Int)) (And.intro (by decide : 0 < 4) (And.intro (congrArg (Value.int .i64) hd : Value.int .i64 (IntKind.i64.wrap (Int.tdiv (x.Reg 0) 64)) = Value.int .i64 0) (And.intro (by decide : ((64 : Int) ≠ 0)) (And.intro (Eq.refl (0 : Int)) (And.intro (by decide : 0 < 4) (And.intro c3 (And.intro c3 (And.intro (rMute_ok x hg) (And.intro c3 (And.intro c3 (And.intro c4 (And.intro c4 (And.intro c4 (And.intro c4 (And.intro o1 (And.intro c4 (And.intro c4 (And.intro c5 (And.intro (Eq.refl (0 : Int)) (And.intro (by decide : 0 < 4) (And.intro (by decide : ((16 : Int) ≠ 0)) (And.intro (by decide : ((2 : Int) ≠ 0)) (And.intro c6 trivial)))))))))))))))))))))))))) (by kernel_rfl)
theorem rOut_0_p10 (x : RTone) (hg : Good x) (hd : (IntKind.i64.wrap (Int.tdiv (x.Reg 0) 64)) = 0) (c1 : ((x.Kind : Int) == 2) = false) (c2 : ((x.Kind : Int) == 3) = false) (c3 : (decide ((x.Length : Int) > 0)) = true) (c4 : (!(rMute x)) = false) : FnSpec Tryd.prog 36 1000 [RTone.enc x] [] (.int .i64 0) [] := by
  exact fn_of_x hG hM Tryd.func36 (by kernel_rfl) (by kernel_rfl) 400 [.group [1, 1, 4, 1, 1, 1, 1, 1, 1, 1, 1, 1, 1, 1], .no, .no, .lit 0, .eq 35 (.int .i64 0), .lit 0, .yes, .yes, .call [] [] 1000 (.bool (rMute x)) [], .yes, .yes, .no, .no, .no, .no, .no, .no, .yes] (And.intro c1 (And.intro c2 (And.intro (Eq.refl (0 : Int)) (And.intro (by decide : 0 < 4) (And.intro (congrArg (Value.int .i64) hd : Value.int .i64 (IntKind.i64.wrap (Int.tdiv (x.Reg 0) 64)) = Value.int .i64 0) (And.intro (by decide : ((64 : Int) ≠ 0)) (And.intro (Eq.refl (0 : Int)) (And.intro (by decide : 0 < 4) (And.intro c3 (And.intro c3 (And.intro (rMute_ok x hg) (And.intro c3 (And.intro c3 (And.intro c4 (And.intro c4 (And.intro c4 (And.intro c4 (And.intro c4 (And.intro c4 (And.intro (Eq.refl true) trivial)))))))))))))))))))) (by kernel_rfl)
theorem rOut_0_p11 (x : RTone) (hg : Good x) (hd : (IntKind.i64.wrap (Int.tdiv (x.Reg 0) 64)) = 0) (c1 : ((x.Kind : Int) == 2) = false) (c2 : ((x.Kind : Int) == 3) = false) (c3 : (decide ((x.Length : Int) > 0)) = false) : FnSpec Tryd.prog 36 1000 [RTone.enc x] [] (.int .i64 0) [] := by
  exact fn_of_x hG hM Tryd.func36 (by kernel_rfl) (by kernel_rfl) 400 [.group [1, 1, 4, 1, 1, 1, 1, 1, 1, 1, 1, 1, 1, 1], .no, .no, .lit 0, .eq 35 (.int .i64 0), .lit 0, .no, .no, .no, .no, .no, .no, .no, .no, .no, .no, .yes] (And.intro c1 (And.intro c2 (And.intro (Eq.refl (0 : Int)) (And.intro (by decide : 0 < 4) (And.intro (congrArg (Value.int .i64) hd : Value.int .i64 (IntKind.i64.wrap (Int.tdiv (x.Reg 0) 64)) = Value.int .i64 0) (And.intro (by decide : ((64 : Int) ≠ 0)) (And.intro (Eq.refl (0 : Int)) (And.intro (by decide : 0 < 4) (And.intro c3 (And.intro c3 (And.intro c3 (And.intro c3 (And.intro (Eq.refl false) (And.intro (Eq.refl false) (And.intro (Eq.refl false) (And.intro (Eq.refl false) (And.intro (Eq.refl false) (And.intro (Eq.refl false) (And.intro (Eq.refl true) trivial))))))))))))))))))) (by kernel_rfl)
theorem rOut_0_ok (x : RTone) (hg : Good x) (hd : (IntKind.i64.wrap (Int.tdiv (x.Reg 0) 64)) = 0) : FnSpec Tryd.prog 36 1000 [RTone.enc x] [] (.int .i64 (rOut_0 x)) [] := by
  rcases bt ((x.Kind : Int) == 2) with c1 | c1
  ·
    rcases bt (decide ((x.Step : Int) < 16)) with c2 | c2
    ·
      have e : rOut_0 x = (IntKind.i64.wrap (15 - x.Step)) := by unfold rOut_0; rw [if_pos c1, if_pos c2]
      rw [e]
      exact rOut_0_p1 x hg hd c1 c2
    ·
      have e : rOut_0 x = (IntKind.i64.wrap (x.Step - 16)) := by unfold rOut_0; rw [if_pos c1, if_neg (nt c2)]
      rw [e]
      exact rOut_0_p2 x hg hd c1 c2
  ·
    rcases bt ((x.Kind : Int) == 3) with c2 | c2
    ·
      rcases bt (decide ((x.Length : Int) > 0)) with c3 | c3
      ·
        rcases bt (!(((x.Row 0) : Int) == 0)) with c4 | c4
        ·
          have e : rOut_0 x = 0 := by unfold rOut_0; rw [if_neg (nt c1), if_pos c2, if_pos c3, if_pos c4]
          rw [e]
          exact rOut_0_p3 x hg hd c1 c2 c3 c4
        ·
          rcases bt (((Int.tmod (IntKind.i64.wrap (Int.tdiv (x.Reg 0) 16)) 2) : Int) == 1) with c5 | c5
          ·
            have e : rOut_0 x = (Int.tmod (x.Reg 0) 16) := by unfold rOut_0; rw [if_neg (nt c1), if_pos c2, if_pos c3, if_neg (nt c4), if_pos c5]
            rw [e]
            exact rOut_0_p4 x hg hd c1 c2 c3 c4 c5
          ·
            have e : rOut_0 x = x.Level := by unfold rOut_0; rw [if_neg (nt c1), if_pos c2, if_pos c3, if_neg (nt c4), if_neg (nt c5)]
            rw [e]
            exact rOut_0_p5 x hg hd c1 c2 c3 c4 c5
      ·
        have e : rOut_0 x = 0 := by unfold rOut_0; rw [if_neg (nt c1), if_pos c2, if_neg (nt c3)]
        rw [e]
        exact rOut_0_p6 x hg hd c1 c2 c3
    ·
      rcases bt (decide ((x.Length : Int) > 0)) with c3 | c3
      ·
        rcases bt (!(rMute x)) with c4 | c4
        ·
          rcases bt (!(((strAt ⟨#[48, 49, 48, 48, 48, 48, 48, 48]⟩ (Int.toNat x.Step)) : Int) == 49)) with c5 | c5
          ·
            have e : rOut_0 x = 0 := by unfold rOut_0; rw [if_neg (nt c1), if_neg (nt c2), if_pos c3, if_pos c4, if_pos c5]
            rw [e]
            exact rOut_0_p7 x hg hd c1 c2 c3 c4 c5
          ·
            rcases bt (((Int.tmod (IntKind.i64.wrap (Int.tdiv (x.Reg 0) 16)) 2) : Int) == 1) with c6 | c6
            ·
              have e : rOut_0 x = (Int.tmod (x.Reg 0) 16) := by unfold rOut_0; rw [if_neg (nt c1), if_neg (nt c2), if_pos c3, if_pos c4, if_neg (nt c5), if_pos c6]
              rw [e]
              exact rOut_0_p8 x hg hd c1 c2 c3 c4 c5 c6
            ·
              have e : rOut_0 x = x.Level := by unfold rOut_0; rw [if_neg (nt c1), if_neg (nt c2), if_pos c3, if_pos c4, if_neg (nt c5), if_neg (nt c6)]
              rw [e]
              exact rOut_0_p9 x hg hd c1 c2 c3 c4 c5 c6
        ·
          have e : rOut_0 x = 0 := by unfold rOut_0; rw [if_neg (nt c1), if_neg (nt c2), if_pos c3, if_neg (nt c4)]
          rw [e]
          exact rOut_0_p10 x hg hd c1 c2 c3 c4
      ·
        have e : rOut_0 x = 0 := by unfold rOut_0; rw [if_neg (nt c1), if_neg (nt c2), if_neg (nt c3)]
        rw [e]
        exact rOut_0_p11 x hg hd c1 c2 c3

/-- kotatsu/kotatsuref11.Out -/
def rOut_1 (x : RTone) : Int :=
  if ((x.Kind : Int) == 2) = true then
    if (decide ((x.Step : Int) < 16)) = true then
      (IntKind.i64.wrap (15 - x.Step))
    else
      (IntKind.i64.wrap (x.Step - 16))
  else
    if ((x.Kind : Int) == 3) = true then
      if (decide ((x.Length : Int) > 0)) = true then
        if (!(((x.Row 0) : Int) == 0)) = true then
          0
        else
          if (((Int.tmod (IntKind.i64.wrap (Int.tdiv (x.Reg 0) 16)) 2) : Int) == 1) = true then
            (Int.tmod (x.Reg 0) 16)
          else
            x.Level
      else
        0
    else
      if (decide ((x.Length : Int) > 0)) = true then
        if (!(rMute x)) = true then
          if (!(((strAt ⟨#[48, 49, 49, 48, 48, 48, 48, 48]⟩ (Int.toNat x.Step)) : Int) == 49)) = true then
            0
          else
            if (((Int.tmod (IntKind.i64.wrap (Int.tdiv (x.Reg 0) 16)) 2) : Int) == 1) = true then
              (Int.tmod (x.Reg 0) 16)
            else
              x.Level
        else
          0
      else
        0
theorem rOut_1_p1 (x : RTone) (hg : Good x) (hd : (IntKind.i64.wrap (Int.tdiv (x.Reg 0) 64)) = 1) (c1 : ((x.Kind : Int) == 2) = true) (c2 : (decide ((x.Step : Int) < 16)) = true) : FnSpec Tryd.prog 36 1000 [RTone.enc x] [] (.int .i64 (IntKind.i64.wrap (15 - x.Step))) [] := by
  exact fn_of_x hG hM Tryd.func36 (by kernel_rfl) (by kernel_rfl) 400 [.group [1, 1, 4, 1, 1, 1, 1, 1, 1, 1, 1, 1, 1, 1], .yes, .yes] (And.intro c1 (And.intro c2 trivial)) (by kernel_rfl)
theorem rOut_1_p2 (x : RTone) (hg : Good x) (hd : (IntKind.i64.wrap (Int.tdiv (x.Reg 0) 64)) = 1) (c1 : ((x.Kind : Int) == 2) = true) (c2 : (decide ((x.Step : Int) < 16)) = false) : FnSpec Tryd.prog 36 1000 [RTone.enc x] [] (.int .i64 (IntKind.i64.wrap (x.Step - 16))) [] := by
  exact fn_of_x hG hM Tryd.func36 (by kernel_rfl) (by kernel_rfl) 400 [.group [1, 1, 4, 1, 1, 1, 1, 1, 1, 1, 1, 1, 1, 1], .yes, .no] (And.intro c1 (And.intro c2 trivial)) (by kernel_rfl)
theorem rOut_1_p3 (x : RTone) (hg : Good x) (hd : (IntKind.i64.wrap (Int.tdiv (x.Reg 0) 64)) = 1) (c1 : ((x.Kind : Int) == 2) = false) (c2 : ((x.Kind : Int) == 3) = true) (c3 : (decide ((x.Length : Int) > 0)) = true) (c4 : (!(((x.Row 0) : Int) == 0)) = true) : FnSpec Tryd.prog 36 1000 [RTone.enc x] [] (.int .i64 0) [] := by
  exact fn_of_x hG hM Tryd.func36 (by kernel_rfl) (by kernel_rfl) 400 [.group [1, 1, 4, 1, 1, 1, 1, 1, 1, 1, 1, 1, 1, 1], .no, .yes, .yes, .yes, .yes, .lit 0, .yes, .yes, .yes, .yes] (And.intro c1 (And.intro c2 (And.intro c3 (And.intro c3 (And.intro c3 (And.intro (Eq.refl true) (And.intro (Eq.refl (0 : Int)) (And.intro c3 (And.intro c3 (And.intro c3 (And.intro c4 trivial))))))))))) (by kernel_rfl)
theorem rOut_1_p4 (x : RTone) (hg : Good x) (hd : (IntKind.i64.wrap (Int.tdiv (x.Reg 0) 64)) = 1) (c1 : ((x.Kind : Int) == 2) = false) (c2 : ((x.Kind : Int) == 3) = true) (c3 : (decide ((x.Length : Int) > 0)) = true) (c4 : (!(((x.Row 0) : Int) == 0)) = false) (c5 : (((Int.tmod (IntKind.i64.wrap (Int.tdiv (x.Reg 0) 16)) 2) : Int) == 1) = true) : FnSpec Tryd.prog 36 1000 [RTone.enc x] [] (.int .i64 (Int.tmod (x.Reg 0) 16)) [] := by
  exact fn_of_x hG hM Tryd.func36 (by kernel_rfl) (by kernel_rfl) 400 [.group [1, 1, 4, 1, 1, 1, 1, 1, 1, 1, 1, 1, 1, 1], .no, .yes, .yes, .yes, .yes, .lit 0, .yes, .yes, .yes, .no, .lit 0, .yes, .lit 0] (And.intro c1 (And.intro c2 (And.intro c3 (And.intro c3 (And.intro c3 (And.intro (Eq.refl true) (And.intro (Eq.refl (0 : Int)) (And.intro c3 (And.intro c3 (And.intro c3 (And.intro c4 (And.intro (Eq.refl (0 : Int)) (And.intro (by decide : 0 < 4) (And.intro (by decide : ((16 : Int) ≠ 0)) (And.intro (by decide : ((2 : Int) ≠ 0)) (And.intro c5 (And.intro (Eq.refl (0 : Int)) (And.intro (by decide : 0 < 4) (And.intro (by decide : ((16 : Int) ≠ 0)) trivial))))))))))))))))))) (by kernel_rfl)
theorem rOut_1_p5 (x : RTone) (hg : Good x) (hd : (IntKind.i64.wrap (Int.tdiv (x.Reg 0) 64)) = 1) (c1 : ((x.Kind : Int) == 2) = false) (c2 : ((x.Kind : Int) == 3) = true) (c3 : (decide ((x.Length : Int) > 0)) = true) (c4 : (!(((x.Row 0) : Int) == 0)) = false) (c5 : (((Int.tmod (IntKind.i64.wrap (Int.tdiv (x.Reg 0) 16)) 2) : Int) == 1) = false) : FnSpec Tryd.prog 36 1000 [RTone.enc x] [] (.int .i64 x.Level) [] := by
  exact fn_of_x hG hM Tryd.func36 (by kernel_rfl) (by kernel_rfl) 400 [.group [1, 1, 4, 1, 1, 1, 1, 1, 1, 1, 1, 1, 1, 1], .no, .yes, .yes, .yes, .yes, .lit 0, .yes, .yes, .yes, .no, .lit 0, .no] (And.intro c1 (And.intro c2 (And.intro c3 (And.intro c3 (And.intro c3 (And.intro (Eq.refl true) (And.intro (Eq.refl (0 : Int)) (And.intro c3 (And.intro c3 (And.intro c3 (And.intro c4 (And.intro (Eq.refl (0 : Int)) (And.intro (by decide : 0 < 4) (And.intro (by decide : ((16 : Int) ≠ 0)) (And.intro (by decide : ((2 : Int) ≠ 0)) (And.intro c5 trivial)))))))))))))))) (by kernel_rfl)
theorem rOut_1_p6 (x : RTone) (hg : Good x) (hd : (IntKind.i64.wrap (Int.tdiv (x.Reg 0) 64)) = 1) (c1 : ((x.Kind : Int) == 2) = false) (c2 : ((x.Kind : Int) == 3) = true) (c3 : (decide ((x.Length : Int) > 0)) = false) : FnSpec Tryd.prog 36 1000 [RTone.enc x] [] (.int .i64 0) [] := by
  exact fn_of_x hG hM Tryd.func36 (by kernel_rfl) (by kernel_rfl) 400 [.group [1, 1, 4, 1, 1, 1, 1, 1, 1, 1, 1, 1, 1, 1], .no, .yes, .no, .no, .no, .no, .no, .no, .yes] (And.intro c1 (And.intro c2 (And.intro c3 (And.intro c3 (And.intro c3 (And.intro c3 (And.intro c3 (And.intro c3 (And.intro (Eq.refl true) trivial))))))))) (by kernel_rfl)
theorem rOut_1_p7 (x : RTone) (hg : Good x) (hd : (IntKind.i64.wrap (Int.tdiv (x.Reg 0) 64)) = 1) (c1 : ((x.Kind : Int) == 2) = false) (c2 : ((x.Kind : Int) == 3) = false) (c3 : (decide ((x.Length : Int) > 0)) = true) (c4 : (!(rMute x)) = true) (c5 : (!(((strAt ⟨#[48, 49, 49, 48, 48, 48, 48, 48]⟩ (Int.toNat x.Step)) : Int) == 49)) = true) : FnSpec Tryd.prog 36 1000 [RTone.enc x] [] (.int .i64 0) [] := by
  have o1 : (0 : Int) ≤ x.Step ∧ (x.Step : Int) < ((ByteArray.size ⟨#[48, 49, 49, 48, 48, 48, 48, 48]⟩ : Nat) : Int) := by first | decide | exact step8 hg (by assumption) rfl | omega | exact hg | exact ⟨hg.reg, hg.period, hg.step, hg.kind⟩ | exact Good.put hg _ | exact Good.len hg | exact Good.sweep hg _ | (have h0 := hg.reg 0; have h1 := hg.reg 1; have h2 := hg.reg 2; have h4 := hg.step; have t1 := Int.tdiv_eq_ediv_of_nonneg (b := 8) h1.1; have t2 := Int.tmod_eq_emod_of_nonneg (b := 16) h2.1; have t3 := Int.tdiv_eq_ediv_of_nonneg (b := 64) h0.1; simp only [decide_eq_true_eq, decide_eq_false_iff_not, t1, t2, t3, IntKind.wrap_i64] at *; omega)
  exact fn_of_x hG hM Tryd.func36 (by kernel_rfl) (by kernel_rfl) 400 [.group [1, 1, 4, 1, 1, 1, 1, 1, 1, 1, 1, 1, 1, 1], .no, .no, .lit 0, .eq 35 (.int .i64 1), .lit 1, .yes, .yes, .call [] [] 1000 (.bool (rMute x)) [], .yes, .yes, .yes, .yes, .yes, .yes, .yes, .yes, .yes] (And.intro c1 (And.intro c2 (And.intro (Eq.refl (0 : Int)) (And.intro (by decide : 0 < 4) (And.intro (congrArg (Value.int .i64) hd : Value.int .i64 (IntKind.i64.wrap (Int.tdiv (x.Reg 0) 64)) = Value.int .i64 1) (And.intro (by decide : ((64 : Int) ≠ 0)) (And.intro (Eq.refl (1 : Int)) (And.intro (by decide : 1 < 4) (And.intro c3 (And.intro c3 (And.intro (rMute_ok x hg) (And.intro c3 (And.intro c3 (And.intro c4 (And.intro c4 (And.intro c4 (And.intro c4 (And.intro o1 (And.intro c4 (And.intro c4 (And.intro c5 trivial))))))))))))))))))))) (by kernel_rfl)
theorem rOut_1_p8 (x : RTone) (hg : Good x) (hd : (IntKind.i64.wrap (Int.tdiv (x.Reg 0) 64)) = 1) (c1 : ((x.Kind : Int) == 2) = false) (c2 : ((x.Kind : Int) == 3) = false) (c3 : (decide ((x.Length : Int) > 0)) = true) (c4 : (!(rMute x)) = true) (c5 : (!(((strAt ⟨#[48, 49, 49, 48, 48, 48, 48, 48]⟩ (Int.toNat x.Step)) : Int) == 49)) = false) (c6 : (((Int.tmod (IntKind.i64.wrap (Int.tdiv (x.Reg 0) 16)) 2) : Int) == 1) = true) : FnSpec Tryd.prog 36 1000 [RTone.enc x] [] (.int .i64 (Int.tmod (x.Reg 0) 16)) [] := by
  have o1 : (0 : Int) ≤ x.Step ∧ (x.Step : Int) < ((ByteArray.size ⟨#[48, 49, 49, 48, 48, 48, 48, 48]⟩ : Nat) : Int) := by first | decide | exact step8 hg (by assumption) rfl | omega | exact hg | exact ⟨hg.reg, hg.period, hg.step, hg.kind⟩ | exact Good.put hg _ | exact Good.len hg | exact Good.sweep hg _ | (have h0 := hg.reg 0; have h1 := hg.reg 1; have h2 := hg.reg 2; have h4 := hg.step; have t1 := Int.tdiv_eq_ediv_of_nonneg (b := 8) h1.1; have t2 := Int.tmod_eq_emod_of_nonneg (b := 16) h2.1; have t3 := Int.tdiv_eq_ediv_of_nonneg (b := 64) h0.1; simp only [decide_eq_true_eq, decide_eq_false_iff_not, t1, t2, t3, IntKind.wrap_i64] at *; omega)
  exact fn_of_x hG hM Tryd.func36 (by kernel_rfl) (by kernel_rfl) 400 [.group [1, 1, 4, 1, 1, 1, 1, 1, 1, 1, 1, 1, 1, 1], .no, .no, .lit 0, .eq 35 (.int .i64 1), .lit 1, .yes, .yes, .call [] [] 1000 (.bool (rMute x)) [], .yes, .yes, .yes, .yes, .yes, .yes, .yes, .yes, .no, .lit 0, .yes, .lit 0] (And.intro c1 (And.intro c2 (And.intro (Eq.refl (0 : Int)) (And.intro (by decide : 0 < 4) (And.intro (congrArg (Value.int .i64) hd : Value.int .i64 (IntKind.i64.wrap (Int.tdiv (x.Reg 0) 64)) = Value.int .i64 1) (And.intro (by decide : ((64 : Int) ≠ 0)) (And.intro (Eq.refl (1 : Int)) (And.intro (by decide : 1 < 4) (And.intro c3 (And.intro c3 (And.intro (rMute_ok x hg) (And.intro c3 (And.intro c3 (And.intro c4 (And.intro c4 (And.intro c4 (And.intro c4 (And.intro o1 (And.intro c4 (And.intro c4 (And.intro c5 (And.intro (Eq.refl (0 : Int)) (And.intro (by decide : 0 < 4) (And.intro (by decide : ((16 : Int) ≠ 0)) (And.intro (by decide : ((2 : Int) ≠ 0)) (And.intro c6 (And.intro (Eq.refl (0 : Int)) (And.intro (by decide : 0 < 4) (And.intro (by decide : ((16 : Int) ≠ 0)) trivial))))))))))))))))))))))))))))) (by kernel_rfl)
theorem rOut_1_p9 (x : RTone) (hg : Good x) (hd : (IntKind.i64.wrap (Int.tdiv (x.Reg 0) 64)) = 1) (c1 : ((x.Kind : Int) == 2) = false) (c2 : ((x.Kind : Int) == 3) = false) (c3 : (decide ((x.Length : Int) > 0)) = true) (c4 : (!(rMute x)) = true) (c5 : (!(((strAt ⟨#[48, 49, 49, 48, 48, 48, 48, 48]⟩ (Int.toNat x.Step)) : Int) == 49)) = false) (c6 : (((Int.tmod (IntKind.i64.wrap (Int.tdiv (x.Reg 0) 16)) 2) : Int) == 1) = false) : FnSpec Tryd.prog 36 1000 [RTone.enc x] [] (.int .i64 x.Level) [] := by
  have o1 : (0 : Int) ≤ x.Step ∧ (x.Step : Int) < ((ByteArray.size ⟨#[48, 49, 49, 48, 48, 48, 48, 48]⟩ : Nat) : Int) := by first | decide | exact step8 hg (by assumption) rfl | omega | exact hg | exact ⟨hg.reg, hg.period, hg.step, hg.kind⟩ | exact Good.put hg _ | exact Good.len hg | exact Good.sweep hg _ | (have h0 := hg.reg 0; have h1 := hg.reg 1; have h2 := hg.reg 2; have h4 := hg.step; have t1 := Int.tdiv_eq_ediv_of_nonneg (b := 8) h1.1; have t2 := Int.tmod_eq_emod_of_nonneg (b := 16) h2.1; have t3 := Int.tdiv_eq_ediv_of_nonneg (b := 64) h0.1; simp only [decide_eq_true_eq, decide_eq_false_iff_not, t1, t2, t3, IntKind.wrap_i64] at *; omega)
  exact fn_of_x hG hM Tryd.func36 (by kernel_rfl) (by kernel_rfl) 400 [.group [1, 1, 4, 1, 1, 1, 1, 1, 1, 1, 1, 1, 1, 1], .no, .no, .lit 0, .eq 35 (.int .i64 1), .lit 1, .yes, .yes, .call [] [] 1000 (.bool (rMute x)) [], .yes, .yes, .yes, .yes, .yes, .yes, .yes, .yes, .no, .lit 0, .no] (And.intro c1 (And.intro c2 (And.intro (Eq.refl (0 : Int)) (And.intro (by decide : 0 < 4) (And.intro (congrArg (Value.int .i64) hd : Value.int .i64 (IntKind.i64.wrap (Int.tdiv (x.Reg 0) 64)) = Value.int .i64 1) (And.intro (by decide : ((64 : Int) ≠ 0)) (And.intro (Eq.refl (1 : Int)) (And.intro (by decide : 1 < 4) (And.intro c3 (And.intro c3 (And.intro (rMute_ok x hg) (And.intro c3 (And.intro c3 (And.intro c4 (And.intro c4 (And.intro c4 (And.intro c4 (And.intro o1 (And.intro c4 (And.intro c4 (And.intro c5 (And.intro (Eq.refl (0 : Int)) (And.intro (by decide : 0 < 4) (And.intro (by decide : ((16 : Int) ≠ 0)) (And.intro (by decide : ((2 : Int) ≠ 0)) (And.intro c6 trivial)))))))))))))))))))))))))) (by kernel_rfl)
theorem rOut_1_p10 (x : RTone) (hg : Good x) (hd : (IntKind.i64.wrap (Int.tdiv (x.Reg 0) 64)) = 1) (c1 : ((x.Kind : Int) == 2) = false) (c2 : ((x.Kind : Int) == 3) = false) (c3 : (decide ((x.Length : Int) > 0)) = true) (c4 : (!(rMute x)) = false) : FnSpec Tryd.prog 36 1000 [RTone.enc x] [] (.int .i64 0) [] := by
  exact fn_of_x hG hM Tryd.func36 (by kernel_rfl) (by kernel_rfl) 400 [.group [1, 1, 4, 1, 1, 1, 1, 1, 1, 1, 1, 1, 1, 1], .no, .no, .lit 0, .eq 35 (.int .i64 1), .lit 1, .yes, .yes, .call [] [] 1000 (.bool (rMute x)) [], .yes, .yes, .no, .no, .no, .no, .no, .no, .yes] (And.intro c1 (And.intro c2 (And.intro (Eq.refl (0 : Int)) (And.intro (by decide : 0 < 4) (And.intro (congrArg (Value.int .i64) hd : Value.int .i64 (IntKind.i64.wrap (Int.tdiv (x.Reg 0) 64)) = Value.int .i64 1) (And.intro (by decide : ((64 : Int) ≠ 0)) (And.intro (Eq.refl (1 : Int)) (And.intro (by decide : 1 < 4) (And.intro c3 (And.intro c3 (And.intro (rMute_ok x hg) (And.intro c3 (And.intro c3 (And.intro c4 (And.intro c4 (And.intro c4 (And.intro c4 (And.intro c4 (And.intro c4 (And.intro (Eq.refl true) trivial)))))))))))))))))))) (by kernel_rfl)
theorem rOut_1_p11 (x : RTone) (hg : Good x) (hd : (IntKind.i64.wrap (Int.tdiv (x.Reg 0) 64)) = 1) (c1 : ((x.Kind : Int) == 2) = false) (c2 : ((x.Kind : Int) == 3) = false) (c3 : (decide ((x.Length : Int) > 0)) = false) : FnSpec Tryd.prog 36 1000 [RTone.enc x] [] (.int .i64 0) [] := by
  exact fn_of_x hG hM Tryd.func36 (by kernel_rfl) (by kernel_rfl) 400 [.group [1, 1, 4, 1, 1, 1, 1, 1, 1, 1, 1, 1, 1, 1], .no, .no, .lit 0, .eq 35 (.int .i64 1), .lit 1, .no, .no, .no, .no, .no, .no, .no, .no, .no, .no, .yes] (And.intro c1 (And.intro c2 (And.intro (Eq.refl (0 : Int)) (And.intro (by decide : 0 < 4) (And.intro (congrArg (Value.int .i64) hd : Value.int .i64 (IntKind.i64.wrap (Int.tdiv (x.Reg 0) 64)) = Value.int .i64 1) (And.intro (by decide : ((64 : Int) ≠ 0)) (And.intro (Eq.refl (1 : Int)) (And.intro (by decide : 1 < 4) (And.intro c3 (And.intro c3 (And.intro c3 (And.intro c3 (And.intro (Eq.refl false) (And.intro (Eq.refl false) (And.intro (Eq.refl false) (And.intro (Eq.refl false) (And.intro (Eq.refl false) (And.intro (Eq.refl false) (And.intro (Eq.refl true) trivial))))))))))))))))))) (by kernel_rfl)
theorem rOut_1_ok (x : RTone) (hg : Good x) (hd : (IntKind.i64.wrap (Int.tdiv (x.Reg 0) 64)) = 1) : FnSpec Tryd.prog 36 1000 [RTone.enc x] [] (.int .i64 (rOut_1 x)) [] := by
  rcases bt ((x.Kind : Int) == 2) with c1 | c1
  ·
    rcases bt (decide ((x.Step : Int) < 16)) with c2 | c2
    ·
      have e : rOut_1 x = (IntKind.i64.wrap (15 - x.Step)) := by unfold rOut_1; rw [if_pos c1, if_pos c2]
      rw [e]
      exact rOut_1_p1 x hg hd c1 c2
    ·
      have e : rOut_1 x = (IntKind.i64.wrap (x.Step - 16)) := by unfold rOut_1; rw [if_pos c1, if_neg (nt c2)]
      rw [e]
      exact rOut_1_p2 x hg hd c1 c2
  ·
    rcases bt ((x.Kind : Int) == 3) with c2 | c2
    ·
      rcases bt (decide ((x.Length : Int) > 0)) with c3 | c3
      ·
        rcases bt (!(((x.Row 0) : Int) == 0)) with c4 | c4
        ·
          have e : rOut_1 x = 0 := by unfold rOut_1; rw [if_neg (nt c1), if_pos c2, if_pos c3, if_pos c4]
          rw [e]
          exact rOut_1_p3 x hg hd c1 c2 c3 c4
        ·
          rcases bt (((Int.tmod (IntKind.i64.wrap (Int.tdiv (x.Reg 0) 16)) 2) : Int) == 1) with c5 | c5
          ·
            have e : rOut_1 x = (Int.tmod (x.Reg 0) 16) := by unfold rOut_1; rw [if_neg (nt c1), if_pos c2, if_pos c3, if_neg (nt c4), if_pos c5]
            rw [e]
            exact rOut_1_p4 x hg hd c1 c2 c3 c4 c5
          ·
            have e : rOut_1 x = x.Level := by unfold rOut_1; rw [if_neg (nt c1), if_pos c2, if_pos c3, if_neg (nt c4), if_neg (nt c5)]
            rw [e]
            exact rOut_1_p5 x hg hd c1 c2 c3 c4 c5
      ·
        have e : rOut_1 x = 0 := by unfold rOut_1; rw [if_neg (nt c1), if_pos c2, if_neg (nt c3)]
        rw [e]
        exact rOut_1_p6 x hg hd c1 c2 c3
    ·
      rcases bt (decide ((x.Length : Int) > 0)) with c3 | c3
      ·
        rcases bt (!(rMute x)) with c4 | c4
        ·
          rcases bt (!(((strAt ⟨#[48, 49, 49, 48, 48, 48, 48, 48]⟩ (Int.toNat x.Step)) : Int) == 49)) with c5 | c5
          ·
            have e : rOut_1 x = 0 := by unfold rOut_1; rw [if_neg (nt c1), if_neg (nt c2), if_pos c3, if_pos c4, if_pos c5]
            rw [e]
            exact rOut_1_p7 x hg hd c1 c2 c3 c4 c5
          ·
            rcases bt (((Int.tmod (IntKind.i64.wrap (Int.tdiv (x.Reg 0) 16)) 2) : Int) == 1) with c6 | c6
            ·
              have e : rOut_1 x = (Int.tmod (x.Reg 0) 16) := by unfold rOut_1; rw [if_neg (nt c1), if_neg (nt c2), if_pos c3, if_pos c4, if_neg (nt c5), if_pos c6]
              rw [e]
              exact rOut_1_p8 x hg hd c1 c2 c3 c4 c5 c6
            ·
              have e : rOut_1 x = x.Level := by unfold rOut_1; rw [if_neg (nt c1), if_neg (nt c2), if_pos c3, if_pos c4, if_neg (nt c5), if_neg (nt c6)]
              rw [e]
              exact rOut_1_p9 x hg hd c1 c2 c3 c4 c5 c6
        ·
          have e : rOut_1 x = 0 := by unfold rOut_1; rw [if_neg (nt c1), if_neg (nt c2), if_pos c3, if_neg (nt c4)]
          rw [e]
          exact rOut_1_p10 x hg hd c1 c2 c3 c4
      ·
        have e : rOut_1 x = 0 := by unfold rOut_1; rw [if_neg (nt c1), if_neg (nt c2), if_neg (nt c3)]
        rw [e]
        exact rOut_1_p11 x hg hd c1 c2 c3

/-- kotatsu/kotatsuref11.Out -/
def rOut_2 (x : RTone) : Int :=
  if ((x.Kind : Int) == 2) = true then
    if (decide ((x.Step : Int) < 16)) = true then
      (IntKind.i64.wrap (15 - x.Step))
    else
      (IntKind.i64.wrap (x.Step - 16))
  else
    if ((x.Kind : Int) == 3) = true then
      if (decide ((x.Length : Int) > 0)) = true then
        if (!(((x.Row 0) : Int) == 0)) = true then
          0
        else
          if (((Int.tmod (IntKind.i64.wrap (Int.tdiv (x.Reg 0) 16)) 2) : Int) == 1) = true then
            (Int.tmod (x.Reg 0) 16)
          else
            x.Level
      else
        0
    else
      if (decide ((x.Length : Int) > 0)) = true then
        if (!(rMute x)) = true then
          if (!(((strAt ⟨#[48, 49, 49, 49, 49, 48, 48, 48]⟩ (Int.toNat x.Step)) : Int) == 49)) = true then
            0
          else
            if (((Int.tmod (IntKind.i64.wrap (Int.tdiv (x.Reg 0) 16)) 2) : Int) == 1) = true then
              (Int.tmod (x.Reg 0) 16)
            else
              x.Level
        else
          0
      else
        0
theorem rOut_2_p1 (x : RTone) (hg : Good x) (hd : (IntKind.i64.wrap (Int.tdiv (x.Reg 0) 64)) = 2) (c1 : ((x.Kind : Int) == 2) = true) (c2 : (decide ((x.Step : Int) < 16)) = true) : FnSpec Tryd.prog 36 1000 [RTone.enc x] [] (.int .i64 (IntKind.i64.wrap (15 - x.Step))) [] := by
  exact fn_of_x hG hM Tryd.func36 (by kernel_rfl) (by kernel_rfl) 400 [.group [1, 1, 4, 1, 1, 1, 1, 1, 1, 1, 1, 1, 1, 1], .yes, .yes] (And.intro c1 (And.intro c2 trivial)) (by kernel_rfl)
theorem rOut_2_p2 (x : RTone) (hg : Good x) (hd : (IntKind.i64.wrap (Int.tdiv (x.Reg 0) 64)) = 2) (c1 : ((x.Kind : Int) == 2) = true) (c2 : (decide ((x.Step : Int) < 16)) = false) : FnSpec Tryd.prog 36 1000 [RTone.enc x] [] (.int .i64 (IntKind.i64.wrap (x.Step - 16))) [] := by
  exact fn_of_x hG hM Tryd.func36 (by kernel_rfl) (by kernel_rfl) 400 [.group [1, 1, 4, 1, 1, 1, 1, 1, 1, 1, 1, 1, 1, 1], .yes, .no] (And.intro c1 (And.intro c2 trivial)) (by kernel_rfl)
theorem rOut_2_p3 (x : RTone) (hg : Good x) (hd : (IntKind.i64.wrap (Int.tdiv (x.Reg 0) 64)) = 2) (c1 : ((x.Kind : Int) == 2) = false) (c2 : ((x.Kind : Int) == 3) = true) (c3 : (decide ((x.Length : Int) > 0)) = true) (c4 : (!(((x.Row 0) : Int) == 0)) = true) : FnSpec Tryd.prog 36 1000 [RTone.enc x] [] (.int .i64 0) [] := by
  exact fn_of_x hG hM Tryd.func36 (by kernel_rfl) (by kernel_rfl) 400 [.group [1, 1, 4, 1, 1, 1, 1, 1, 1, 1, 1, 1, 1, 1], .no, .yes, .yes, .yes, .yes, .lit 0, .yes, .yes, .yes, .yes] (And.intro c1 (And.intro c2 (And.intro c3 (And.intro c3 (And.intro c3 (And.intro (Eq.refl true) (And.intro (Eq.refl (0 : Int)) (And.intro c3 (And.intro c3 (And.intro c3 (And.intro c4 trivial))))))))))) (by kernel_rfl)
theorem rOut_2_p4 (x : RTone) (hg : Good x) (hd : (IntKind.i64.wrap (Int.tdiv (x.Reg 0) 64)) = 2) (c1 : ((x.Kind : Int) == 2) = false) (c2 : ((x.Kind : Int) == 3) = true) (c3 : (decide ((x.Length : Int) > 0)) = true) (c4 : (!(((x.Row 0) : Int) == 0)) = false) (c5 : (((Int.tmod (IntKind.i64.wrap (Int.tdiv (x.Reg 0) 16)) 2) : Int) == 1) = true) : FnSpec Tryd.prog 36 1000 [RTone.enc x] [] (.int .i64 (Int.tmod (x.Reg 0) 16)) [] := by
  exact fn_of_x hG hM Tryd.func36 (by kernel_rfl) (by kernel_rfl) 400 [.group [1, 1, 4, 1, 1, 1, 1, 1, 1, 1, 1, 1, 1, 1], .no, .yes, .yes, .yes, .yes, .lit 0, .yes, .yes, .yes, .no, .lit 0, .yes, .lit 0] (And.intro c1 (And.intro c2 (And.intro c3 (And.intro c3 (And.intro c3 (And.intro (Eq.refl true) (And.intro (Eq.refl (0 : Int)) (And.intro c3 (And.intro c3 (And.intro c3 (And.intro c4 (And.intro (Eq.refl (0 : Int)) (And.intro (by decide : 0 < 4) (And.intro (by decide : ((16 : Int) ≠ 0)) (And.intro (by decide : ((2 : Int) ≠ 0)) (And.intro c5 (And.intro (Eq.refl (0 : Int)) (And.intro (by decide : 0 < 4) (And.intro (by decide : ((16 : Int) ≠ 0)) trivial))))))))))))))))))) (by kernel_rfl)
theorem rOut_2_p5 (x : RTone) (hg : Good x) (hd : (IntKind.i64.wrap (Int.tdiv (x.Reg 0) 64)) = 2) (c1 : ((x.Kind : Int) == 2) = false) (c2 : ((x.Kind : Int) == 3) = true) (c3 : (decide ((x.Length : Int) > 0)) = true) (c4 : (!(((x.Row 0) : Int) == 0)) = false) (c5 : (((Int.tmod (IntKind.i64.wrap (Int.tdiv (x.Reg 0) 16)) 2) : Int) == 1) = false) : FnSpec Tryd.prog 36 1000 [RTone.enc x] [] (.int .i64 x.Level) [] := by
  exact fn_of_x hG hM Tryd.func36 (by kernel_rfl) (by kernel_rfl) 400 [.group [1, 1, 4, 1, 1, 1, 1, 1, 1, 1, 1, 1, 1, 1], .no, .yes, .yes, .yes, .yes, .lit 0, .yes, .yes, .yes, .no, .lit 0, .no] (And.intro c1 (And.intro c2 (And.intro c3 (And.intro c3 (And.intro c3 (And.intro (Eq.refl true) (And.intro (Eq.refl (0 : Int)) (And.intro c3 (And.intro c3 (And.intro c3 (And.intro c4 (And.intro (Eq.refl (0 : Int)) (And.intro (by decide : 0 < 4) (And.intro (by decide : ((16 : Int) ≠ 0)) (And.intro (by decide : ((2 : Int) ≠ 0)) (And.intro c5 trivial)))))))))))))))) (by kernel_rfl)
theorem rOut_2_p6 (x : RTone) (hg : Good x) (hd : (IntKind.i64.wrap (Int.tdiv (x.Reg 0) 64)) = 2) (c1 : ((x.Kind : Int) == 2) = false) (c2 : ((x.Kind : Int) == 3) = true) (c3 : (decide ((x.Length : Int) > 0)) = false) : FnSpec Tryd.prog 36 1000 [RTone.enc x] [] (.int .i64 0) [] := by
  exact fn_of_x hG hM Tryd.func36 (by kernel_rfl) (by kernel_rfl) 400 [.group [1, 1, 4, 1, 1, 1, 1, 1, 1, 1, 1, 1, 1, 1], .no, .yes, .no, .no, .no, .no, .no, .no, .yes] (And.intro c1 (And.intro c2 (And.intro c3 (And.intro c3 (And.intro c3 (And.intro c3 (And.intro c3 (And.intro c3 (And.intro (Eq.refl true) trivial))))))))) (by kernel_rfl)
theorem rOut_2_p7 (x : RTone) (hg : Good x) (hd : (IntKind.i64.wrap (Int.tdiv (x.Reg 0) 64)) = 2) (c1 : ((x.Kind : Int) == 2) = false) (c2 : ((x.Kind : Int) == 3) = false) (c3 : (decide ((x.Length : Int) > 0)) = true) (c4 : (!(rMute x)) = true) (c5 : (!(((strAt ⟨#[48, 49, 49, 49, 49, 48, 48, 48]⟩ (Int.toNat x.Step)) : Int) == 49)) = true) : FnSpec Tryd.prog 36 1000 [RTone.enc x] [] (.int .i64 0) [] := by
  have o1 : (0 : Int) ≤ x.Step ∧ (x.Step : Int) < ((ByteArray.size ⟨#[48, 49, 49, 49, 49, 48, 48, 48]⟩ : Nat) : Int) := by first | decide | exact step8 hg (by assumption) rfl | omega | exact hg | exact ⟨hg.reg, hg.period, hg.step, hg.kind⟩ | exact Good.put hg _ | exact Good.len hg | exact Good.sweep hg _ | (have h0 := hg.reg 0; have h1 := hg.reg 1; have h2 := hg.reg 2; have h4 := hg.step; have t1 := Int.tdiv_eq_ediv_of_nonneg (b := 8) h1.1; have t2 := Int.tmod_eq_emod_of_nonneg (b := 16) h2.1; have t3 := Int.tdiv_eq_ediv_of_nonneg (b := 64) h0.1; simp only [decide_eq_true_eq, decide_eq_false_iff_not, t1, t2, t3, IntKind.wrap_i64] at *; omega)
  exact fn_of_x hG hM Tryd.func36 (by kernel_rfl) (by kernel_rfl) 400 [.group [1, 1, 4, 1, 1, 1, 1, 1, 1, 1, 1, 1, 1, 1], .no, .no, .lit 0, .eq 35 (.int .i64 2), .lit 2, .yes, .yes, .call [] [] 1000 (.bool (rMute x)) [], .yes, .yes, .yes, .yes, .yes, .yes, .yes, .yes, .yes] (And.intro c1 (And.intro c2 (And.intro (Eq.refl (0 : Int)) (And.intro (by decide : 0 < 4) (And.intro (congrArg (Value.int .i64) hd : Value.int .i64 (IntKind.i64.wrap (Int.tdiv (x.Reg 0) 64)) = Value.int .i64 2) (And.intro (by decide : ((64 : Int) ≠ 0)) (And.intro (Eq.refl (2 : Int)) (And.intro (by decide : 2 < 4) (And.intro c3 (And.intro c3 (And.intro (rMute_ok x hg) (And.intro c3 (And.intro c3 (And.intro c4 (And.intro c4 (And.intro c4 (And.intro c4 (And.intro o1 (And.intro c4 (And.intro c4 (And.intro c5 trivial))))))))))))))))))))) (by kernel_rfl)
theorem rOut_2_p8 (x : RTone) (hg : Good x) (hd : (IntKind.i64.wrap (Int.tdiv (x.Reg 0) 64)) = 2) (c1 : ((x.Kind : Int) == 2) = false) (c2 : ((x.Kind : Int) == 3) = false) (c3 : (decide ((x.Length : Int) > 0)) = true) (c4 : (!(rMute x)) = true) (c5 : (!(((strAt ⟨#[48, 49, 49, 49, 49, 48, 48, 48]⟩ (Int.toNat x.Step)) : Int) == 49)) = false) (c6 : (((Int.tmod (IntKind.i64.wrap (Int.tdiv (x.Reg 0) 16)) 2) : Int) == 1) = true) : FnSpec Tryd.prog 36 1000 [RTone.enc x] [] (.int .i64 (Int.tmod (x.Reg 0) 16)) [] := by
  have o1 : (0 : Int) ≤ x.Step ∧ (x.Step : Int) < ((ByteArray.size ⟨#[48, 49, 49, 49, 49, 48, 48, 48]⟩ : Nat) : Int) := by first | decide | exact step8 hg (by assumption) rfl | omega | exact hg | exact ⟨hg.reg, hg.period, hg.step, hg.kind⟩ | exact Good.put hg _ | exact Good.len hg | exact Good.sweep hg _ | (have h0 := hg.reg 0; have h1 := hg.reg 1; have h2 := hg.reg 2; have h4 := hg.step; have t1 := Int.tdiv_eq_ediv_of_nonneg (b := 8) h1.1; have t2 := Int.tmod_eq_emod_of_nonneg (b := 16) h2.1; have t3 := Int.tdiv_eq_ediv_of_nonneg (b := 64) h0.1; simp only [decide_eq_true_eq, decide_eq_false_iff_not, t1, t2, t3, IntKind.wrap_i64] at *; omega)
  exact fn_of_x hG hM Tryd.func36 (by kernel_rfl) (by kernel_rfl) 400 [.group [1, 1, 4, 1, 1, 1, 1, 1, 1, 1, 1, 1, 1, 1], .no, .no, .lit 0, .eq 35 (.int .i64 2), .lit 2, .yes, .yes, .call [] [] 1000 (.bool (rMute x)) [], .yes, .yes, .yes, .yes, .yes, .yes, .yes, .yes, .no, .lit 0, .yes, .lit 0] (And.intro c1 (And.intro c2 (And.intro (Eq.refl (0 : Int)) (And.intro (by decide : 0 < 4) (And.intro (congrArg (Value.int .i64) hd : Value.int .i64 (IntKind.i64.wrap (Int.tdiv (x.Reg 0) 64)) = Value.int .i64 2) (And.intro (by decide : ((64 : Int) ≠ 0)) (And.intro (Eq.refl (2 : Int)) (And.intro (by decide : 2 < 4) (And.intro c3 (And.intro c3 (And.intro (rMute_ok x hg) (And.intro c3 (And.intro c3 (And.intro c4 (And.intro c4 (And.intro c4 (And.intro c4 (And.intro o1 (And.intro c4 (And.intro c4 (And.intro c5 (And.intro (Eq.refl (0 : Int)) (And.intro (by decide : 0 < 4) (And.intro (by decide : ((16 : Int) ≠ 0)) (And.intro (by decide : ((2 : Int) ≠ 0)) (And.intro c6 (And.intro (Eq.refl (0 : Int)) (And.intro (by decide : 0 < 4) (And.intro (by decide : ((16 : Int) ≠ 0)) trivial))))))))))))))))))))))))))))) (by kernel_rfl)
theorem rOut_2_p9 (x : RTone) (hg : Good x) (hd : (IntKind.i64.wrap (Int.tdiv (x.Reg 0) 64)) = 2) (c1 : ((x.Kind : Int) == 2) = false) (c2 : ((x.Kind : Int) == 3) = false) (c3 : (decide ((x.Length : Int) > 0)) = true) (c4 : (!(rMute x)) = true) (c5 : (!(((strAt ⟨#[48, 49, 49, 49, 49, 48, 48, 48]⟩ (Int.toNat x.Step)) : Int) == 49)) = false) (c6 : (((Int.tmod (IntKind.i64.wrap (Int.tdiv (x.Reg 0) 16)) 2) : Int) == 1) = false) : FnSpec Tryd.prog 36 1000 [RTone.enc x] [] (.int .i64 x.Level) [] := by
  have o1 : (0 : Int) ≤ x.Step ∧ (x.Step : Int) < ((ByteArray.size ⟨#[48, 49, 49, 49, 49, 48, 48, 48]⟩ : Nat) : Int) := by first | decide | exact step8 hg (by assumption) rfl | omega | exact hg | exact ⟨hg.reg, hg.period, hg.step, hg.kind⟩ | exact Good.put hg _ | exact Good.len hg | exact Good.sweep hg _ | (have h0 := hg.reg 0; have h1 := hg.reg 1; have h2 := hg.reg 2; have h4 := hg.step; have t1 := Int.tdiv_eq_ediv_of_nonneg (b := 8) h1.1; have t2 := Int.tmod_eq_emod_of_nonneg (b := 16) h2.1; have t3 := Int.tdiv_eq_ediv_of_nonneg (b := 64) h0.1; simp only [decide_eq_true_eq, decide_eq_false_iff_not, t1, t2, t3, IntKind.wrap_i64] at *; omega)
  exact fn_of_x hG hM Tryd.func36 (by kernel_rfl) (by kernel_rfl) 400 [.group [1, 1, 4, 1, 1, 1, 1, 1, 1, 1, 1, 1, 1, 1], .no, .no, .lit 0, .eq 35 (.int .i64 2), .lit 2, .yes, .yes, .call [] [] 1000 (.bool (rMute x)) [], .yes, .yes, .yes, .yes, .yes, .yes, .yes, .yes, .no, .lit 0, .no] (And.intro c1 (And.intro c2 (And.intro (Eq.refl (0 : Int)) (And.intro (by decide : 0 < 4) (And.intro (congrArg (Value.int .i64) hd : Value.int .i64 (IntKind.i64.wrap (Int.tdiv (x.Reg 0) 64)) = Value.int .i64 2) (And.intro (by decide : ((64 : Int) ≠ 0)) (And.intro (Eq.refl (2 : Int)) (And.intro (by decide : 2 < 4) (And.intro c3 (And.intro c3 (And.intro (rMute_ok x hg) (And.intro c3 (And.intro c3 (And.intro c4 (And.intro c4 (And.intro c4 (And.intro c4 (And.intro o1 (And.intro c4 (And.intro c4 (And.intro c5 (And.intro (Eq.refl (0 : Int)) (And.intro (by decide : 0 < 4) (And.intro (by decide : ((16 : Int) ≠ 0)) (And.intro (by decide : ((2 : Int) ≠ 0)) (And.intro c6 trivial)))))))))))))))))))))))))) (by kernel_rfl)
theorem rOut_2_p10 (x : RTone) (hg : Good x) (hd : (IntKind.i64.wrap (Int.tdiv (x.Reg 0) 64)) = 2) (c1 : ((x.Kind : Int) == 2) = false) (c2 : ((x.Kind : Int) == 3) = false) (c3 : (decide ((x.Length : Int) > 0)) = true) (c4 : (!(rMute x)) = false) : FnSpec Tryd.prog 36 1000 [RTone.enc x] [] (.int .i64 0) [] := by
  exact fn_of_x hG hM Tryd.func36 (by kernel_rfl) (by kernel_rfl) 400 [.group [1, 1, 4, 1, 1, 1, 1, 1, 1, 1, 1, 1, 1, 1], .no, .no, .lit 0, .eq 35 (.int .i64 2), .lit 2, .yes, .yes, .call [] [] 1000 (.bool (rMute x)) [], .yes, .yes, .no, .no, .no, .no, .no, .no, .yes] (And.intro c1 (And.intro c2 (And.intro (Eq.refl (0 : Int)) (And.intro (by decide : 0 < 4) (And.intro (congrArg (Value.int .i64) hd : Value.int .i64 (IntKind.i64.wrap (Int.tdiv (x.Reg 0) 64)) = Value.int .i64 2) (And.intro (by decide : ((64 : Int) ≠ 0)) (And.intro (Eq.refl (2 : Int)) (And.intro (by decide : 2 < 4) (And.intro c3 (And.intro c3 (And.intro (rMute_ok x hg) (And.intro c3 (And.intro c3 (And.intro c4 (And.intro c4 (And.intro c4 (And.intro c4 (And.intro c4 (And.intro c4 (And.intro (Eq.refl true) trivial)))))))))))))))))))) (by kernel_rfl)
theorem rOut_2_p11 (x : RTone) (hg : Good x) (hd : (IntKind.i64.wrap (Int.tdiv (x.Reg 0) 64)) = 2) (c1 : ((x.Kind : Int) == 2) = false) (c2 : ((x.Kind : Int) == 3) = false) (c3 : (decide ((x.Length : Int) > 0)) = false) : FnSpec Tryd.prog 36 1000 [RTone.enc x] [] (.int .i64 0) [] := by
  exact fn_of_x hG hM Tryd.func36 (by kernel_rfl) (by kernel_rfl) 400 [.group [1, 1, 4, 1, 1, 1, 1, 1, 1, 1, 1, 1, 1, 1], .no, .no, .lit 0, .eq 35 (.int .i64 2), .lit 2, .no, .no, .no, .no, .no, .no, .no, .no, .no, .no, .yes] (And.intro c1 (And.intro c2 (And.intro (Eq.refl (0 : Int)) (And.intro (by decide : 0 < 4) (And.intro (congrArg (Value.int .i64) hd : Value.int .i64 (IntKind.i64.wrap (Int.tdiv (x.Reg 0) 64)) = Value.int .i64 2) (And.intro (by decide : ((64 : Int) ≠ 0)) (And.intro (Eq.refl (2 : Int)) (And.intro (by decide : 2 < 4) (And.intro c3 (And.intro c3 (And.intro c3 (And.intro c3 (And.intro (Eq.refl false) (And.intro (Eq.refl false) (And.intro (Eq.refl false) (And.intro (Eq.refl false) (And.intro (Eq.refl false) (And.intro (Eq.refl false) (And.intro (Eq.refl true) trivial))))))))))))))))))) (by kernel_rfl)
theorem rOut_2_ok (x : RTone) (hg : Good x) (hd : (IntKind.i64.wrap (Int.tdiv (x.Reg 0) 64)) = 2) : FnSpec Tryd.prog 36 1000 [RTone.enc x] [] (.int .i64 (rOut_2 x)) [] := by
  rcases bt ((x.Kind : Int) == 2) with c1 | c1
  ·
    rcases bt (decide ((x.Step : Int) < 16)) with c2 | c2
    ·
      have e : rOut_2 x = (IntKind.i64.wrap (15 - x.Step)) := by unfold rOut_2; rw [if_pos c1, if_pos c2]
      rw [e]
      exact rOut_2_p1 x hg hd c1 c2
    ·
      have e : rOut_2 x = (IntKind.i64.wrap (x.Step - 16)) := by unfold rOut_2; rw [if_pos c1, if_neg (nt c2)]
      rw [e]
      exact rOut_2_p2 x hg hd c1 c2
  ·
    rcases bt ((x.Kind : Int) == 3) with c2 | c2
    ·
      rcases bt (decide ((x.Length : Int) > 0)) with c3 | c3
      ·
        rcases bt (!(((x.Row 0) : Int) == 0)) with c4 | c4
        ·
          have e : rOut_2 x = 0 := by unfold rOut_2; rw [if_neg (nt c1), if_pos c2, if_pos c3, if_pos c4]
          rw [e]
          exact rOut_2_p3 x hg hd c1 c2 c3 c4
        ·
          rcases bt (((Int.tmod (IntKind.i64.wrap (Int.tdiv (x.Reg 0) 16)) 2) : Int) == 1) with c5 | c5
          ·
            have e : rOut_2 x = (Int.tmod (x.Reg 0) 16) := by unfold rOut_2; rw [if_neg (nt c1), if_pos c2, if_pos c3, if_neg (nt c4), if_pos c5]
            rw [e]
            exact rOut_2_p4 x hg hd c1 c2 c3 c4 c5
          ·
            have e : rOut_2 x = x.Level := by unfold rOut_2; rw [if_neg (nt c1), if_pos c2, if_pos c3, if_neg (nt c4), if_neg (nt c5)]
            rw [e]
            exact rOut_2_p5 x hg hd c1 c2 c3 c4 c5
      ·
        have e : rOut_2 x = 0 := by unfold rOut_2; rw [if_neg (nt c1), if_pos c2, if_neg (nt c3)]
        rw [e]
        exact rOut_2_p6 x hg hd c1 c2 c3
    ·
      rcases bt (decide ((x.Length : Int) > 0)) with c3 | c3
      ·
        rcases bt (!(rMute x)) with c4 | c4
        ·
          rcases bt (!(((strAt ⟨#[48, 49, 49, 49, 49, 48, 48, 48]⟩ (Int.toNat x.Step)) : Int) == 49)) with c5 | c5
          ·
            have e : rOut_2 x = 0 := by unfold rOut_2; rw [if_neg (nt c1), if_neg (nt c2), if_pos c3, if_pos c4, if_pos c5]
            rw [e]
            exact rOut_2_p7 x hg hd c1 c2 c3 c4 c5
          ·
            rcases bt (((Int.tmod (IntKind.i64.wrap (Int.tdiv (x.Reg 0) 16)) 2) : Int) == 1) with c6 | c6
            ·
              have e : rOut_2 x = (Int.tmod (x.Reg 0) 16) := by unfold rOut_2; rw [if_neg (nt c1), if_neg (nt c2), if_pos c3, if_pos c4, if_neg (nt c5), if_pos c6]
              rw [e]
              exact rOut_2_p8 x hg hd c1 c2 c3 c4 c5 c6
            ·
              have e : rOut_2 x = x.Level := by unfold rOut_2; rw [if_neg (nt c1), if_neg (nt c2), if_pos c3, if_pos c4, if_neg (nt c5), if_neg (nt c6)]
              rw [e]
              exact rOut_2_p9 x hg hd c1 c2 c3 c4 c5 c6
        ·
          have e : rOut_2 x = 0 := by unfold rOut_2; rw [if_neg (nt c1), if_neg (nt c2), if_pos c3, if_neg (nt c4)]
          rw [e]
          exact rOut_2_p10 x hg hd c1 c2 c3 c4
      ·
        have e : rOut_2 x = 0 := by unfold rOut_2; rw [if_neg (nt c1), if_neg (nt c2), if_neg (nt c3)]
        rw [e]
        exact rOut_2_p11 x hg hd c1 c2 c3

/-- kotatsu/kotatsuref11.Out -/
def rOut_3 (x : RTone) : Int :=
  if ((x.Kind : Int) == 2) = true then
    if (decide ((x.Step : Int) < 16)) = true then
      (IntKind.i64.wrap (15 - x.Step))
    else
      (IntKind.i64.wrap (x.Step - 16))
  else
    if ((x.Kind : Int) == 3) = true then
      if (decide ((x.Length : Int) > 0)) = true then
        if (!(((x.Row 0) : Int) == 0)) = true then
          0
        else
          if (((Int.tmod (IntKind.i64.wrap (Int.tdiv (x.Reg 0) 16)) 2) : Int) == 1) = true then
            (Int.tmod (x.Reg 0) 16)
          else
            x.Level
      else
        0
    else
      if (decide ((x.Length : Int) > 0)) = true then
        if (!(rMute x)) = true then
          if (!(((strAt ⟨#[49, 48, 48, 49, 49, 49, 49, 49]⟩ (Int.toNat x.Step)) : Int) == 49)) = true then
            0
          else
            if (((Int.tmod (IntKind.i64.wrap (Int.tdiv (x.Reg 0) 16)) 2) : Int) == 1) = true then
              (Int.tmod (x.Reg 0) 16)
            else
              x.Level
        else
          0
      else
        0
theorem rOut_3_p1 (x : RTone) (hg : Good x) (hd : (IntKind.i64.wrap (Int.tdiv (x.Reg 0) 64)) = 3) (c1 : ((x.Kind : Int) == 2) = true) (c2 : (decide ((x.Step : Int) < 16)) = true) : FnSpec Tryd.prog 36 1000 [RTone.enc x] [] (.int .i64 (IntKind.i64.wrap (15 - x.Step))) [] := by
  exact fn_of_x hG hM Tryd.func36 (by kernel_rfl) (by kernel_rfl) 400 [.group [1, 1, 4, 1, 1, 1, 1, 1, 1, 1, 1, 1, 1, 1], .yes, .yes] (And.intro c1 (And.intro c2 trivial)) (by kernel_rfl)
theorem rOut_3_p2 (x : RTone) (hg : Good x) (hd : (IntKind.i64.wrap (Int.tdiv (x.Reg 0) 64)) = 3) (c1 : ((x.Kind : Int) == 2) = true) (c2 : (decide ((x.Step : Int) < 16)) = false) : FnSpec Tryd.prog 36 1000 [RTone.enc x] [] (.int .i64 (IntKind.i64.wrap (x.Step - 16))) [] := by
  exact fn_of_x hG hM Tryd.func36 (by kernel_rfl) (by kernel_rfl) 400 [.group [1, 1, 4, 1, 1, 1, 1, 1, 1, 1, 1, 1, 1, 1], .yes, .no] (And.intro c1 (And.intro c2 trivial)) (by kernel_rfl)
theorem rOut_3_p3 (x : RTone) (hg : Good x) (hd : (IntKind.i64.wrap (Int.tdiv (x.Reg 0) 64)) = 3) (c1 : ((x.Kind : Int) == 2) = false) (c2 : ((x.Kind : Int) == 3) = true) (c3 : (decide ((x.Length : Int) > 0)) = true) (c4 : (!(((x.Row 0) : Int) == 0)) = true) : FnSpec Tryd.prog 36 1000 [RTone.enc x] [] (.int .i64 0) [] := by
  exact fn_of_x hG hM Tryd.func36 (by kernel_rfl) (by kernel_rfl) 400 [.group [1, 1, 4, 1, 1, 1, 1, 1, 1, 1, 1, 1, 1, 1], .no, .yes, .yes, .yes, .yes, .lit 0, .yes, .yes, .yes, .yes] (And.intro c1 (And.intro c2 (And.intro c3 (And.intro c3 (And.intro c3 (And.intro (Eq.refl true) (And.intro (Eq.refl (0 : Int)) (And.intro c3 (And.intro c3 (And.intro c3 (And.intro c4 trivial))))))))))) (by kernel_rfl)
theorem rOut_3_p4 (x : RTone) (hg : Good x) (hd : (IntKind.i64.wrap (Int.tdiv (x.Reg 0) 64)) = 3) (c1 : ((x.Kind : Int) == 2) = false) (c2 : ((x.Kind : Int) == 3) = true) (c3 : (decide ((x.Length : Int) > 0)) = true) (c4 : (!(((x.Row 0) : Int) == 0)) = false) (c5 : (((Int.tmod (IntKind.i64.wrap (Int.tdiv (x.Reg 0) 16)) 2) : Int) == 1) = true) : FnSpec Tryd.prog 36 1000 [RTone.enc x] [] (.int .i64 (Int.tmod (x.Reg 0) 16)) [] := by
  exact fn_of_x hG hM Tryd.func36 (by kernel_rfl) (by kernel_rfl) 400 [.group [1, 1, 4, 1, 1, 1, 1, 1, 1, 1, 1, 1, 1, 1], .no, .yes, .yes, .yes, .yes, .lit 0, .yes, .yes, .yes, .no, .lit 0, .yes, .lit 0] (And.intro c1 (And.intro c2 (And.intro c3 (And.intro c3 (And.intro c3 (And.intro (Eq.refl true) (And.intro (Eq.refl (0 : Int)) (And.intro c3 (And.intro c3 (And.intro c3 (And.intro c4 (And.intro (Eq.refl (0 : Int)) (And.intro (by decide : 0 < 4) (And.intro (by decide : ((16 : Int) ≠ 0)) (And.intro (by decide : ((2 : Int) ≠ 0)) (And.intro c5 (And.intro (Eq.refl (0 : Int)) (And.intro (by decide : 0 < 4) (And.intro (by decide : ((16 : Int) ≠ 0)) trivial))))))))))))))))))) (by kernel_rfl)
theorem rOut_3_p5 (x : RTone) (hg : Good x) (hd : (IntKind.i64.wrap (Int.tdiv (x.Reg 0) 64)) = 3) (c1 : ((x.Kind : Int) == 2) = false) (c2 : ((x.Kind : Int) == 3) = true) (c3 : (decide ((x.Length : Int) > 0)) = true) (c4 : (!(((x.Row 0) : Int) == 0)) = false) (c5 : (((Int.tmod (IntKind.i64.wrap (Int.tdiv (x.Reg 0) 16)) 2) : Int) == 1) = false) : FnSpec Tryd.prog 36 1000 [RTone.enc x] [] (.int .i64 x.Level) [] := by
  exact fn_of_x hG hM Tryd.func36 (by kernel_rfl) (by kernel_rfl) 400 [.group [1, 1, 4, 1, 1, 1, 1, 1, 1, 1, 1, 1, 1, 1], .no, .yes, .yes, .yes, .yes, .lit 0, .yes, .yes, .yes, .no, .lit 0, .no] (And.intro c1 (And.intro c2 (And.intro c3 (And.intro c3 (And.intro c3 (And.intro (Eq.refl true) (And.intro (Eq.refl (0 : Int)) (And.intro c3 (And.intro c3 (And.intro c3 (And.intro c4 (And.intro (Eq.refl (0 : Int)) (And.intro (by decide : 0 < 4) (And.intro (by decide : ((16 : Int) ≠ 0)) (And.intro (by decide : ((2 : Int) ≠ 0)) (And.intro c5 trivial)))))))))))))))) (by kernel_rfl)
theorem rOut_3_p6 (x : RTone) (hg : Good x) (hd : (IntKind.i64.wrap (Int.tdiv (x.Reg 0) 64)) = 3) (c1 : ((x.Kind : Int) == 2) = false) (c2 : ((x.Kind : Int) == 3) = true) (c3 : (decide ((x.Length : Int) > 0)) = false) : FnSpec Tryd.prog 36 1000 [RTone.enc x] [] (.int .i64 0) [] := by
  exact fn_of_x hG hM Tryd.func36 (by kernel_rfl) (by kernel_rfl) 400 [.group [1, 1, 4, 1, 1, 1, 1, 1, 1, 1, 1, 1, 1, 1], .no, .yes, .no, .no, .no, .no, .no, .no, .yes] (And.intro c1 (And.intro c2 (And.intro c3 (And.intro c3 (And.intro c3 (And.intro c3 (And.intro c3 (And.intro c3 (And.intro (Eq.refl true) trivial))))))))) (by kernel_rfl)
theorem rOut_3_p7 (x : RTone) (hg : Good x) (hd : (IntKind.i64.wrap (Int.tdiv (x.Reg 0) 64)) = 3) (c1 : ((x.Kind : Int) == 2) = false) (c2 : ((x.Kind : Int) == 3) = false) (c3 : (decide ((x.Length : Int) > 0)) = true) (c4 : (!(rMute x)) = true) (c5 : (!(((strAt ⟨#[49, 48, 48, 49, 49, 49, 49, 49]⟩ (Int.toNat x.Step)) : Int) == 49)) = true) : FnSpec Tryd.prog 36 1000 [RTone.enc x] [] (.int .i64 0) [] := by
  have o1 : (0 : Int) ≤ x.Step ∧ (x.Step : Int) < ((ByteArray.size ⟨#[49, 48, 48, 49, 49, 49, 49, 49]⟩ : Nat) : Int) := by first | decide | exact step8 hg (by assumption) rfl | omega | exact hg | exact ⟨hg.reg, hg.period, hg.step, hg.kind⟩ | exact Good.put hg _ | exact Good.len hg | exact Good.sweep hg _ | (have h0 := hg.reg 0; have h1 := hg.reg 1; have h2 := hg.reg 2; have h4 := hg.step; have t1 := Int.tdiv_eq_ediv_of_nonneg (b := 8) h1.1; have t2 := Int.tmod_eq_emod_of_nonneg (b := 16) h2.1; have t3 := Int.tdiv_eq_ediv_of_nonneg (b := 64) h0.1; simp only [decide_eq_true_eq, decide_eq_false_iff_not, t1, t2, t3, IntKind.wrap_i64] at *; omega)
  exact fn_of_x hG hM Tryd.func36 (by kernel_rfl) (by kernel_rfl) 400 [.group [1, 1, 4, 1, 1, 1, 1, 1, 1, 1, 1, 1, 1, 1], .no, .no, .lit 0, .eq 35 (.int .i64 3), .lit 3, .yes, .yes, .call [] [] 1000 (.bool (rMute x)) [], .yes, .yes, .yes, .yes, .yes, .yes, .yes, .yes, .yes] (And.intro c1 (And.intro c2 (And.intro (Eq.refl (0 : Int)) (And.intro (by decide : 0 < 4) (And.intro (congrArg (Value.int .i64) hd : Value.int .i64 (IntKind.i64.wrap (Int.tdiv (x.Reg 0) 64)) = Value.int .i64 3) (And.intro (by decide : ((64 : Int) ≠ 0)) (And.intro (Eq.refl (3 : Int)) (And.intro (by decide : 3 < 4) (And.intro c3 (And.intro c3 (And.intro (rMute_ok x hg) (And.intro c3 (And.intro c3 (And.intro c4 (And.intro c4 (And.intro c4 (And.intro c4 (And.intro o1 (And.intro c4 (And.intro c4 (And.intro c5 trivial))))))))))))))))))))) (by kernel_rfl)
theorem rOut_3_p8 (x : RTone) (hg : Good x) (hd : (IntKind.i64.wrap (Int.tdiv (x.Reg 0) 64)) = 3) (c1 : ((x.Kind : Int) == 2) = false) (c2 : ((x.Kind : Int) == 3) = false) (c3 : (decide ((x.Length : Int) > 0)) = true) (c4 : (!(rMute x)) = true) (c5 : (!(((strAt ⟨#[49, 48, 48, 49, 49, 49, 49, 49]⟩ (Int.toNat x.Step)) : Int) == 49)) = false) (c6 : (((Int.tmod (IntKind.i64.wrap (Int.tdiv (x.Reg 0) 16)) 2) : Int) == 1) = true) : FnSpec Tryd.prog 36 1000 [RTone.enc x] [] (.int .i64 (Int.tmod (x.Reg 0) 16)) [] := by
  have o1 : (0 : Int) ≤ x.Step ∧ (x.Step : Int) < ((ByteArray.size ⟨#[49, 48, 48, 49, 49, 49, 49, 49]⟩ : Nat) : Int) := by first | decide | exact step8 hg (by assumption) rfl | omega | exact hg | exact ⟨hg.reg, hg.period, hg.step, hg.kind⟩ | exact Good.put hg _ | exact Good.len hg | exact Good.sweep hg _ | (have h0 := hg.reg 0; have h1 := hg.reg 1; have h2 := hg.reg 2; have h4 := hg.step; have t1 := Int.tdiv_eq_ediv_of_nonneg (b := 8) h1.1; have t2 := Int.tmod_eq_emod_of_nonneg (b := 16) h2.1; have t3 := Int.tdiv_eq_ediv_of_nonneg (b := 64) h0.1; simp only [decide_eq_true_eq, decide_eq_false_iff_not, t1, t2, t3, IntKind.wrap_i64] at *; omega)
  exact fn_of_x hG hM Tryd.func36 (by kernel_rfl) (by kernel_rfl) 400 [.group [1, 1, 4, 1, 1, 1, 1, 1, 1, 1, 1, 1, 1, 1], .no, .no, .lit 0, .eq 35 (.int .i64 3), .lit 3, .yes, .yes, .call [] [] 1000 (.bool (rMute x)) [], .yes, .yes, .yes, .yes, .yes, .yes, .yes, .yes, .no, .lit 0, .yes, .lit 0] (And.intro c1 (And.intro c2 (And.intro (Eq.refl (0 : Int)) (And.intro (by decide : 0 < 4) (And.intro (congrArg (Value.int .i64) hd : Value.int .i64 (IntKind.i64.wrap (Int.tdiv (x.Reg 0) 64)) = Value.int .i64 3) (And.intro (by decide : ((64 : Int) ≠ 0)) (And.intro (Eq.refl (3 : Int)) (And.intro (by decide : 3 < 4) (And.intro c3 (And.intro c3 (And.intro (rMute_ok x hg) (And.intro c3 (And.intro c3 (And.intro c4 (And.intro c4 (And.intro c4 (And.intro c4 (And.intro o1 (And.intro c4 (And.intro c4 (And.intro c5 (And.intro (Eq.refl (0 : Int)) (And.intro (by decide : 0 < 4) (And.intro (by decide : ((16 : Int) ≠ 0)) (And.intro (by decide : ((2 : Int) ≠ 0)) (And.intro c6 (And.intro (Eq.refl (0 : Int)) (And.intro (by decide : 0 < 4) (And.intro (by decide : ((16 : Int) ≠ 0)) trivial))))))))))))))))))))))))))))) (by kernel_rfl)
theorem rOut_3_p9 (x : RTone) (hg : Good x) (hd : (IntKind.i64.wrap (Int.tdiv (x.Reg 0) 64)) = 3) (c1 : ((x.Kind : Int) == 2) = false) (c2 : ((x.Kind : Int) == 3) = false) (c3 : (decide ((x.Length : Int) > 0)) = true) (c4 : (!(rMute x)) = true) (c5 : (!(((strAt ⟨#[49, 48, 48, 49, 49, 49, 49, 49]⟩ (Int.toNat x.Step)) : Int) == 49)) = false) (c6 : (((Int.tmod (IntKind.i64.wrap (Int.tdiv (x.Reg 0) 16)) 2) : Int) == 1) = false) : FnSpec Tryd.prog 36 1000 [RTone.enc x] [] (.int .i64 x.Level) [] := by
  have o1 : (0 : Int) ≤ x.Step ∧ (x.Step : Int) < ((ByteArray.size ⟨#[49, 48, 48, 49, 49, 49, 49, 49]⟩ : Nat) : Int) := by first | decide | exact step8 hg (by assumption) rfl | omega | exact hg | exact ⟨hg.reg, hg.period, hg.step, hg.kind⟩ | exact Good.put hg _ | exact Good.len hg | exact Good.sweep hg _ | (have h0 := hg.reg 0; have h1 := hg.reg 1; have h2 := hg.reg 2; have h4 := hg.step; have t1 := Int.tdiv_eq_ediv_of_nonneg (b := 8) h1.1; have t2 := Int.tmod_eq_emod_of_nonneg (b := 16) h2.1; have t3 := Int.tdiv_eq_ediv_of_nonneg (b := 64) h0.1; simp only [decide_eq_true_eq, decide_eq_false_iff_not, t1, t2, t3, IntKind.wrap_i64] at *; omega)
  exact fn_of_x hG hM Tryd.func36 (by kernel_rfl) (by kernel_rfl) 400 [.group [1, 1, 4, 1, 1, 1, 1, 1, 1, 1, 1, 1, 1, 1], .no, .no, .lit 0, .eq 35 (.int .i64 3), .lit 3, .yes, .yes, .call [] [] 1000 (.bool (rMute x)) [], .yes, .yes, .yes, .yes, .yes, .yes, .yes, .yes, .no, .lit 0, .no] (And.intro c1 (And.intro c2 (And.intro (Eq.refl (0 : Int)) (And.intro (by decide : 0 < 4) (And.intro (congrArg (Value.int .i64) hd : Value.int .i64 (IntKind.i64.wrap (Int.tdiv (x.Reg 0) 64)) = Value.int .i64 3) (And.intro (by decide : ((64 : Int) ≠ 0)) (And.intro (Eq.refl (3 : Int)) (And.intro (by decide : 3 < 4) (And.intro c3 (And.intro c3 (And.intro (rMute_ok x hg) (And.intro c3 (And.intro c3 (And.intro c4 (And.intro c4 (And.intro c4 (And.intro c4 (And.intro o1 (And.intro c4 (And.intro c4 (And.intro c5 (And.intro (Eq.refl (0 : Int)) (And.intro (by decide : 0 < 4) (And.intro (by decide : ((16 : Int) ≠ 0)) (And.intro (by decide : ((2 : Int) ≠ 0)) (And.intro c6 trivial)))))))))))))))))))))))))) (by kernel_rfl)
theorem rOut_3_p10 (x : RTone) (hg : Good x) (hd : (IntKind.i64.wrap (Int.tdiv (x.Reg 0) 64)) = 3) (c1 : ((x.Kind : Int) == 2) = false) (c2 : ((x.Kind : Int) == 3) = false) (c3 : (decide ((x.Length : Int) > 0)) = true) (c4 : (!(rMute x)) = false) : FnSpec Tryd.prog 36 1000 [RTone.enc x] [] (.int .i64 0) [] := by
  exact fn_of_x hG hM Tryd.func36 (by kernel_rfl) (by kernel_rfl) 400 [.group [1, 1, 4, 1, 1, 1, 1, 1, 1, 1, 1, 1, 1, 1], .no, .no, .lit 0, .eq 35 (.int .i64 3), .lit 3, .yes, .yes, .call [] [] 1000 (.bool (rMute x)) [], .yes, .yes, .no, .no, .no, .no, .no, .no, .yes] (And.intro c1 (And.intro c2 (And.intro (Eq.refl (0 : Int)) (And.intro (by decide : 0 < 4) (And.intro (congrArg (Value.int .i64) hd : Value.int .i64 (IntKind.i64.wrap (Int.tdiv (x.Reg 0) 64)) = Value.int .i64 3) (And.intro (by decide : ((64 : Int) ≠ 0)) (And.intro (Eq.refl (3 : Int)) (And.intro (by decide : 3 < 4) (And.intro c3 (And.intro c3 (And.intro (rMute_ok x hg) (And.intro c3 (And.intro c3 (And.intro c4 (And.intro c4 (And.intro c4 (And.intro c4 (And.intro c4 (And.intro c4 (And.intro (Eq.refl true) trivial)))))))))))))))))))) (by kernel_rfl)
theorem rOut_3_p11 (x : RTone) (hg : Good x) (hd : (IntKind.i64.wrap (Int.tdiv (x.Reg 0) 64)) = 3) (c1 : ((x.Kind : Int) == 2) = false) (c2 : ((x.Kind : Int) == 3) = false) (c3 : (decide ((x.Length : Int) > 0)) = false) : FnSpec Tryd.prog 36 1000 [RTone.enc x] [] (.int .i64 0) [] := by
  exact fn_of_x hG hM Tryd.func36 (by kernel_rfl) (by kernel_rfl) 400 [.group [1, 1, 4, 1, 1, 1, 1, 1, 1, 1, 1, 1, 1, 1], .no, .no, .lit 0, .eq 35 (.int .i64 3), .lit 3, .no, .no, .no, .no, .no, .no, .no, .no, .no, .no, .yes] (And.intro c1 (And.intro c2 (And.intro (Eq.refl (0 : Int)) (And.intro (by decide : 0 < 4) (And.intro (congrArg (Value.int .i64) hd : Value.int .i64 (IntKind.i64.wrap (Int.tdiv (x.Reg 0) 64)) = Value.int .i64 3) (And.intro (by decide : ((64 : Int) ≠ 0)) (And.intro (Eq.refl (3 : Int)) (And.intro (by decide : 3 < 4) (And.intro c3 (And.intro c3 (And.intro c3 (And.intro c3 (And.intro (Eq.refl false) (And.intro (Eq.refl false) (And.intro (Eq.refl false) (And.intro (Eq.refl false) (And.intro (Eq.refl false) (And.intro (Eq.refl false) (And.intro (Eq.refl true) trivial))))))))))))))))))) (by kernel_rfl)
theorem rOut_3_ok (x : RTone) (hg : Good x) (hd : (IntKind.i64.wrap (Int.tdiv (x.Reg 0) 64)) = 3) : FnSpec Tryd.prog 36 1000 [RTone.enc x] [] (.int .i64 (rOut_3 x)) [] := by
  rcases bt ((x.Kind : Int) == 2) with c1 | c1
  ·
    rcases bt (decide ((x.Step : Int) < 16)) with c2 | c2
    ·
      have e : rOut_3 x = (IntKind.i64.wrap (15 - x.Step)) := by unfold rOut_3; rw [if_pos c1, if_pos c2]
      rw [e]
      exact rOut_3_p1 x hg hd c1 c2
    ·
      have e : rOut_3 x = (IntKind.i64.wrap (x.Step - 16)) := by unfold rOut_3; rw [if_pos c1, if_neg (nt c2)]
      rw [e]
      exact rOut_3_p2 x hg hd c1 c2
  ·
    rcases bt ((x.Kind : Int) == 3) with c2 | c2
    ·
      rcases bt (decide ((x.Length : Int) > 0)) with c3 | c3
      ·
        rcases bt (!(((x.Row 0) : Int) == 0)) with c4 | c4
        ·
          have e : rOut_3 x = 0 := by unfold rOut_3; rw [if_neg (nt c1), if_pos c2, if_pos c3, if_pos c4]
          rw [e]
          exact rOut_3_p3 x hg hd c1 c2 c3 c4
        ·
          rcases bt (((Int.tmod (IntKind.i64.wrap (Int.tdiv (x.Reg 0) 16)) 2) : Int) == 1) with c5 | c5
          ·
            have e : rOut_3 x = (Int.tmod (x.Reg 0) 16) := by unfold rOut_3; rw [if_neg (nt c1), if_pos c2, if_pos c3, if_neg (nt c4), if_pos c5]
            rw [e]
            exact rOut_3_p4 x hg hd c1 c2 c3 c4 c5
          ·
            have e : rOut_3 x = x.Level := by unfold rOut_3; rw [if_neg (nt c1), if_pos c2, if_pos c3, if_neg (nt c4), if_neg (nt c5)]
            rw [e]
            exact rOut_3_p5 x hg hd c1 c2 c3 c4 c5
      ·
        have e : rOut_3 x = 0 := by unfold rOut_3; rw [if_neg (nt c1), if_pos c2, if_neg (nt c3)]
        rw [e]
        exact rOut_3_p6 x hg hd c1 c2 c3
    ·
      rcases bt (decide ((x.Length : Int) > 0)) with c3 | c3
      ·
        rcases bt (!(rMute x)) with c4 | c4
        ·
          rcases bt (!(((strAt ⟨#[49, 48, 48, 49, 49, 49, 49, 49]⟩ (Int.toNat x.Step)) : Int) == 49)) with c5 | c5
          ·
            have e : rOut_3 x = 0 := by unfold rOut_3; rw [if_neg (nt c1), if_neg (nt c2), if_pos c3, if_pos c4, if_pos c5]
            rw [e]
            exact rOut_3_p7 x hg hd c1 c2 c3 c4 c5
          ·
            rcases bt (((Int.tmod (IntKind.i64.wrap (Int.tdiv (x.Reg 0) 16)) 2) : Int) == 1) with c6 | c6
            ·
              have e : rOut_3 x = (Int.tmod (x.Reg 0) 16) := by unfold rOut_3; rw [if_neg (nt c1), if_neg (nt c2), if_pos c3, if_pos c4, if_neg (nt c5), if_pos c6]
              rw [e]
              exact rOut_3_p8 x hg hd c1 c2 c3 c4 c5 c6
            ·
              have e : rOut_3 x = x.Level := by unfold rOut_3; rw [if_neg (nt c1), if_neg (nt c2), if_pos c3, if_pos c4, if_neg (nt c5), if_neg (nt c6)]
              rw [e]
              exact rOut_3_p9 x hg hd c1 c2 c3 c4 c5 c6
        ·
          have e : rOut_3 x = 0 := by unfold rOut_3; rw [if_neg (nt c1), if_neg (nt c2), if_pos c3, if_neg (nt c4)]
          rw [e]
          exact rOut_3_p10 x hg hd c1 c2 c3 c4
      ·
        have e : rOut_3 x = 0 := by unfold rOut_3; rw [if_neg (nt c1), if_neg (nt c2), if_neg (nt c3)]
        rw [e]
        exact rOut_3_p11 x hg hd c1 c2 c3

end Go.Proofs.YtngeghiaakkdbaaDoor
