/-
  The steps of a noise. Written by gen_tone.py. No condition.
-/
import Derived.Test.YtngeghiaakkdbaaDoorTA
namespace Go.Proofs.YtngeghiaakkdbaaDoor
open Go VX
set_option linter.unusedVariables false
set_option linter.unusedSimpArgs false
set_option maxRecDepth 100000

/-- kotatsu/kotatsulaw11.awake -/
def awake  : Bool :=
  if (((tOut tNew_2) : Int) == 15) = true then
    if (((tOut tNew_3) : Int) == 0) = true then
      true
    else
      false
  else
    false
theorem awake_p1  (c1 : (((tOut tNew_2) : Int) == 15) = true) (c2 : (((tOut tNew_3) : Int) == 0) = true) : FnSpec Tryd.prog 11 1000 [] [(0, ⟨[.ints .u16 16 noisesT], 60, true⟩), (1, ⟨[.ints .u8 4 dutiesT], 39, true⟩)] (.bool true) [] := by
  exact fn_of_x hG hM Tryd.func11 (by kernel_rfl) (by kernel_rfl) 400 [.call [] [(1000, 1000)] 1000 (.pointer (some ⟨1000, 0, none⟩)) [(1000, Tone.blk tNew_2)], .call [(1, 1), (1000, 1000)] [] 1001 (.int .u8 (tOut tNew_2)) [(1000, Tone.blk tNew_2)], .yes, .call [(0, 0)] [(1000, 1001)] 1000 (.pointer (some ⟨1000, 0, none⟩)) [(1000, Tone.blk tNew_3)], .yes, .call [(1, 1), (1001, 1000)] [] 1001 (.int .u8 (tOut tNew_3)) [(1000, Tone.blk tNew_3)], .yes, .yes, .yes, .call [] [] 1000 (.pointer none) [], .yes, .yes] (And.intro (tNew_2_ok) (And.intro (tOut_ok tNew_2 (tNew_2_w)) (And.intro c1 (And.intro (tNew_3_ok) (And.intro c1 (And.intro (tOut_ok tNew_3 (tNew_3_w)) (And.intro c1 (And.intro c1 (And.intro c2 (And.intro (tNew_4_ok) (And.intro c2 (And.intro c2 trivial)))))))))))) (by kernel_rfl)
theorem awake_p2  (c1 : (((tOut tNew_2) : Int) == 15) = true) (c2 : (((tOut tNew_3) : Int) == 0) = false) : FnSpec Tryd.prog 11 1000 [] [(0, ⟨[.ints .u16 16 noisesT], 60, true⟩), (1, ⟨[.ints .u8 4 dutiesT], 39, true⟩)] (.bool false) [] := by
  exact fn_of_x hG hM Tryd.func11 (by kernel_rfl) (by kernel_rfl) 400 [.call [] [(1000, 1000)] 1000 (.pointer (some ⟨1000, 0, none⟩)) [(1000, Tone.blk tNew_2)], .call [(1, 1), (1000, 1000)] [] 1001 (.int .u8 (tOut tNew_2)) [(1000, Tone.blk tNew_2)], .yes, .call [(0, 0)] [(1000, 1001)] 1000 (.pointer (some ⟨1000, 0, none⟩)) [(1000, Tone.blk tNew_3)], .yes, .call [(1, 1), (1001, 1000)] [] 1001 (.int .u8 (tOut tNew_3)) [(1000, Tone.blk tNew_3)], .yes, .yes, .no, .no, .no] (And.intro (tNew_2_ok) (And.intro (tOut_ok tNew_2 (tNew_2_w)) (And.intro c1 (And.intro (tNew_3_ok) (And.intro c1 (And.intro (tOut_ok tNew_3 (tNew_3_w)) (And.intro c1 (And.intro c1 (And.intro c2 (And.intro c2 (And.intro c2 trivial))))))))))) (by kernel_rfl)
theorem awake_p3  (c1 : (((tOut tNew_2) : Int) == 15) = false) : FnSpec Tryd.prog 11 1000 [] [(0, ⟨[.ints .u16 16 noisesT], 60, true⟩), (1, ⟨[.ints .u8 4 dutiesT], 39, true⟩)] (.bool false) [] := by
  exact fn_of_x hG hM Tryd.func11 (by kernel_rfl) (by kernel_rfl) 400 [.call [] [(1000, 1000)] 1000 (.pointer (some ⟨1000, 0, none⟩)) [(1000, Tone.blk tNew_2)], .call [(1, 1), (1000, 1000)] [] 1001 (.int .u8 (tOut tNew_2)) [(1000, Tone.blk tNew_2)], .no, .no, .no, .no, .no, .no, .no] (And.intro (tNew_2_ok) (And.intro (tOut_ok tNew_2 (tNew_2_w)) (And.intro c1 (And.intro c1 (And.intro c1 (And.intro c1 (And.intro (Eq.refl false) (And.intro (Eq.refl false) (And.intro (Eq.refl false) trivial))))))))) (by kernel_rfl)
theorem awake_ok  : FnSpec Tryd.prog 11 1000 [] [(0, ⟨[.ints .u16 16 noisesT], 60, true⟩), (1, ⟨[.ints .u8 4 dutiesT], 39, true⟩)] (.bool awake) [] := by
  rcases bt (((tOut tNew_2) : Int) == 15) with c1 | c1
  ·
    rcases bt (((tOut tNew_3) : Int) == 0) with c2 | c2
    ·
      have e : awake = true := by unfold awake; rw [if_pos c1, if_pos c2]
      rw [e]
      exact awake_p1  c1 c2
    ·
      have e : awake = false := by unfold awake; rw [if_pos c1, if_neg (nt c2)]
      rw [e]
      exact awake_p2  c1 c2
  ·
    have e : awake = false := by unfold awake; rw [if_neg (nt c1)]
    rw [e]
    exact awake_p3  c1

/-- a loop of kotatsu/kotatsulaw11.walk: one round -/
def lWalk_L1 (t : Tone) (n : Int) (xd : Int × Tone) : (Int × Tone) ⊕ (Int × Tone) :=
  if (decide ((xd.1 : Int) < (IntKind.i64.wrap (4 * n)))) = true then
    .inl ((IntKind.i64.wrap (xd.1 + 1)), (tClock xd.2))
  else
    .inr (xd.1, xd.2)
def lWalk_L1_T (t : Tone) (n : Int) (xd : Int × Tone) : Tm := [(0, .pointer (some ⟨1000, 0, none⟩)), (5, .int .i64 (IntKind.i64.wrap (4 * n))), (6, .int .i64 xd.1)]
def lWalk_L1_H (t : Tone) (n : Int) (xd : Int × Tone) : Heap := [(1000, ⟨[.one (.int .u8 xd.2.kind), .one (.bool xd.2.on), .ints .u8 4 xd.2.reg, .one (.int .u8 xd.2.length), .one (.int .u16 xd.2.period), .one (.int .u16 xd.2.timer), .one (.int .u8 xd.2.step), .one (.bool xd.2.begins), .one (.int .u8 xd.2.level), .one (.int .u8 xd.2.count), .one (.int .u8 xd.2.sweep), .one (.bool xd.2.swept), .one (.int .u8 xd.2.line), .one (.int .u16 xd.2.row)], 59, false⟩)]
def lWalk_L1_T1 (t : Tone) (n : Int) (r : Int × Tone) : Tm := lWalk_L1_T t n r
def lWalk_L1_H1 (t : Tone) (n : Int) (r : Int × Tone) : Heap := lWalk_L1_H t n r
def lWalk_L1_ex (_ : Int × Tone) : Ex := .exit 0
theorem lWalk_L1_p1 (t : Tone) (n : Int) (xd : Int × Tone) (d1 : (decide ((xd.1 : Int) < (IntKind.i64.wrap (4 * n)))) = true) : Runs Tryd.prog 11 (bodyOf Tryd.f16 [1, 0, 0]) (lWalk_L1_T t n xd) (lWalk_L1_H t n xd) 1001 .normal (lWalk_L1_T t n ((IntKind.i64.wrap (xd.1 + 1)), (tClock xd.2))) (lWalk_L1_H t n ((IntKind.i64.wrap (xd.1 + 1)), (tClock xd.2))) 1001 := by
  exact runs_of_x hG hM 400 [.yes, .call [(1000, 1000)] [] 1001 (.tuple ⟨[]⟩) [(1000, Tone.blk (tClock xd.2))]] (And.intro d1 (And.intro (tClock_ok xd.2) trivial)) (by kernel_rfl)
theorem lWalk_L1_p2 (t : Tone) (n : Int) (xd : Int × Tone) (d1 : (decide ((xd.1 : Int) < (IntKind.i64.wrap (4 * n)))) = false) : Runs Tryd.prog 11 (bodyOf Tryd.f16 [1, 0, 0]) (lWalk_L1_T t n xd) (lWalk_L1_H t n xd) 1001 (.exit 0) (lWalk_L1_T1 t n (xd.1, xd.2)) (lWalk_L1_H1 t n (xd.1, xd.2)) 1001 := by
  exact runs_of_x hG hM 400 [.no] (And.intro d1 trivial) (by kernel_rfl)
theorem lWalk_L1_runs (t : Tone) (n : Int) (k_ : Nat) (x_ : Int × Tone) (y_ : Int × Tone) (h_ : iter (lWalk_L1 t n) k_ x_ = some y_) : Runs Tryd.prog 11 (.block 0 (.loop (bodyOf Tryd.f16 [1, 0, 0]))) (lWalk_L1_T t n x_) (lWalk_L1_H t n x_) 1001 (outOf 0 (lWalk_L1_ex y_)) (lWalk_L1_T1 t n y_) (lWalk_L1_H1 t n y_) 1001 := by
  refine block_iter (lWalk_L1 t n) (lWalk_L1_T t n) (lWalk_L1_H t n) lWalk_L1_ex (lWalk_L1_T1 t n) (lWalk_L1_H1 t n) ?_ ?_ ?_ k_ x_ y_ h_
  · intro r hr; cases hr
  · intro xd y_ hx
    unfold lWalk_L1 at hx
    rcases bt (decide ((xd.1 : Int) < (IntKind.i64.wrap (4 * n)))) with d1 | d1
    · rw [if_pos d1] at hx
      cases hx; exact lWalk_L1_p1 t n xd d1
    · rw [if_neg (nt d1)] at hx
      cases hx
  · intro xd y_ hx
    unfold lWalk_L1 at hx
    rcases bt (decide ((xd.1 : Int) < (IntKind.i64.wrap (4 * n)))) with d1 | d1
    · rw [if_pos d1] at hx
      cases hx
    · rw [if_neg (nt d1)] at hx
      cases hx; exact lWalk_L1_p2 t n xd d1

theorem lWalk_p1 (t : Tone) (n : Int) (m1 : Nat) (r1 : Int × Tone) (l1 : iter (lWalk_L1 t n) m1 (0, t) = some r1) : FnSpec Tryd.prog 16 1001 [.pointer (some ⟨1000, 0, none⟩), .int .i64 n] [(1000, Tone.blk t)] (.tuple ⟨[]⟩) [(1000, Tone.blk r1.2)] := by
  exact fn_of_x hG hM Tryd.func16 (by kernel_rfl) (by kernel_rfl) 400 [.seg [0, 5, 6] [1000] .normal (lWalk_L1_T1 t n r1) (lWalk_L1_H1 t n r1) 1001] (And.intro (lWalk_L1_runs t n m1 (0, t) r1 l1) trivial) (by kernel_rfl)

end Go.Proofs.YtngeghiaakkdbaaDoor
