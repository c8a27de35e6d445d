/-
  The core: where it crosses a page, where it branches; what is wanted and done, by number. Written by gen_core.py. No condition.
-/
import Derived.Test.YtmnhmplcpijanaaGreatCC
namespace Go.Proofs.YtmnhmplcpijanaaGreat
open Go VX
set_option linter.unusedVariables false
set_option linter.unusedSimpArgs false
set_option maxRecDepth 100000

def hdW (l : List (Nat × Nat)) : Nat := (l.headD (0, 0)).1
def hdD (l : List (Nat × Nat)) : Nat := (l.headD (0, 0)).2
theorem cons_hd : ∀ {l : List (Nat × Nat)}, l ≠ [] → l = ((hdW l), (hdD l)) :: (List.tail l)
  | [], h => absurd rfl h
  | p :: r, _ => rfl

/-- (*kotatsu/core.Core).over -/
def c_over (c : Core) (b : Int) (more : Int) : Core :=
  if (((aKind (((c_whole c b).c).Op)) : Int) == 1) = true then
    if (((bOr .u16 (bAnd .u16 ((c_whole c b).at_) 65280) (IntKind.u16.wrap (IntKind.u8.wrap ((IntKind.u8.wrap ((c_whole c b).at_)) + more)))) : Int) == (IntKind.u16.wrap ((c_whole c b).at_ + (IntKind.u16.wrap more)))) = true then
      ({ (c_whole c b) with l := (List.tail ((c_whole c b).l)), at_ := (IntKind.u16.wrap ((c_whole c b).at_ + (IntKind.u16.wrap more))), near := (bOr .u16 (bAnd .u16 ((c_whole c b).at_) 65280) (IntKind.u16.wrap (IntKind.u8.wrap ((IntKind.u8.wrap ((c_whole c b).at_)) + more)))) } : Core)
    else
      ({ (c_whole c b) with at_ := (IntKind.u16.wrap ((c_whole c b).at_ + (IntKind.u16.wrap more))), near := (bOr .u16 (bAnd .u16 ((c_whole c b).at_) 65280) (IntKind.u16.wrap (IntKind.u8.wrap ((IntKind.u8.wrap ((c_whole c b).at_)) + more)))) } : Core)
  else
    ({ (c_whole c b) with at_ := (IntKind.u16.wrap ((c_whole c b).at_ + (IntKind.u16.wrap more))), near := (bOr .u16 (bAnd .u16 ((c_whole c b).at_) 65280) (IntKind.u16.wrap (IntKind.u8.wrap ((IntKind.u8.wrap ((c_whole c b).at_)) + more)))) } : Core)
theorem c_over_ok (c : Core) (b : Int) (more : Int) (hl : c.l ≠ []) : FnSpec Tryz.prog 118 1001 [.pointer (some ⟨1000, 0, none⟩), .int .u8 b, .int .u8 more] [(1000, Core.blk c)] (.tuple ⟨[]⟩) [(1000, Core.blk (c_over c b more))] := by
  unfold c_over
  rcases bt (((aKind (((c_whole c b).c).Op)) : Int) == 1) with c1 | c1
  · rw [if_pos c1]
    rcases bt (((bOr .u16 (bAnd .u16 ((c_whole c b).at_) 65280) (IntKind.u16.wrap (IntKind.u8.wrap ((IntKind.u8.wrap ((c_whole c b).at_)) + more)))) : Int) == (IntKind.u16.wrap ((c_whole c b).at_ + (IntKind.u16.wrap more)))) with c2 | c2
    · rw [if_pos c2]
      exact fn_of_x hG hM Tryz.func118 (by kernel_rfl) (by kernel_rfl) 400 [.call [(1000, 1000)] [] 1001 (.tuple ⟨[]⟩) [(1000, Core.blk (c_whole c b))], .call [] [] 1000 (.int .u8 (aKind (((c_whole c b).c).Op))) [], .yes, .yes, .yes, .yes, .yes, .yes, .yes, .yes, .yes, .yes, .yes, .eq 57 (cycV (((hdW ((c_whole c b).l)), (hdD ((c_whole c b).l))) :: (List.tail ((c_whole c b).l)))), .cutT 1] (J (c_whole_ok c b) (J (aKind_ok (((c_whole c b).c).Op)) (J c1 (J c1 (J c1 (J c1 (J c1 (J c1 (J c1 (J c1 (J c1 (J c1 (J c2 (J (congrArg cycV (cons_hd (l := (c_whole c b).l) hl) : cycV ((c_whole c b).l) = cycV (((hdW ((c_whole c b).l)), (hdD ((c_whole c b).l))) :: (List.tail ((c_whole c b).l)))) (J (Eq.refl true) (J (cyc2 (hdW ((c_whole c b).l)) (hdD ((c_whole c b).l)) (List.tail ((c_whole c b).l))) (J (Eq.refl (1 : Int)) trivial))))))))))))))))) (by kernel_rfl)
    · rw [if_neg (nt c2)]
      exact fn_of_x hG hM Tryz.func118 (by kernel_rfl) (by kernel_rfl) 400 [.call [(1000, 1000)] [] 1001 (.tuple ⟨[]⟩) [(1000, Core.blk (c_whole c b))], .call [] [] 1000 (.int .u8 (aKind (((c_whole c b).c).Op))) [], .yes, .yes, .yes, .yes, .yes, .yes, .yes, .yes, .yes, .yes, .no] (J (c_whole_ok c b) (J (aKind_ok (((c_whole c b).c).Op)) (J c1 (J c1 (J c1 (J c1 (J c1 (J c1 (J c1 (J c1 (J c1 (J c1 (J c2 trivial))))))))))))) (by kernel_rfl)
  · rw [if_neg (nt c1)]
    exact fn_of_x hG hM Tryz.func118 (by kernel_rfl) (by kernel_rfl) 400 [.call [(1000, 1000)] [] 1001 (.tuple ⟨[]⟩) [(1000, Core.blk (c_whole c b))], .call [] [] 1000 (.int .u8 (aKind (((c_whole c b).c).Op))) [], .no, .no, .no, .no, .no, .no, .no, .no, .no, .no, .no] (J (c_whole_ok c b) (J (aKind_ok (((c_whole c b).c).Op)) (J c1 (J c1 (J c1 (J c1 (J c1 (J c1 (J c1 (J c1 (J c1 (J c1 (J (Eq.refl false) trivial))))))))))))) (by kernel_rfl)

theorem c_over_w (c : Core) (b : Int) (more : Int) (w_c : Core.ok c) (w_b : rng 256 b) (w_more : rng 256 more) (hl : c.l ≠ []) : Core.ok (c_over c b more) := by
  unfold c_over
  rcases bt (((aKind (((c_whole c b).c).Op)) : Int) == 1) with c1 | c1
  · rw [if_pos c1]
    rcases bt (((bOr .u16 (bAnd .u16 ((c_whole c b).at_) 65280) (IntKind.u16.wrap (IntKind.u8.wrap ((IntKind.u8.wrap ((c_whole c b).at_)) + more)))) : Int) == (IntKind.u16.wrap ((c_whole c b).at_ + (IntKind.u16.wrap more)))) with c2 | c2
    · rw [if_pos c2]
      exact (⟨(c_whole_w c b w_c w_b).r, (c_whole_w c b w_c w_b).was, (c_whole_w c b w_c w_b).c, (rng_wrap_u16 ((c_whole c b).at_ + (IntKind.u16.wrap more))), (rng_bOr_u16 (bAnd .u16 ((c_whole c b).at_) 65280) (IntKind.u16.wrap (IntKind.u8.wrap ((IntKind.u8.wrap ((c_whole c b).at_)) + more)))), (c_whole_w c b w_c w_b).vector, (c_whole_w c b w_c w_b).low, (c_whole_w c b w_c w_b).m⟩ : Core.ok ({ (c_whole c b) with l := (List.tail ((c_whole c b).l)), at_ := (IntKind.u16.wrap ((c_whole c b).at_ + (IntKind.u16.wrap more))), near := (bOr .u16 (bAnd .u16 ((c_whole c b).at_) 65280) (IntKind.u16.wrap (IntKind.u8.wrap ((IntKind.u8.wrap ((c_whole c b).at_)) + more)))) } : Core))
    · rw [if_neg (nt c2)]
      exact (⟨(c_whole_w c b w_c w_b).r, (c_whole_w c b w_c w_b).was, (c_whole_w c b w_c w_b).c, (rng_wrap_u16 ((c_whole c b).at_ + (IntKind.u16.wrap more))), (rng_bOr_u16 (bAnd .u16 ((c_whole c b).at_) 65280) (IntKind.u16.wrap (IntKind.u8.wrap ((IntKind.u8.wrap ((c_whole c b).at_)) + more)))), (c_whole_w c b w_c w_b).vector, (c_whole_w c b w_c w_b).low, (c_whole_w c b w_c w_b).m⟩ : Core.ok ({ (c_whole c b) with at_ := (IntKind.u16.wrap ((c_whole c b).at_ + (IntKind.u16.wrap more))), near := (bOr .u16 (bAnd .u16 ((c_whole c b).at_) 65280) (IntKind.u16.wrap (IntKind.u8.wrap ((IntKind.u8.wrap ((c_whole c b).at_)) + more)))) } : Core))
  · rw [if_neg (nt c1)]
    exact (⟨(c_whole_w c b w_c w_b).r, (c_whole_w c b w_c w_b).was, (c_whole_w c b w_c w_b).c, (rng_wrap_u16 ((c_whole c b).at_ + (IntKind.u16.wrap more))), (rng_bOr_u16 (bAnd .u16 ((c_whole c b).at_) 65280) (IntKind.u16.wrap (IntKind.u8.wrap ((IntKind.u8.wrap ((c_whole c b).at_)) + more)))), (c_whole_w c b w_c w_b).vector, (c_whole_w c b w_c w_b).low, (c_whole_w c b w_c w_b).m⟩ : Core.ok ({ (c_whole c b) with at_ := (IntKind.u16.wrap ((c_whole c b).at_ + (IntKind.u16.wrap more))), near := (bOr .u16 (bAnd .u16 ((c_whole c b).at_) 65280) (IntKind.u16.wrap (IntKind.u8.wrap ((IntKind.u8.wrap ((c_whole c b).at_)) + more)))) } : Core))

/-- (*kotatsu/core.Core).overX -/
def c_overX (c : Core) (b : Int) : Core :=
  (c_over ({ c with r := ({ c.r with PC := (IntKind.u16.wrap (c.r.PC + 1)) } : Regs) } : Core) b c.r.U.X)
theorem c_overX_ok (c : Core) (b : Int) (hl : c.l ≠ []) : FnSpec Tryz.prog 82 1001 [.pointer (some ⟨1000, 0, none⟩), .int .u8 b] [(1000, Core.blk c)] (.tuple ⟨[]⟩) [(1000, Core.blk (c_overX c b))] := by
  unfold c_overX
  exact fn_of_x hG hM Tryz.func82 (by kernel_rfl) (by kernel_rfl) 400 [.call [(1000, 1000)] [] 1001 (.tuple ⟨[]⟩) [(1000, Core.blk (c_over ({ c with r := ({ c.r with PC := (IntKind.u16.wrap (c.r.PC + 1)) } : Regs) } : Core) b c.r.U.X))]] (J (c_over_ok ({ c with r := ({ c.r with PC := (IntKind.u16.wrap (c.r.PC + 1)) } : Regs) } : Core) b c.r.U.X hl) trivial) (by kernel_rfl)

theorem c_overX_w (c : Core) (b : Int) (w_c : Core.ok c) (w_b : rng 256 b) (hl : c.l ≠ []) : Core.ok (c_overX c b) := by
  unfold c_overX
  exact (c_over_w ({ c with r := ({ c.r with PC := (IntKind.u16.wrap (c.r.PC + 1)) } : Regs) } : Core) b c.r.U.X (⟨(⟨w_c.r.U, (rng_wrap_u16 (c.r.PC + 1))⟩ : Regs.ok ({ c.r with PC := (IntKind.u16.wrap (c.r.PC + 1)) } : Regs)), w_c.was, w_c.c, w_c.at_, w_c.near, w_c.vector, w_c.low, w_c.m⟩ : Core.ok ({ c with r := ({ c.r with PC := (IntKind.u16.wrap (c.r.PC + 1)) } : Regs) } : Core)) w_b w_c.r.U.X hl)

/-- (*kotatsu/core.Core).overY -/
def c_overY (c : Core) (b : Int) : Core :=
  (c_over ({ c with r := ({ c.r with PC := (IntKind.u16.wrap (c.r.PC + 1)) } : Regs) } : Core) b c.r.U.Y)
theorem c_overY_ok (c : Core) (b : Int) (hl : c.l ≠ []) : FnSpec Tryz.prog 84 1001 [.pointer (some ⟨1000, 0, none⟩), .int .u8 b] [(1000, Core.blk c)] (.tuple ⟨[]⟩) [(1000, Core.blk (c_overY c b))] := by
  unfold c_overY
  exact fn_of_x hG hM Tryz.func84 (by kernel_rfl) (by kernel_rfl) 400 [.call [(1000, 1000)] [] 1001 (.tuple ⟨[]⟩) [(1000, Core.blk (c_over ({ c with r := ({ c.r with PC := (IntKind.u16.wrap (c.r.PC + 1)) } : Regs) } : Core) b c.r.U.Y))]] (J (c_over_ok ({ c with r := ({ c.r with PC := (IntKind.u16.wrap (c.r.PC + 1)) } : Regs) } : Core) b c.r.U.Y hl) trivial) (by kernel_rfl)

theorem c_overY_w (c : Core) (b : Int) (w_c : Core.ok c) (w_b : rng 256 b) (hl : c.l ≠ []) : Core.ok (c_overY c b) := by
  unfold c_overY
  exact (c_over_w ({ c with r := ({ c.r with PC := (IntKind.u16.wrap (c.r.PC + 1)) } : Regs) } : Core) b c.r.U.Y (⟨(⟨w_c.r.U, (rng_wrap_u16 (c.r.PC + 1))⟩ : Regs.ok ({ c.r with PC := (IntKind.u16.wrap (c.r.PC + 1)) } : Regs)), w_c.was, w_c.c, w_c.at_, w_c.near, w_c.vector, w_c.low, w_c.m⟩ : Core.ok ({ c with r := ({ c.r with PC := (IntKind.u16.wrap (c.r.PC + 1)) } : Regs) } : Core)) w_b w_c.r.U.Y hl)

/-- (*kotatsu/core.Core).reach -/
def c_reach (c : Core) (b : Int) : Core :=
  (c_over c b c.r.U.Y)
theorem c_reach_ok (c : Core) (b : Int) (hl : c.l ≠ []) : FnSpec Tryz.prog 92 1001 [.pointer (some ⟨1000, 0, none⟩), .int .u8 b] [(1000, Core.blk c)] (.tuple ⟨[]⟩) [(1000, Core.blk (c_reach c b))] := by
  unfold c_reach
  exact fn_of_x hG hM Tryz.func92 (by kernel_rfl) (by kernel_rfl) 400 [.call [(1000, 1000)] [] 1001 (.tuple ⟨[]⟩) [(1000, Core.blk (c_over c b c.r.U.Y))]] (J (c_over_ok c b c.r.U.Y hl) trivial) (by kernel_rfl)

theorem c_reach_w (c : Core) (b : Int) (w_c : Core.ok c) (w_b : rng 256 b) (hl : c.l ≠ []) : Core.ok (c_reach c b) := by
  unfold c_reach
  exact (c_over_w c b c.r.U.Y w_c w_b w_c.r.U.Y hl)

/-- (*kotatsu/core.Core).turn -/
def c_turn (c : Core) (b : Int) : Core :=
  if (((bOr .u16 (bAnd .u16 c.r.PC 65280) (bAndNot .u16 (IntKind.u16.wrap (c.r.PC + (IntKind.u16.wrap (IntKind.i8.wrap c.m)))) 65280)) : Int) == (IntKind.u16.wrap (c.r.PC + (IntKind.u16.wrap (IntKind.i8.wrap c.m))))) = true then
    ({ c with r := ({ c.r with PC := (IntKind.u16.wrap (c.r.PC + (IntKind.u16.wrap (IntKind.i8.wrap c.m)))) } : Regs), at_ := (IntKind.u16.wrap (c.r.PC + (IntKind.u16.wrap (IntKind.i8.wrap c.m)))), near := (bOr .u16 (bAnd .u16 c.r.PC 65280) (bAndNot .u16 (IntKind.u16.wrap (c.r.PC + (IntKind.u16.wrap (IntKind.i8.wrap c.m)))) 65280)) } : Core)
  else
    ({ c with l := [(85, 135)], at_ := (IntKind.u16.wrap (c.r.PC + (IntKind.u16.wrap (IntKind.i8.wrap c.m)))), near := (bOr .u16 (bAnd .u16 c.r.PC 65280) (bAndNot .u16 (IntKind.u16.wrap (c.r.PC + (IntKind.u16.wrap (IntKind.i8.wrap c.m)))) 65280)) } : Core)
theorem c_turn_ok (c : Core) (b : Int) : FnSpec Tryz.prog 119 1001 [.pointer (some ⟨1000, 0, none⟩), .int .u8 b] [(1000, Core.blk c)] (.tuple ⟨[]⟩) [(1000, Core.blk (c_turn c b))] := by
  unfold c_turn
  rcases bt (((bOr .u16 (bAnd .u16 c.r.PC 65280) (bAndNot .u16 (IntKind.u16.wrap (c.r.PC + (IntKind.u16.wrap (IntKind.i8.wrap c.m)))) 65280)) : Int) == (IntKind.u16.wrap (c.r.PC + (IntKind.u16.wrap (IntKind.i8.wrap c.m))))) with c1 | c1
  · rw [if_pos c1]
    exact fn_of_x hG hM Tryz.func119 (by kernel_rfl) (by kernel_rfl) 400 [.yes] (J c1 trivial) (by kernel_rfl)
  · rw [if_neg (nt c1)]
    exact fn_of_x hG hM Tryz.func119 (by kernel_rfl) (by kernel_rfl) 400 [.no, .born] (J c1 trivial) (by kernel_rfl)

theorem c_turn_w (c : Core) (b : Int) (w_c : Core.ok c) (w_b : rng 256 b) : Core.ok (c_turn c b) := by
  unfold c_turn
  rcases bt (((bOr .u16 (bAnd .u16 c.r.PC 65280) (bAndNot .u16 (IntKind.u16.wrap (c.r.PC + (IntKind.u16.wrap (IntKind.i8.wrap c.m)))) 65280)) : Int) == (IntKind.u16.wrap (c.r.PC + (IntKind.u16.wrap (IntKind.i8.wrap c.m))))) with c1 | c1
  · rw [if_pos c1]
    exact (⟨(⟨w_c.r.U, (rng_wrap_u16 (c.r.PC + (IntKind.u16.wrap (IntKind.i8.wrap c.m))))⟩ : Regs.ok ({ c.r with PC := (IntKind.u16.wrap (c.r.PC + (IntKind.u16.wrap (IntKind.i8.wrap c.m)))) } : Regs)), w_c.was, w_c.c, (rng_wrap_u16 (c.r.PC + (IntKind.u16.wrap (IntKind.i8.wrap c.m)))), (rng_bOr_u16 (bAnd .u16 c.r.PC 65280) (bAndNot .u16 (IntKind.u16.wrap (c.r.PC + (IntKind.u16.wrap (IntKind.i8.wrap c.m)))) 65280)), w_c.vector, w_c.low, w_c.m⟩ : Core.ok ({ c with r := ({ c.r with PC := (IntKind.u16.wrap (c.r.PC + (IntKind.u16.wrap (IntKind.i8.wrap c.m)))) } : Regs), at_ := (IntKind.u16.wrap (c.r.PC + (IntKind.u16.wrap (IntKind.i8.wrap c.m)))), near := (bOr .u16 (bAnd .u16 c.r.PC 65280) (bAndNot .u16 (IntKind.u16.wrap (c.r.PC + (IntKind.u16.wrap (IntKind.i8.wrap c.m)))) 65280)) } : Core))
  · rw [if_neg (nt c1)]
    exact (⟨w_c.r, w_c.was, w_c.c, (rng_wrap_u16 (c.r.PC + (IntKind.u16.wrap (IntKind.i8.wrap c.m)))), (rng_bOr_u16 (bAnd .u16 c.r.PC 65280) (bAndNot .u16 (IntKind.u16.wrap (c.r.PC + (IntKind.u16.wrap (IntKind.i8.wrap c.m)))) 65280)), w_c.vector, w_c.low, w_c.m⟩ : Core.ok ({ c with l := [(85, 135)], at_ := (IntKind.u16.wrap (c.r.PC + (IntKind.u16.wrap (IntKind.i8.wrap c.m)))), near := (bOr .u16 (bAnd .u16 c.r.PC 65280) (bAndNot .u16 (IntKind.u16.wrap (c.r.PC + (IntKind.u16.wrap (IntKind.i8.wrap c.m)))) 65280)) } : Core))

/-- (*kotatsu/core.Core).branch -/
def c_branch (c : Core) (b : Int) : Core :=
  if (!(uTakes c.r.U c.c.Op)) = true then
    ({ c with r := ({ c.r with PC := (IntKind.u16.wrap (c.r.PC + 1)) } : Regs) } : Core)
  else
    ({ c with r := ({ c.r with PC := (IntKind.u16.wrap (c.r.PC + 1)) } : Regs), l := [(38, 119)], m := b } : Core)
theorem c_branch_ok (c : Core) (b : Int) (w_c : Core.ok c) : FnSpec Tryz.prog 94 1001 [.pointer (some ⟨1000, 0, none⟩), .int .u8 b] [(1000, Core.blk c)] (.tuple ⟨[]⟩) [(1000, Core.blk (c_branch c b))] := by
  unfold c_branch
  rcases bt (!(uTakes c.r.U c.c.Op)) with c1 | c1
  · rw [if_pos c1]
    exact fn_of_x hG hM Tryz.func94 (by kernel_rfl) (by kernel_rfl) 400 [.call [] [] 1000 (.bool (uTakes c.r.U c.c.Op)) [], .yes] (J (uTakes_ok c.r.U c.c.Op (show 0 ≤ c.c.Op ∧ c.c.Op < 256 from w_c.c.Op)) (J c1 trivial)) (by kernel_rfl)
  · rw [if_neg (nt c1)]
    exact fn_of_x hG hM Tryz.func94 (by kernel_rfl) (by kernel_rfl) 400 [.call [] [] 1000 (.bool (uTakes c.r.U c.c.Op)) [], .no, .born] (J (uTakes_ok c.r.U c.c.Op (show 0 ≤ c.c.Op ∧ c.c.Op < 256 from w_c.c.Op)) (J c1 trivial)) (by kernel_rfl)

theorem c_branch_w (c : Core) (b : Int) (w_c : Core.ok c) (w_b : rng 256 b) : Core.ok (c_branch c b) := by
  unfold c_branch
  rcases bt (!(uTakes c.r.U c.c.Op)) with c1 | c1
  · rw [if_pos c1]
    exact (⟨(⟨w_c.r.U, (rng_wrap_u16 (c.r.PC + 1))⟩ : Regs.ok ({ c.r with PC := (IntKind.u16.wrap (c.r.PC + 1)) } : Regs)), w_c.was, w_c.c, w_c.at_, w_c.near, w_c.vector, w_c.low, w_c.m⟩ : Core.ok ({ c with r := ({ c.r with PC := (IntKind.u16.wrap (c.r.PC + 1)) } : Regs) } : Core))
  · rw [if_neg (nt c1)]
    exact (⟨(⟨w_c.r.U, (rng_wrap_u16 (c.r.PC + 1))⟩ : Regs.ok ({ c.r with PC := (IntKind.u16.wrap (c.r.PC + 1)) } : Regs)), w_c.was, w_c.c, w_c.at_, w_c.near, w_c.vector, w_c.low, w_b⟩ : Core.ok ({ c with r := ({ c.r with PC := (IntKind.u16.wrap (c.r.PC + 1)) } : Regs), l := [(38, 119)], m := b } : Core))

end Go.Proofs.YtmnhmplcpijanaaGreat
