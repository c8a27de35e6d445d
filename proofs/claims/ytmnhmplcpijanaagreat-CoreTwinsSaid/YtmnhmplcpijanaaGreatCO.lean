/-
  A cycle with a memory. Written by gen_core.py. No condition.
-/
import Derived.Test.YtmnhmplcpijanaaGreatCM
namespace Go.Proofs.YtmnhmplcpijanaaGreat
open Go VX
set_option linter.unusedVariables false
set_option linter.unusedSimpArgs false
set_option maxRecDepth 100000

theorem i64_pos {x : Int} (h : rng 65536 x) : 0 ≤ IntKind.i64.wrap x := by rw [IntKind.wrap_i64]; obtain ⟨h1, h2⟩ := h; omega
theorem want_w (w : Nat) (c : Core) (h : Core.ok c) (hw : w ∈ wants) : Acc.ok (wantF w c) := by
  simp only [wants, List.mem_cons, List.not_mem_nil, or_false] at hw
  rcases hw with rfl | rfl | rfl | rfl | rfl | rfl | rfl | rfl | rfl | rfl | rfl | rfl | rfl
  · exact c_atPC_w c h
  · exact c_atStack_w c h
  · exact c_atPlace_w c h
  · exact c_atNear_w c h
  · exact c_atVector_w c h
  · exact c_atEnd_w c h
  · exact c_putHigh_w c h
  · exact c_putLow_w c h
  · exact c_putFlags_w c h
  · exact c_putBroken_w c h
  · exact c_putA_w c h
  · exact c_putM_w c h
  · exact c_putStore_w c h
theorem c_Wants_w (c : Core) (hv : Inv c) : Acc.ok (c_Wants c) := want_w _ c hv.ok hv.hw

theorem clockF_w (c : Core) (b : Int) (irq nmi : Bool) (w_b : rng 256 b) (hv : Inv c) : Core.ok (clockF c b irq nmi) := (inv_clock hv w_b irq nmi).ok

/-- kotatsu/kotatsulaw10.cycle -/
def cycleF (c : Core) (m_P : List Int) (m_L : List RAcc) (irq : Bool) (nmi : Bool) : Core × (List RAcc) × Acc :=
  if (c_Wants c).Put = true then
    ((clockF c 0 irq nmi), (putF m_P m_L (IntKind.i64.wrap ((c_Wants c).At)) (IntKind.i64.wrap ((c_Wants c).B))), (c_Wants c))
  else
    ((clockF c (IntKind.u8.wrap (getF m_P m_L (IntKind.i64.wrap ((c_Wants c).At)))) irq nmi), m_L, (c_Wants c))
theorem cycleF_ok (c : Core) (m_P : List Int) (m_L : List RAcc) (irq : Bool) (nmi : Bool) (hv : Inv c) (hL : (List.length m_L) + 1 ≤ 1048576) : FnSpec Tryz.prog 18 1004 [.pointer (some ⟨1000, 0, none⟩), .pointer (some ⟨1001, 0, none⟩), .bool irq, .bool nmi] [(1000, (Core.blk c)), (1001, ⟨[.one (.slice (some ⟨1002, 0, (some 0)⟩) (List.length m_P) 1), .one (.slice (some ⟨1003, 0, (some 0)⟩) (List.length m_L) 3)], 33, false⟩), (1002, ⟨[intsL .u8 m_P], 5, true⟩), (1003, ⟨[rowsL RAcc.cells RAcc.nil 3 m_L], 47, false⟩)] (Acc.enc ((cycleF c m_P m_L irq nmi).2.2)) [(1000, Core.blk ((cycleF c m_P m_L irq nmi).1)), (1001, ⟨[.one (.slice (some ⟨1002, 0, (some 0)⟩) (List.length m_P) 1), .one (.slice (some ⟨1004, 0, (some 0)⟩) (List.length ((cycleF c m_P m_L irq nmi).2.1)) 3)], 33, false⟩), (1004, ⟨[rowsL RAcc.cells RAcc.nil 3 ((cycleF c m_P m_L irq nmi).2.1)], 47, false⟩)] := by
  unfold cycleF
  rcases bt ((c_Wants c).Put) with c1 | c1
  · rw [if_pos c1]
    exact fn_ren (v := .agg ⟨[.int .u16 ((c_Wants c).At), .bool ((c_Wants c).Put), .int .u8 ((c_Wants c).B)]⟩) (H1 := [(1000, (Core.blk (clockF c 0 irq nmi))), (1001, ⟨[.one (.slice (some ⟨1002, 0, (some 0)⟩) (List.length m_P) 1), .one (.slice (some ⟨1006, 0, (some 0)⟩) (List.length (putF m_P m_L (IntKind.i64.wrap ((c_Wants c).At)) (IntKind.i64.wrap ((c_Wants c).B)))) 3)], 33, false⟩), (1006, ⟨[rowsL RAcc.cells RAcc.nil 3 (putF m_P m_L (IntKind.i64.wrap ((c_Wants c).At)) (IntKind.i64.wrap ((c_Wants c).B)))], 47, false⟩)]) (fn_of_x hG hM Tryz.func18 (by kernel_rfl) (by kernel_rfl) 400 [.call [(1000, 1000)] [] 1001 (Acc.enc (c_Wants c)) [(1000, Core.blk c)], .yes, .call [(1001, 1000), (1002, 1001), (1003, 1002)] [(1003, 1006)] 1003 (.tuple ⟨[]⟩) [(1000, ⟨[.one (.slice (some ⟨1001, 0, (some 0)⟩) (List.length m_P) 1), .one (.slice (some ⟨1003, 0, (some 0)⟩) (List.length (putF m_P m_L (IntKind.i64.wrap ((c_Wants c).At)) (IntKind.i64.wrap ((c_Wants c).B)))) 3)], 33, false⟩), (1003, ⟨[rowsL RAcc.cells RAcc.nil 3 (putF m_P m_L (IntKind.i64.wrap ((c_Wants c).At)) (IntKind.i64.wrap ((c_Wants c).B)))], 47, false⟩)], .call [(1000, 1000)] [] 1001 (.tuple ⟨[]⟩) [(1000, Core.blk (clockF c 0 irq nmi))]] (J (c_Wants_ok c (Inv.ne hv) (Inv.hw hv)) (J c1 (J (putF_ok m_P m_L (IntKind.i64.wrap ((c_Wants c).At)) (IntKind.i64.wrap ((c_Wants c).B)) hL) (J (clockF_ok c 0 irq nmi (by decide : rng 256 0) hv) trivial)))) (by kernel_rfl)) [(1000, 1000), (1001, 1001), (1002, 1002), (1006, 1004)] 1005 (by kernel_rfl)
  · rw [if_neg (nt c1)]
    exact fn_ren (v := .agg ⟨[.int .u16 ((c_Wants c).At), .bool ((c_Wants c).Put), .int .u8 ((c_Wants c).B)]⟩) (H1 := [(1000, (Core.blk (clockF c (IntKind.u8.wrap (getF m_P m_L (IntKind.i64.wrap ((c_Wants c).At)))) irq nmi))), (1001, ⟨[.one (.slice (some ⟨1002, 0, (some 0)⟩) (List.length m_P) 1), .one (.slice (some ⟨1003, 0, (some 0)⟩) (List.length m_L) 3)], 33, false⟩), (1003, ⟨[rowsL RAcc.cells RAcc.nil 3 m_L], 47, false⟩)]) (fn_of_x hG hM Tryz.func18 (by kernel_rfl) (by kernel_rfl) 400 [.call [(1000, 1000)] [] 1001 (Acc.enc (c_Wants c)) [(1000, Core.blk c)], .no, .callr [(1001, 1000), (1002, 1001), (1003, 1002)] [1001, 1003] [] 1003 (.int .i64 (getF m_P m_L (IntKind.i64.wrap ((c_Wants c).At)))) [], .call [(1000, 1000)] [] 1001 (.tuple ⟨[]⟩) [(1000, Core.blk (clockF c (IntKind.u8.wrap (getF m_P m_L (IntKind.i64.wrap ((c_Wants c).At)))) irq nmi))]] (J (c_Wants_ok c (Inv.ne hv) (Inv.hw hv)) (J c1 (J (getF_ok m_P m_L (IntKind.i64.wrap ((c_Wants c).At)) (show 0 ≤ (IntKind.i64.wrap ((c_Wants c).At)) from i64_pos ((c_Wants_w c hv).At)) (show (List.length m_L) ≤ 1048576 from by have q_ := hL; omega)) (J (clockF_ok c (IntKind.u8.wrap (getF m_P m_L (IntKind.i64.wrap ((c_Wants c).At)))) irq nmi (rng_wrap_u8 (getF m_P m_L (IntKind.i64.wrap ((c_Wants c).At)))) hv) trivial)))) (by kernel_rfl)) [(1000, 1000), (1001, 1001), (1002, 1002), (1003, 1004)] 1005 (by kernel_rfl)

theorem cycleF_w1 (c : Core) (m_P : List Int) (m_L : List RAcc) (irq : Bool) (nmi : Bool) (w_c : Core.ok c) (hv : Inv c) (hL : (List.length m_L) + 1 ≤ 1048576) : Core.ok (cycleF c m_P m_L irq nmi).1 := by
  unfold cycleF
  rcases bt ((c_Wants c).Put) with c1 | c1
  · rw [if_pos c1]
    exact (clockF_w c 0 irq nmi (by decide : rng 256 0) hv)
  · rw [if_neg (nt c1)]
    exact (clockF_w c (IntKind.u8.wrap (getF m_P m_L (IntKind.i64.wrap ((c_Wants c).At)))) irq nmi (rng_wrap_u8 (getF m_P m_L (IntKind.i64.wrap ((c_Wants c).At)))) hv)

theorem cycleF_w22 (c : Core) (m_P : List Int) (m_L : List RAcc) (irq : Bool) (nmi : Bool) (w_c : Core.ok c) (hv : Inv c) (hL : (List.length m_L) + 1 ≤ 1048576) : Acc.ok (cycleF c m_P m_L irq nmi).2.2 := by
  unfold cycleF
  rcases bt ((c_Wants c).Put) with c1 | c1
  · rw [if_pos c1]
    exact (c_Wants_w c hv)
  · rw [if_neg (nt c1)]
    exact (c_Wants_w c hv)

theorem inv_cycle {c : Core} (hv : Inv c) (P : List Int) (L : List RAcc) (irq nmi : Bool) : Inv (cycleF c P L irq nmi).1 := by
  unfold cycleF
  split
  · exact inv_clock hv (by decide) irq nmi
  · exact inv_clock hv (rng_wrap_u8 _) irq nmi
theorem len_cycle (c : Core) (P : List Int) (L : List RAcc) (irq nmi : Bool) : (cycleF c P L irq nmi).2.1.length ≤ L.length + 1 := by
  unfold cycleF putF
  split <;> simp

end Go.Proofs.YtmnhmplcpijanaaGreat
