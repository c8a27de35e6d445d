/-
  The core: fetch as one function; what is done and wanted, by number. Written by gen_core.py. No condition.
-/
import Derived.Test.YtmnhmplcpijanaaGreatCF
import Derived.Test.YtmnhmplcpijanaaGreatVN
namespace Go.Proofs.YtmnhmplcpijanaaGreat
open Go VX
set_option linter.unusedVariables false
set_option linter.unusedSimpArgs false
set_option maxRecDepth 100000

def clsT : List (Int × Int × Int) := [(2, 1, -1), (2, 2, -1), (2, 3, -1), (3, 1, -1), (3, 2, -1), (3, 3, -1), (4, 1, -1), (4, 2, -1), (4, 3, -1), (5, 1, -1), (5, 2, -1), (5, 3, -1), (6, 1, -1), (6, 2, -1), (6, 3, -1), (7, 1, -1), (7, 2, -1), (7, 3, -1), (8, 1, -1), (8, 2, -1), (8, 3, -1), (9, 1, -1), (9, 2, -1), (9, 3, -1), (0, 1, -1), (0, 2, -1), (0, 4, -1), (1, 1, -1), (10, 5, -1), (5, 6, 60), (11, 6, 60), (5, 6, 61), (0, 6, 62), (0, 6, 63), (1, 6, 64), (0, 6, 65), (0, 6, 66), (0, 6, 67), (0, 6, 68), (0, 6, 69)]
def cls (k : Code) (i : Nat) : Bool := match clsT[i]? with
  | some (m, K, o) => (k.Mode == m) && (aKind k.Op == K) && (o == -1 || k.Op == o)
  | none => false
def clsOf (k : Code) : Nat := ((List.range 40).find? (cls k)).getD 40
def clsOk (b : Nat) : Bool := cls (codeF (b : Int)) (clsOf (codeF (b : Int)))
theorem cls_all : allN clsOk 8 0 = true := by kernel_rfl
def fetchT : List (Core → Int → Core) := [c_fetch_r2, c_fetch_c2, c_fetch_s2, c_fetch_r3, c_fetch_c3, c_fetch_s3, c_fetch_r4, c_fetch_c4, c_fetch_s4, c_fetch_r5, c_fetch_c5, c_fetch_s5, c_fetch_r6, c_fetch_c6, c_fetch_s6, c_fetch_r7, c_fetch_c7, c_fetch_s7, c_fetch_r8, c_fetch_c8, c_fetch_s8, c_fetch_r9, c_fetch_c9, c_fetch_s9, c_fetch_imp1, c_fetch_imp2, c_fetch_imp4, c_fetch_imm, c_fetch_br, c_fetch_60, c_fetch_60i, c_fetch_61, c_fetch_62, c_fetch_63, c_fetch_64, c_fetch_65, c_fetch_66, c_fetch_67, c_fetch_68, c_fetch_69]
/-- The code is fetched. -/
def fetchF (c : Core) (b : Int) : Core := (fetchT.getD (clsOf (codeF b)) fun c _ => c) c b
theorem cls_of {b : Int} (w : rng 256 b) : cls (codeF b) (clsOf (codeF b)) = true := by
  have h := allN_int cls_all b w.1 (by have := w.2; simpa using this)
  unfold clsOk at h
  rw [Int.toNat_of_nonneg w.1] at h
  exact h
theorem cls_lt {k : Code} {i : Nat} (h : cls k i = true) : i < 40 := by
  rcases Nat.lt_or_ge i 40 with h1 | h1
  · exact h1
  · have : clsT[i]? = none := by simp only [List.getElem?_eq_none_iff]; exact h1
    unfold cls at h; rw [this] at h; cases h
theorem fetch_ok (c : Core) (b : Int) (w_b : rng 256 b) : FnSpec Tryz.prog 39 1001 [.pointer (some ⟨1000, 0, none⟩), .int .u8 b] [(1000, Core.blk c)] (.tuple ⟨[]⟩) [(1000, Core.blk (fetchF c b))] := by
  have h := cls_of w_b
  have hlt := cls_lt h
  unfold fetchF
  rcases (show clsOf (codeF b) = 0 ∨ clsOf (codeF b) = 1 ∨ clsOf (codeF b) = 2 ∨ clsOf (codeF b) = 3 ∨ clsOf (codeF b) = 4 ∨ clsOf (codeF b) = 5 ∨ clsOf (codeF b) = 6 ∨ clsOf (codeF b) = 7 ∨ clsOf (codeF b) = 8 ∨ clsOf (codeF b) = 9 ∨ clsOf (codeF b) = 10 ∨ clsOf (codeF b) = 11 ∨ clsOf (codeF b) = 12 ∨ clsOf (codeF b) = 13 ∨ clsOf (codeF b) = 14 ∨ clsOf (codeF b) = 15 ∨ clsOf (codeF b) = 16 ∨ clsOf (codeF b) = 17 ∨ clsOf (codeF b) = 18 ∨ clsOf (codeF b) = 19 ∨ clsOf (codeF b) = 20 ∨ clsOf (codeF b) = 21 ∨ clsOf (codeF b) = 22 ∨ clsOf (codeF b) = 23 ∨ clsOf (codeF b) = 24 ∨ clsOf (codeF b) = 25 ∨ clsOf (codeF b) = 26 ∨ clsOf (codeF b) = 27 ∨ clsOf (codeF b) = 28 ∨ clsOf (codeF b) = 29 ∨ clsOf (codeF b) = 30 ∨ clsOf (codeF b) = 31 ∨ clsOf (codeF b) = 32 ∨ clsOf (codeF b) = 33 ∨ clsOf (codeF b) = 34 ∨ clsOf (codeF b) = 35 ∨ clsOf (codeF b) = 36 ∨ clsOf (codeF b) = 37 ∨ clsOf (codeF b) = 38 ∨ clsOf (codeF b) = 39 by omega) with e | e | e | e | e | e | e | e | e | e | e | e | e | e | e | e | e | e | e | e | e | e | e | e | e | e | e | e | e | e | e | e | e | e | e | e | e | e | e | e
  · rw [e] at h ⊢
    simp only [cls, clsT, Bool.and_eq_true, beq_iff_eq, List.getElem?_cons_succ, List.getElem?_cons_zero] at h
    exact c_fetch_r2_ok c b w_b h.1.1 h.1.2
  · rw [e] at h ⊢
    simp only [cls, clsT, Bool.and_eq_true, beq_iff_eq, List.getElem?_cons_succ, List.getElem?_cons_zero] at h
    exact c_fetch_c2_ok c b w_b h.1.1 h.1.2
  · rw [e] at h ⊢
    simp only [cls, clsT, Bool.and_eq_true, beq_iff_eq, List.getElem?_cons_succ, List.getElem?_cons_zero] at h
    exact c_fetch_s2_ok c b w_b h.1.1 h.1.2
  · rw [e] at h ⊢
    simp only [cls, clsT, Bool.and_eq_true, beq_iff_eq, List.getElem?_cons_succ, List.getElem?_cons_zero] at h
    exact c_fetch_r3_ok c b w_b h.1.1 h.1.2
  · rw [e] at h ⊢
    simp only [cls, clsT, Bool.and_eq_true, beq_iff_eq, List.getElem?_cons_succ, List.getElem?_cons_zero] at h
    exact c_fetch_c3_ok c b w_b h.1.1 h.1.2
  · rw [e] at h ⊢
    simp only [cls, clsT, Bool.and_eq_true, beq_iff_eq, List.getElem?_cons_succ, List.getElem?_cons_zero] at h
    exact c_fetch_s3_ok c b w_b h.1.1 h.1.2
  · rw [e] at h ⊢
    simp only [cls, clsT, Bool.and_eq_true, beq_iff_eq, List.getElem?_cons_succ, List.getElem?_cons_zero] at h
    exact c_fetch_r4_ok c b w_b h.1.1 h.1.2
  · rw [e] at h ⊢
    simp only [cls, clsT, Bool.and_eq_true, beq_iff_eq, List.getElem?_cons_succ, List.getElem?_cons_zero] at h
    exact c_fetch_c4_ok c b w_b h.1.1 h.1.2
  · rw [e] at h ⊢
    simp only [cls, clsT, Bool.and_eq_true, beq_iff_eq, List.getElem?_cons_succ, List.getElem?_cons_zero] at h
    exact c_fetch_s4_ok c b w_b h.1.1 h.1.2
  · rw [e] at h ⊢
    simp only [cls, clsT, Bool.and_eq_true, beq_iff_eq, List.getElem?_cons_succ, List.getElem?_cons_zero] at h
    exact c_fetch_r5_ok c b w_b h.1.1 h.1.2
  · rw [e] at h ⊢
    simp only [cls, clsT, Bool.and_eq_true, beq_iff_eq, List.getElem?_cons_succ, List.getElem?_cons_zero] at h
    exact c_fetch_c5_ok c b w_b h.1.1 h.1.2
  · rw [e] at h ⊢
    simp only [cls, clsT, Bool.and_eq_true, beq_iff_eq, List.getElem?_cons_succ, List.getElem?_cons_zero] at h
    exact c_fetch_s5_ok c b w_b h.1.1 h.1.2
  · rw [e] at h ⊢
    simp only [cls, clsT, Bool.and_eq_true, beq_iff_eq, List.getElem?_cons_succ, List.getElem?_cons_zero] at h
    exact c_fetch_r6_ok c b w_b h.1.1 h.1.2
  · rw [e] at h ⊢
    simp only [cls, clsT, Bool.and_eq_true, beq_iff_eq, List.getElem?_cons_succ, List.getElem?_cons_zero] at h
    exact c_fetch_c6_ok c b w_b h.1.1 h.1.2
  · rw [e] at h ⊢
    simp only [cls, clsT, Bool.and_eq_true, beq_iff_eq, List.getElem?_cons_succ, List.getElem?_cons_zero] at h
    exact c_fetch_s6_ok c b w_b h.1.1 h.1.2
  · rw [e] at h ⊢
    simp only [cls, clsT, Bool.and_eq_true, beq_iff_eq, List.getElem?_cons_succ, List.getElem?_cons_zero] at h
    exact c_fetch_r7_ok c b w_b h.1.1 h.1.2
  · rw [e] at h ⊢
    simp only [cls, clsT, Bool.and_eq_true, beq_iff_eq, List.getElem?_cons_succ, List.getElem?_cons_zero] at h
    exact c_fetch_c7_ok c b w_b h.1.1 h.1.2
  · rw [e] at h ⊢
    simp only [cls, clsT, Bool.and_eq_true, beq_iff_eq, List.getElem?_cons_succ, List.getElem?_cons_zero] at h
    exact c_fetch_s7_ok c b w_b h.1.1 h.1.2
  · rw [e] at h ⊢
    simp only [cls, clsT, Bool.and_eq_true, beq_iff_eq, List.getElem?_cons_succ, List.getElem?_cons_zero] at h
    exact c_fetch_r8_ok c b w_b h.1.1 h.1.2
  · rw [e] at h ⊢
    simp only [cls, clsT, Bool.and_eq_true, beq_iff_eq, List.getElem?_cons_succ, List.getElem?_cons_zero] at h
    exact c_fetch_c8_ok c b w_b h.1.1 h.1.2
  · rw [e] at h ⊢
    simp only [cls, clsT, Bool.and_eq_true, beq_iff_eq, List.getElem?_cons_succ, List.getElem?_cons_zero] at h
    exact c_fetch_s8_ok c b w_b h.1.1 h.1.2
  · rw [e] at h ⊢
    simp only [cls, clsT, Bool.and_eq_true, beq_iff_eq, List.getElem?_cons_succ, List.getElem?_cons_zero] at h
    exact c_fetch_r9_ok c b w_b h.1.1 h.1.2
  · rw [e] at h ⊢
    simp only [cls, clsT, Bool.and_eq_true, beq_iff_eq, List.getElem?_cons_succ, List.getElem?_cons_zero] at h
    exact c_fetch_c9_ok c b w_b h.1.1 h.1.2
  · rw [e] at h ⊢
    simp only [cls, clsT, Bool.and_eq_true, beq_iff_eq, List.getElem?_cons_succ, List.getElem?_cons_zero] at h
    exact c_fetch_s9_ok c b w_b h.1.1 h.1.2
  · rw [e] at h ⊢
    simp only [cls, clsT, Bool.and_eq_true, beq_iff_eq, List.getElem?_cons_succ, List.getElem?_cons_zero] at h
    exact c_fetch_imp1_ok c b w_b h.1.1 h.1.2
  · rw [e] at h ⊢
    simp only [cls, clsT, Bool.and_eq_true, beq_iff_eq, List.getElem?_cons_succ, List.getElem?_cons_zero] at h
    exact c_fetch_imp2_ok c b w_b h.1.1 h.1.2
  · rw [e] at h ⊢
    simp only [cls, clsT, Bool.and_eq_true, beq_iff_eq, List.getElem?_cons_succ, List.getElem?_cons_zero] at h
    exact c_fetch_imp4_ok c b w_b h.1.1 h.1.2
  · rw [e] at h ⊢
    simp only [cls, clsT, Bool.and_eq_true, beq_iff_eq, List.getElem?_cons_succ, List.getElem?_cons_zero] at h
    exact c_fetch_imm_ok c b w_b h.1.1 h.1.2
  · rw [e] at h ⊢
    simp only [cls, clsT, Bool.and_eq_true, beq_iff_eq, List.getElem?_cons_succ, List.getElem?_cons_zero] at h
    exact c_fetch_br_ok c b w_b h.1.1 h.1.2
  · rw [e] at h ⊢
    simp only [cls, clsT, Bool.and_eq_true, Bool.or_eq_true, beq_iff_eq, List.getElem?_cons_succ, List.getElem?_cons_zero] at h
    exact c_fetch_60_ok c b w_b h.1.1 (h.2.resolve_left (by decide)) h.1.2
  · rw [e] at h ⊢
    simp only [cls, clsT, Bool.and_eq_true, Bool.or_eq_true, beq_iff_eq, List.getElem?_cons_succ, List.getElem?_cons_zero] at h
    exact c_fetch_60i_ok c b w_b h.1.1 (h.2.resolve_left (by decide)) h.1.2
  · rw [e] at h ⊢
    simp only [cls, clsT, Bool.and_eq_true, Bool.or_eq_true, beq_iff_eq, List.getElem?_cons_succ, List.getElem?_cons_zero] at h
    exact c_fetch_61_ok c b w_b h.1.1 (h.2.resolve_left (by decide)) h.1.2
  · rw [e] at h ⊢
    simp only [cls, clsT, Bool.and_eq_true, Bool.or_eq_true, beq_iff_eq, List.getElem?_cons_succ, List.getElem?_cons_zero] at h
    exact c_fetch_62_ok c b w_b h.1.1 (h.2.resolve_left (by decide)) h.1.2
  · rw [e] at h ⊢
    simp only [cls, clsT, Bool.and_eq_true, Bool.or_eq_true, beq_iff_eq, List.getElem?_cons_succ, List.getElem?_cons_zero] at h
    exact c_fetch_63_ok c b w_b h.1.1 (h.2.resolve_left (by decide)) h.1.2
  · rw [e] at h ⊢
    simp only [cls, clsT, Bool.and_eq_true, Bool.or_eq_true, beq_iff_eq, List.getElem?_cons_succ, List.getElem?_cons_zero] at h
    exact c_fetch_64_ok c b w_b h.1.1 (h.2.resolve_left (by decide)) h.1.2
  · rw [e] at h ⊢
    simp only [cls, clsT, Bool.and_eq_true, Bool.or_eq_true, beq_iff_eq, List.getElem?_cons_succ, List.getElem?_cons_zero] at h
    exact c_fetch_65_ok c b w_b h.1.1 (h.2.resolve_left (by decide)) h.1.2
  · rw [e] at h ⊢
    simp only [cls, clsT, Bool.and_eq_true, Bool.or_eq_true, beq_iff_eq, List.getElem?_cons_succ, List.getElem?_cons_zero] at h
    exact c_fetch_66_ok c b w_b h.1.1 (h.2.resolve_left (by decide)) h.1.2
  · rw [e] at h ⊢
    simp only [cls, clsT, Bool.and_eq_true, Bool.or_eq_true, beq_iff_eq, List.getElem?_cons_succ, List.getElem?_cons_zero] at h
    exact c_fetch_67_ok c b w_b h.1.1 (h.2.resolve_left (by decide)) h.1.2
  · rw [e] at h ⊢
    simp only [cls, clsT, Bool.and_eq_true, Bool.or_eq_true, beq_iff_eq, List.getElem?_cons_succ, List.getElem?_cons_zero] at h
    exact c_fetch_68_ok c b w_b h.1.1 (h.2.resolve_left (by decide)) h.1.2
  · rw [e] at h ⊢
    simp only [cls, clsT, Bool.and_eq_true, Bool.or_eq_true, beq_iff_eq, List.getElem?_cons_succ, List.getElem?_cons_zero] at h
    exact c_fetch_69_ok c b w_b h.1.1 (h.2.resolve_left (by decide)) h.1.2
theorem fetch_w (c : Core) (b : Int) (w_c : Core.ok c) (w_b : rng 256 b) : Core.ok (fetchF c b) := by
  have h := cls_of w_b
  have hlt := cls_lt h
  unfold fetchF
  rcases (show clsOf (codeF b) = 0 ∨ clsOf (codeF b) = 1 ∨ clsOf (codeF b) = 2 ∨ clsOf (codeF b) = 3 ∨ clsOf (codeF b) = 4 ∨ clsOf (codeF b) = 5 ∨ clsOf (codeF b) = 6 ∨ clsOf (codeF b) = 7 ∨ clsOf (codeF b) = 8 ∨ clsOf (codeF b) = 9 ∨ clsOf (codeF b) = 10 ∨ clsOf (codeF b) = 11 ∨ clsOf (codeF b) = 12 ∨ clsOf (codeF b) = 13 ∨ clsOf (codeF b) = 14 ∨ clsOf (codeF b) = 15 ∨ clsOf (codeF b) = 16 ∨ clsOf (codeF b) = 17 ∨ clsOf (codeF b) = 18 ∨ clsOf (codeF b) = 19 ∨ clsOf (codeF b) = 20 ∨ clsOf (codeF b) = 21 ∨ clsOf (codeF b) = 22 ∨ clsOf (codeF b) = 23 ∨ clsOf (codeF b) = 24 ∨ clsOf (codeF b) = 25 ∨ clsOf (codeF b) = 26 ∨ clsOf (codeF b) = 27 ∨ clsOf (codeF b) = 28 ∨ clsOf (codeF b) = 29 ∨ clsOf (codeF b) = 30 ∨ clsOf (codeF b) = 31 ∨ clsOf (codeF b) = 32 ∨ clsOf (codeF b) = 33 ∨ clsOf (codeF b) = 34 ∨ clsOf (codeF b) = 35 ∨ clsOf (codeF b) = 36 ∨ clsOf (codeF b) = 37 ∨ clsOf (codeF b) = 38 ∨ clsOf (codeF b) = 39 by omega) with e | e | e | e | e | e | e | e | e | e | e | e | e | e | e | e | e | e | e | e | e | e | e | e | e | e | e | e | e | e | e | e | e | e | e | e | e | e | e | e
  · rw [e] at h ⊢
    simp only [cls, clsT, Bool.and_eq_true, Bool.or_eq_true, beq_iff_eq, List.getElem?_cons_succ, List.getElem?_cons_zero] at h
    exact c_fetch_r2_w c b w_c w_b h.1.1 h.1.2
  · rw [e] at h ⊢
    simp only [cls, clsT, Bool.and_eq_true, Bool.or_eq_true, beq_iff_eq, List.getElem?_cons_succ, List.getElem?_cons_zero] at h
    exact c_fetch_c2_w c b w_c w_b h.1.1 h.1.2
  · rw [e] at h ⊢
    simp only [cls, clsT, Bool.and_eq_true, Bool.or_eq_true, beq_iff_eq, List.getElem?_cons_succ, List.getElem?_cons_zero] at h
    exact c_fetch_s2_w c b w_c w_b h.1.1 h.1.2
  · rw [e] at h ⊢
    simp only [cls, clsT, Bool.and_eq_true, Bool.or_eq_true, beq_iff_eq, List.getElem?_cons_succ, List.getElem?_cons_zero] at h
    exact c_fetch_r3_w c b w_c w_b h.1.1 h.1.2
  · rw [e] at h ⊢
    simp only [cls, clsT, Bool.and_eq_true, Bool.or_eq_true, beq_iff_eq, List.getElem?_cons_succ, List.getElem?_cons_zero] at h
    exact c_fetch_c3_w c b w_c w_b h.1.1 h.1.2
  · rw [e] at h ⊢
    simp only [cls, clsT, Bool.and_eq_true, Bool.or_eq_true, beq_iff_eq, List.getElem?_cons_succ, List.getElem?_cons_zero] at h
    exact c_fetch_s3_w c b w_c w_b h.1.1 h.1.2
  · rw [e] at h ⊢
    simp only [cls, clsT, Bool.and_eq_true, Bool.or_eq_true, beq_iff_eq, List.getElem?_cons_succ, List.getElem?_cons_zero] at h
    exact c_fetch_r4_w c b w_c w_b h.1.1 h.1.2
  · rw [e] at h ⊢
    simp only [cls, clsT, Bool.and_eq_true, Bool.or_eq_true, beq_iff_eq, List.getElem?_cons_succ, List.getElem?_cons_zero] at h
    exact c_fetch_c4_w c b w_c w_b h.1.1 h.1.2
  · rw [e] at h ⊢
    simp only [cls, clsT, Bool.and_eq_true, Bool.or_eq_true, beq_iff_eq, List.getElem?_cons_succ, List.getElem?_cons_zero] at h
    exact c_fetch_s4_w c b w_c w_b h.1.1 h.1.2
  · rw [e] at h ⊢
    simp only [cls, clsT, Bool.and_eq_true, Bool.or_eq_true, beq_iff_eq, List.getElem?_cons_succ, List.getElem?_cons_zero] at h
    exact c_fetch_r5_w c b w_c w_b h.1.1 h.1.2
  · rw [e] at h ⊢
    simp only [cls, clsT, Bool.and_eq_true, Bool.or_eq_true, beq_iff_eq, List.getElem?_cons_succ, List.getElem?_cons_zero] at h
    exact c_fetch_c5_w c b w_c w_b h.1.1 h.1.2
  · rw [e] at h ⊢
    simp only [cls, clsT, Bool.and_eq_true, Bool.or_eq_true, beq_iff_eq, List.getElem?_cons_succ, List.getElem?_cons_zero] at h
    exact c_fetch_s5_w c b w_c w_b h.1.1 h.1.2
  · rw [e] at h ⊢
    simp only [cls, clsT, Bool.and_eq_true, Bool.or_eq_true, beq_iff_eq, List.getElem?_cons_succ, List.getElem?_cons_zero] at h
    exact c_fetch_r6_w c b w_c w_b h.1.1 h.1.2
  · rw [e] at h ⊢
    simp only [cls, clsT, Bool.and_eq_true, Bool.or_eq_true, beq_iff_eq, List.getElem?_cons_succ, List.getElem?_cons_zero] at h
    exact c_fetch_c6_w c b w_c w_b h.1.1 h.1.2
  · rw [e] at h ⊢
    simp only [cls, clsT, Bool.and_eq_true, Bool.or_eq_true, beq_iff_eq, List.getElem?_cons_succ, List.getElem?_cons_zero] at h
    exact c_fetch_s6_w c b w_c w_b h.1.1 h.1.2
  · rw [e] at h ⊢
    simp only [cls, clsT, Bool.and_eq_true, Bool.or_eq_true, beq_iff_eq, List.getElem?_cons_succ, List.getElem?_cons_zero] at h
    exact c_fetch_r7_w c b w_c w_b h.1.1 h.1.2
  · rw [e] at h ⊢
    simp only [cls, clsT, Bool.and_eq_true, Bool.or_eq_true, beq_iff_eq, List.getElem?_cons_succ, List.getElem?_cons_zero] at h
    exact c_fetch_c7_w c b w_c w_b h.1.1 h.1.2
  · rw [e] at h ⊢
    simp only [cls, clsT, Bool.and_eq_true, Bool.or_eq_true, beq_iff_eq, List.getElem?_cons_succ, List.getElem?_cons_zero] at h
    exact c_fetch_s7_w c b w_c w_b h.1.1 h.1.2
  · rw [e] at h ⊢
    simp only [cls, clsT, Bool.and_eq_true, Bool.or_eq_true, beq_iff_eq, List.getElem?_cons_succ, List.getElem?_cons_zero] at h
    exact c_fetch_r8_w c b w_c w_b h.1.1 h.1.2
  · rw [e] at h ⊢
    simp only [cls, clsT, Bool.and_eq_true, Bool.or_eq_true, beq_iff_eq, List.getElem?_cons_succ, List.getElem?_cons_zero] at h
    exact c_fetch_c8_w c b w_c w_b h.1.1 h.1.2
  · rw [e] at h ⊢
    simp only [cls, clsT, Bool.and_eq_true, Bool.or_eq_true, beq_iff_eq, List.getElem?_cons_succ, List.getElem?_cons_zero] at h
    exact c_fetch_s8_w c b w_c w_b h.1.1 h.1.2
  · rw [e] at h ⊢
    simp only [cls, clsT, Bool.and_eq_true, Bool.or_eq_true, beq_iff_eq, List.getElem?_cons_succ, List.getElem?_cons_zero] at h
    exact c_fetch_r9_w c b w_c w_b h.1.1 h.1.2
  · rw [e] at h ⊢
    simp only [cls, clsT, Bool.and_eq_true, Bool.or_eq_true, beq_iff_eq, List.getElem?_cons_succ, List.getElem?_cons_zero] at h
    exact c_fetch_c9_w c b w_c w_b h.1.1 h.1.2
  · rw [e] at h ⊢
    simp only [cls, clsT, Bool.and_eq_true, Bool.or_eq_true, beq_iff_eq, List.getElem?_cons_succ, List.getElem?_cons_zero] at h
    exact c_fetch_s9_w c b w_c w_b h.1.1 h.1.2
  · rw [e] at h ⊢
    simp only [cls, clsT, Bool.and_eq_true, Bool.or_eq_true, beq_iff_eq, List.getElem?_cons_succ, List.getElem?_cons_zero] at h
    exact c_fetch_imp1_w c b w_c w_b h.1.1 h.1.2
  · rw [e] at h ⊢
    simp only [cls, clsT, Bool.and_eq_true, Bool.or_eq_true, beq_iff_eq, List.getElem?_cons_succ, List.getElem?_cons_zero] at h
    exact c_fetch_imp2_w c b w_c w_b h.1.1 h.1.2
  · rw [e] at h ⊢
    simp only [cls, clsT, Bool.and_eq_true, Bool.or_eq_true, beq_iff_eq, List.getElem?_cons_succ, List.getElem?_cons_zero] at h
    exact c_fetch_imp4_w c b w_c w_b h.1.1 h.1.2
  · rw [e] at h ⊢
    simp only [cls, clsT, Bool.and_eq_true, Bool.or_eq_true, beq_iff_eq, List.getElem?_cons_succ, List.getElem?_cons_zero] at h
    exact c_fetch_imm_w c b w_c w_b h.1.1 h.1.2
  · rw [e] at h ⊢
    simp only [cls, clsT, Bool.and_eq_true, Bool.or_eq_true, beq_iff_eq, List.getElem?_cons_succ, List.getElem?_cons_zero] at h
    exact c_fetch_br_w c b w_c w_b h.1.1 h.1.2
  · rw [e] at h ⊢
    simp only [cls, clsT, Bool.and_eq_true, Bool.or_eq_true, beq_iff_eq, List.getElem?_cons_succ, List.getElem?_cons_zero] at h
    exact c_fetch_60_w c b w_c w_b h.1.1 (h.2.resolve_left (by decide)) h.1.2
  · rw [e] at h ⊢
    simp only [cls, clsT, Bool.and_eq_true, Bool.or_eq_true, beq_iff_eq, List.getElem?_cons_succ, List.getElem?_cons_zero] at h
    exact c_fetch_60i_w c b w_c w_b h.1.1 (h.2.resolve_left (by decide)) h.1.2
  · rw [e] at h ⊢
    simp only [cls, clsT, Bool.and_eq_true, Bool.or_eq_true, beq_iff_eq, List.getElem?_cons_succ, List.getElem?_cons_zero] at h
    exact c_fetch_61_w c b w_c w_b h.1.1 (h.2.resolve_left (by decide)) h.1.2
  · rw [e] at h ⊢
    simp only [cls, clsT, Bool.and_eq_true, Bool.or_eq_true, beq_iff_eq, List.getElem?_cons_succ, List.getElem?_cons_zero] at h
    exact c_fetch_62_w c b w_c w_b h.1.1 (h.2.resolve_left (by decide)) h.1.2
  · rw [e] at h ⊢
    simp only [cls, clsT, Bool.and_eq_true, Bool.or_eq_true, beq_iff_eq, List.getElem?_cons_succ, List.getElem?_cons_zero] at h
    exact c_fetch_63_w c b w_c w_b h.1.1 (h.2.resolve_left (by decide)) h.1.2
  · rw [e] at h ⊢
    simp only [cls, clsT, Bool.and_eq_true, Bool.or_eq_true, beq_iff_eq, List.getElem?_cons_succ, List.getElem?_cons_zero] at h
    exact c_fetch_64_w c b w_c w_b h.1.1 (h.2.resolve_left (by decide)) h.1.2
  · rw [e] at h ⊢
    simp only [cls, clsT, Bool.and_eq_true, Bool.or_eq_true, beq_iff_eq, List.getElem?_cons_succ, List.getElem?_cons_zero] at h
    exact c_fetch_65_w c b w_c w_b h.1.1 (h.2.resolve_left (by decide)) h.1.2
  · rw [e] at h ⊢
    simp only [cls, clsT, Bool.and_eq_true, Bool.or_eq_true, beq_iff_eq, List.getElem?_cons_succ, List.getElem?_cons_zero] at h
    exact c_fetch_66_w c b w_c w_b h.1.1 (h.2.resolve_left (by decide)) h.1.2
  · rw [e] at h ⊢
    simp only [cls, clsT, Bool.and_eq_true, Bool.or_eq_true, beq_iff_eq, List.getElem?_cons_succ, List.getElem?_cons_zero] at h
    exact c_fetch_67_w c b w_c w_b h.1.1 (h.2.resolve_left (by decide)) h.1.2
  · rw [e] at h ⊢
    simp only [cls, clsT, Bool.and_eq_true, Bool.or_eq_true, beq_iff_eq, List.getElem?_cons_succ, List.getElem?_cons_zero] at h
    exact c_fetch_68_w c b w_c w_b h.1.1 (h.2.resolve_left (by decide)) h.1.2
  · rw [e] at h ⊢
    simp only [cls, clsT, Bool.and_eq_true, Bool.or_eq_true, beq_iff_eq, List.getElem?_cons_succ, List.getElem?_cons_zero] at h
    exact c_fetch_69_w c b w_c w_b h.1.1 (h.2.resolve_left (by decide)) h.1.2
/-- What is done, by the function's number. -/
def doF (d : Nat) (c : Core) (b : Int) : Core :=
  if d = 43 then c else
  if d = 122 then c_next c b else
  if d = 45 then c_down c b else
  if d = 120 then c_up c b else
  if d = 86 then c_zero c b else
  if d = 81 then c_addX c b else
  if d = 83 then c_addY c b else
  if d = 88 then c_first c b else
  if d = 89 then c_second c b else
  if d = 91 then c_whole c b else
  if d = 82 then c_overX c b else
  if d = 84 then c_overY c b else
  if d = 92 then c_reach c b else
  if d = 90 then c_point c b else
  if d = 101 then c_read c b else
  if d = 97 then c_beside c b else
  if d = 96 then c_self c b else
  if d = 98 then c_take c b else
  if d = 100 then c_change c b else
  if d = 94 then c_branch c b else
  if d = 119 then c_turn c b else
  if d = 135 then c_arrive c b else
  if d = 60 then c_jump c b else
  if d = 121 then c_pull c b else
  if d = 126 then c_load c b else
  if d = 127 then c_set c b else
  if d = 123 then c_flags c b else
  if d = 47 then c_lower c b else
  if d = 48 then c_enter c b else
  if d = 129 then c_freeze c b else
  if d = 39 then fetchF c b else c
def dos : List Nat := [43, 122, 45, 120, 86, 81, 83, 88, 89, 91, 82, 84, 92, 90, 101, 97, 96, 98, 100, 94, 119, 135, 60, 121, 126, 127, 123, 47, 48, 129, 39]
/-- It may be done here. -/
def DoOk (d : Nat) (c : Core) : Prop := d ∈ dos ∧ (d = 82 ∨ d = 84 ∨ d = 92 → c.l ≠ [])
theorem do_ok (d : Nat) (c : Core) (b : Int) (hd : DoOk d c) (w_c : Core.ok c) (w_b : rng 256 b) : FnSpec Tryz.prog d 1001 [.pointer (some ⟨1000, 0, none⟩), .int .u8 b] [(1000, Core.blk c)] (.tuple ⟨[]⟩) [(1000, Core.blk (doF d c b))] := by
  obtain ⟨h1, h2⟩ := hd
  simp only [dos, List.mem_cons, List.not_mem_nil, or_false] at h1
  rcases h1 with rfl | rfl | rfl | rfl | rfl | rfl | rfl | rfl | rfl | rfl | rfl | rfl | rfl | rfl | rfl | rfl | rfl | rfl | rfl | rfl | rfl | rfl | rfl | rfl | rfl | rfl | rfl | rfl | rfl | rfl | rfl
  · exact c_none_ok c b
  · exact c_next_ok c b
  · exact c_down_ok c b
  · exact c_up_ok c b
  · exact c_zero_ok c b
  · exact c_addX_ok c b
  · exact c_addY_ok c b
  · exact c_first_ok c b
  · exact c_second_ok c b
  · exact c_whole_ok c b
  · exact c_overX_ok c b (h2 (by decide))
  · exact c_overY_ok c b (h2 (by decide))
  · exact c_reach_ok c b (h2 (by decide))
  · exact c_point_ok c b
  · exact c_read_ok c b w_c.c.Op
  · exact c_beside_ok c b w_c
  · exact c_self_ok c b w_c
  · exact c_take_ok c b
  · exact c_change_ok c b w_c
  · exact c_branch_ok c b w_c
  · exact c_turn_ok c b
  · exact c_arrive_ok c b
  · exact c_jump_ok c b
  · exact c_pull_ok c b
  · exact c_load_ok c b
  · exact c_set_ok c b
  · exact c_flags_ok c b
  · exact c_lower_ok c b
  · exact c_enter_ok c b
  · exact c_freeze_ok c b
  · exact fetch_ok c b w_b
theorem do_w (d : Nat) (c : Core) (b : Int) (hd : DoOk d c) (w_c : Core.ok c) (w_b : rng 256 b) : Core.ok (doF d c b) := by
  obtain ⟨h1, h2⟩ := hd
  simp only [dos, List.mem_cons, List.not_mem_nil, or_false] at h1
  rcases h1 with rfl | rfl | rfl | rfl | rfl | rfl | rfl | rfl | rfl | rfl | rfl | rfl | rfl | rfl | rfl | rfl | rfl | rfl | rfl | rfl | rfl | rfl | rfl | rfl | rfl | rfl | rfl | rfl | rfl | rfl | rfl
  · exact w_c
  · exact c_next_w c b w_c w_b
  · exact c_down_w c b w_c w_b
  · exact c_up_w c b w_c w_b
  · exact c_zero_w c b w_c w_b
  · exact c_addX_w c b w_c w_b
  · exact c_addY_w c b w_c w_b
  · exact c_first_w c b w_c w_b
  · exact c_second_w c b w_c w_b
  · exact c_whole_w c b w_c w_b
  · exact c_overX_w c b w_c w_b (h2 (by decide))
  · exact c_overY_w c b w_c w_b (h2 (by decide))
  · exact c_reach_w c b w_c w_b (h2 (by decide))
  · exact c_point_w c b w_c w_b
  · exact c_read_w c b w_c w_b w_c.c.Op
  · exact c_beside_w c b w_c w_b
  · exact c_self_w c b w_c w_b
  · exact c_take_w c b w_c w_b
  · exact c_change_w c b w_c w_b
  · exact c_branch_w c b w_c w_b
  · exact c_turn_w c b w_c w_b
  · exact c_arrive_w c b w_c w_b
  · exact c_jump_w c b w_c w_b
  · exact c_pull_w c b w_c w_b
  · exact c_load_w c b w_c w_b
  · exact c_set_w c b w_c w_b
  · exact c_flags_w c b w_c w_b
  · exact c_lower_w c b w_c w_b
  · exact c_enter_w c b w_c w_b
  · exact c_freeze_w c b w_c w_b
  · exact fetch_w c b w_c w_b
/-- What is wanted, by the function's number. -/
def wantF (w : Nat) (c : Core) : Acc :=
  if w = 38 then c_atPC c else
  if w = 44 then c_atStack c else
  if w = 87 then c_atPlace c else
  if w = 85 then c_atNear c else
  if w = 46 then c_atVector c else
  if w = 128 then c_atEnd c else
  if w = 77 then c_putHigh c else
  if w = 78 then c_putLow c else
  if w = 79 then c_putFlags c else
  if w = 125 then c_putBroken c else
  if w = 124 then c_putA c else
  if w = 99 then c_putM c else
  if w = 93 then c_putStore c else ⟨0, false, 0⟩
def wants : List Nat := [38, 44, 87, 85, 46, 128, 77, 78, 79, 125, 124, 99, 93]
theorem want_ok (w : Nat) (c : Core) (hw : w ∈ wants) : FnSpec Tryz.prog w 1001 [.pointer (some ⟨1000, 0, none⟩)] [(1000, Core.blk c)] (Acc.enc (wantF w c)) [(1000, Core.blk c)] := by
  simp only [wants, List.mem_cons, List.not_mem_nil, or_false] at hw
  rcases hw with rfl | rfl | rfl | rfl | rfl | rfl | rfl | rfl | rfl | rfl | rfl | rfl | rfl
  · exact c_atPC_ok c
  · exact c_atStack_ok c
  · exact c_atPlace_ok c
  · exact c_atNear_ok c
  · exact c_atVector_ok c
  · exact c_atEnd_ok c
  · exact c_putHigh_ok c
  · exact c_putLow_ok c
  · exact c_putFlags_ok c
  · exact c_putBroken_ok c
  · exact c_putA_ok c
  · exact c_putM_ok c
  · exact c_putStore_ok c
end Go.Proofs.YtmnhmplcpijanaaGreat
