/-
  The picture: a line of it, laid into a new slice. No condition.
-/
import Derived.Test.YtgnhhnmpeklciaaPJ
namespace Go.Proofs.Ytgnhhnmpeklciaa
open Go VX
set_option linter.unusedVariables false
set_option linter.unusedSimpArgs false
set_option maxRecDepth 100000

theorem behind_ints {k : IntKind} {m : Nat} (f : Nat → Int) (off : Nat) : Behind [] (winL (fun o => .int k (f (off + o))) 0 m) [.ints k m (fun j => f (off + j))] := by
  refine ⟨by simp [segsSize, Seg.size, winL_len], fun o v h => .inr ⟨Nat.zero_le _, ?_⟩⟩
  simp only [segsGet?, Seg.size, segsSize] at h ⊢
  cases e : Nat.blt o m with
  | false => rw [e] at h; simp at h
  | true =>
    rw [e] at h
    simp only [cond_true, Seg.get?, e, Option.some.injEq] at h
    subst h
    have : o < m := by rw [Nat.blt_eq] at e; exact e
    rw [Nat.sub_zero, winL_get, if_pos this, Nat.zero_add]
theorem y256 {y : Int} (h : Int.toNat y < 240) : Int.toNat y * 256 + 0 + 256 ≤ 61440 := by omega
theorem cloneRow_ok (p : Pic) (L : List Sprite) (y : Int) (hy : Int.toNat y < 240) :
    FnSpec Try.prog 54 1002 [.slice (some ⟨1000, Int.toNat y * 256 + 0, (some 10544)⟩) 256 0] [(1000, (Pic.bl p (.slice (some ⟨1001, 0, (some 0)⟩) (List.length L) 5) true)), (1001, ⟨[rowsL Sprite.cells Sprite.nil 5 L], 92, true⟩)]
      (.slice (some ⟨1002, 0, (some 0)⟩) 256 1) [(1002, ⟨[.ints .u8 256 (fun j => p.screen (Int.toNat y * 256 + j))], 5, false⟩)] := by
  exact fn_of_x hG hM Try.func54 (by kernel_rfl) (by kernel_rfl) 400 [.no, .born, .win [.ints .u8 256 (fun j => p.screen (Int.toNat y * 256 + j))]]
    (J (by decide : (256 : Nat) ≠ 0) (J (Eq.refl false) (J (Eq.refl true) (J (behind_ints (k := .u8) (m := 256) p.screen (Int.toNat y * 256)) (J (by decide : 256 ≤ 1048576) (J (y256 hy) trivial)))))) (by kernel_rfl)

theorem row_in (p : Pic) (L : List Sprite) (y : Int) (h0 : 0 ≤ y) (h1 : y < 240) :
    FnSpec Try.prog 26 1002 [.pointer (some ⟨1000, 0, none⟩), .int .i64 y] [(1000, (Pic.bl p (.slice (some ⟨1001, 0, (some 0)⟩) (List.length L) 5) true)), (1001, ⟨[rowsL Sprite.cells Sprite.nil 5 L], 92, true⟩)]
      (.slice (some ⟨1002, 0, (some 0)⟩) 256 1) [(1002, ⟨[.ints .u8 256 (fun j => p.screen (Int.toNat y * 256 + j))], 5, false⟩)] := by
  have c1 : (decide ((y : Int) < 0)) = false := decide_eq_false (by omega)
  have c2 : (decide ((y : Int) ≥ 240)) = false := decide_eq_false (by omega)
  exact fn_of_x hG hM Try.func26 (by kernel_rfl) (by kernel_rfl) 400 [.no, .no, .no, .no, .no, .no, .no, .sym, .cut 0 256, .callr [(1000, 1000), (1001, 1001)] [] [(1002, 1002)] 1002 (.slice (some ⟨1002, 0, (some 0)⟩) 256 1) [(1002, ⟨[.ints .u8 256 (fun j => p.screen (Int.toNat y * 256 + j))], 5, false⟩)]]
    (J (Eq.refl false) (J (Eq.refl false) (J (Eq.refl false) (J c1 (J c1 (J c1 (J c2 (J (show 0 ≤ y ∧ y < ((240 : Nat) : Int) from ⟨h0, h1⟩) (J (cloneRow_ok p L y (by omega)) trivial))))))))) (by kernel_rfl)
theorem row_low (p : Pic) (L : List Sprite) (y : Int) (h0 : y < 0) :
    FnSpec Try.prog 26 1002 [.pointer (some ⟨1000, 0, none⟩), .int .i64 y] [(1000, (Pic.bl p (.slice (some ⟨1001, 0, (some 0)⟩) (List.length L) 5) true)), (1001, ⟨[rowsL Sprite.cells Sprite.nil 5 L], 92, true⟩)] (.slice none 0 0) [] := by
  have c1 : (decide ((y : Int) < 0)) = true := decide_eq_true (by omega)
  exact fn_of_x hG hM Try.func26 (by kernel_rfl) (by kernel_rfl) 400 [.no, .no, .no, .yes, .yes, .yes, .yes]
    (J (Eq.refl false) (J (Eq.refl false) (J (Eq.refl false) (J c1 (J c1 (J c1 (J (Eq.refl true) trivial))))))) (by kernel_rfl)
theorem row_high (p : Pic) (L : List Sprite) (y : Int) (h0 : y ≥ 240) :
    FnSpec Try.prog 26 1002 [.pointer (some ⟨1000, 0, none⟩), .int .i64 y] [(1000, (Pic.bl p (.slice (some ⟨1001, 0, (some 0)⟩) (List.length L) 5) true)), (1001, ⟨[rowsL Sprite.cells Sprite.nil 5 L], 92, true⟩)] (.slice none 0 0) [] := by
  have c1 : (decide ((y : Int) < 0)) = false := decide_eq_false (by omega)
  have c2 : (decide ((y : Int) ≥ 240)) = true := decide_eq_true (by omega)
  exact fn_of_x hG hM Try.func26 (by kernel_rfl) (by kernel_rfl) 400 [.no, .no, .no, .no, .no, .no, .yes]
    (J (Eq.refl false) (J (Eq.refl false) (J (Eq.refl false) (J c1 (J c1 (J c1 (J c2 trivial))))))) (by kernel_rfl)
end Go.Proofs.Ytgnhhnmpeklciaa
