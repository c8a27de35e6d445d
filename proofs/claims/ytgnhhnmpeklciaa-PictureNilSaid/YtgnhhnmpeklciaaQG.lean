/-
  The picture: another one of the same. No condition.
-/
import Derived.Test.YtgnhhnmpeklciaaPJ
import Derived.Test.YtgnhhnmpeklciaaPK
namespace Go.Proofs.Ytgnhhnmpeklciaa
open Go VX
set_option linter.unusedVariables false
set_option linter.unusedSimpArgs false
set_option maxRecDepth 1000000

theorem VX.rowsL_stor {α : Type} {cells : α → List Value} {d : α} {z : Nat} (L : List α) (h : ∀ x, (cells x).length = z) (hz : 0 < z) (hs : ∀ x, (cells x).all storable = true) : AllStor [rowsL cells d z L] (L.length * z) := by
  intro o ho
  have e : segsGet? [rowsL cells d z L] o = (bif Nat.blt o (L.length * z) then (bif Nat.blt o (L.length * z) then (cells (L.getD (o / z) d))[o % z]? else none) else none) := rfl
  have hb : Nat.blt o (L.length * z) = true := Nat.ble_eq_true_of_le ho
  rw [e, hb]
  simp only [cond_true]
  have hm : o % z < (cells (L.getD (o / z) d)).length := by rw [h]; exact Nat.mod_lt _ hz
  refine ⟨_, List.getElem?_eq_getElem hm, ?_⟩
  have := hs (L.getD (o / z) d)
  rw [List.all_eq_true] at this
  exact this _ (List.getElem_mem hm)
theorem Sprite_stor (L : List Sprite) : AllStor [rowsL Sprite.cells Sprite.nil 5 L] (L.length * 5) := VX.rowsL_stor L (fun _ => rfl) (by decide) (fun _ => rfl)
theorem stor_nil : AllStor [] 0 := fun o h => absurd h (Nat.not_lt_zero o)
theorem stor_ints {k : IntKind} {n m : Nat} {a : Nat → Int} {r : List Seg} (h : AllStor r m) : AllStor (.ints k n a :: r) (n + m) := by
  intro o ho
  show ∃ v, (bif Nat.blt o n then (bif Nat.blt o n then some (.int k (a o)) else none) else segsGet? r (o - n)) = some v ∧ _
  cases e : Nat.blt o n with
  | true => exact ⟨_, rfl, rfl⟩
  | false =>
    have : ¬ o < n := by rw [← Nat.blt_eq, e]; decide
    obtain ⟨v, h1, h2⟩ := h (o - n) (by omega)
    exact ⟨v, h1, h2⟩
theorem stor_one {v : Value} {m : Nat} {r : List Seg} (hv : storable v = true) (h : AllStor r m) : AllStor (.one v :: r) (1 + m) := by
  intro o ho
  show ∃ u, (bif Nat.blt o 1 then (bif Nat.beq o 0 then some v else none) else segsGet? r (o - 1)) = some u ∧ _
  cases o with
  | zero => exact ⟨v, rfl, hv⟩
  | succ o =>
    obtain ⟨u, h1, h2⟩ := h o (by omega)
    refine ⟨u, ?_, h2⟩
    have : Nat.blt (o + 1) 1 = false := by
      cases e : Nat.blt (o + 1) 1
      · rfl
      · rw [Nat.blt_eq] at e; omega
    rw [this]; exact h1
theorem pic_stor (p : Pic) (V : Value) (ro : Bool) (hV : storable V = true) : AllStor (Pic.bl p V ro).segs 71984 :=
  stor_ints (n := 8192) (m := 63792) (stor_ints (n := 2048) (m := 61744) (stor_ints (n := 32) (m := 61712) (stor_ints (n := 256) (m := 61456)
    (stor_one (m := 61455) rfl (stor_one (m := 61454) rfl (stor_one (m := 61453) rfl (stor_one (m := 61452) rfl (stor_one (m := 61451) rfl (stor_one (m := 61450) rfl (stor_one (m := 61449) rfl (stor_one (m := 61448) rfl (stor_one (m := 61447) rfl (stor_one (m := 61446) rfl (stor_one (m := 61445) rfl (stor_one (m := 61444) rfl (stor_one (m := 61443) rfl (stor_one (m := 61442) rfl (stor_one (m := 61441) rfl (stor_one (m := 61440) hV (stor_ints (n := 61440) (m := 0) stor_nil))))))))))))))))))))

theorem clone_some (L : List Sprite) (h : List.length L ≠ 0) (h8 : List.length L ≤ 1048576) : FnSpec Try.prog 55 1001 [.slice (some ⟨1000, 0, (some 0)⟩) (List.length L) 5] [(1000, ⟨[rowsL Sprite.cells Sprite.nil 5 L], 92, true⟩)]
    (.slice (some ⟨1001, 0, (some 0)⟩) (List.length L) 5) [(1001, ⟨[rowsL Sprite.cells Sprite.nil 5 L], 92, false⟩)] := by
  exact fn_of_x hG hM Try.func55 (by kernel_rfl) (by kernel_rfl) 400 [.no, .born, .all] (J h (J (Eq.refl false) (J (Eq.refl true) (J h8 (J (rows_size Sprite.cells Sprite.nil 5 92 true L) (J (Sprite_stor L) trivial)))))) (by kernel_rfl)
theorem clone_nil : FnSpec Try.prog 55 1001 [.slice none 0 0] [(1000, ⟨[rowsL Sprite.cells Sprite.nil 5 []], 92, true⟩)]
    (.slice (some ⟨1001, 0, (some 0)⟩) 0 5) [(1001, ⟨[rowsL Sprite.cells Sprite.nil 5 []], 92, false⟩)] := by
  exact fn_ren (v := .slice none 0 0) (H1 := []) (fn_of_x hG hM Try.func55 (by kernel_rfl) (by kernel_rfl) 400 [.yes] (J (Eq.refl true) trivial) (by kernel_rfl)) [] 1002 (by kernel_rfl)
theorem clone_emp : FnSpec Try.prog 55 1001 [.func (.method "") ⟨[]⟩ ⟨[.bool true]⟩] [(1000, ⟨[rowsL Sprite.cells Sprite.nil 5 []], 92, true⟩)]
    (.slice (some ⟨1001, 0, (some 0)⟩) 0 5) [(1001, ⟨[rowsL Sprite.cells Sprite.nil 5 []], 92, false⟩)] := by
  exact fn_of_x hG hM Try.func55 (by kernel_rfl) (by kernel_rfl) 400 [.no, .born, .win [rowsL Sprite.cells Sprite.nil 5 []]] (J (Eq.refl false) (J (Eq.refl true) (J (Eq.refl 0) trivial))) (by kernel_rfl)
theorem fn_empty {P : Program} {g : FuncId} {n0 i z : Nat} {H H' : Heap} {v : Value} (hz : z ≠ 0) (a : FnSpec P g n0 [.slice none 0 0] H v H') (b : FnSpec P g n0 [.func (.method "") ⟨[]⟩ ⟨[.bool true]⟩] H v H') : FnSpec P g n0 [.slice (some ⟨i, 0, some 0⟩) 0 z] H v H' := by
  refine ⟨a.enters, fun μ w rargs hg hn hv hr => ?_⟩
  cases hv with
  | cons h hs =>
    cases hs
    cases h with
    | sliceE _ _ _ _ ad cap' hc =>
      cases ad with
      | none =>
        obtain rfl : cap' = 0 := hc.resolve_left hz
        exact a.runs μ w _ hg hn (.cons .sliceNil .nil) hr
      | some ad => exact b.runs μ w _ hg hn (.cons (.emp _ _) .nil) hr
    | sliceS hb _ _ _ _ cap' hc _ => exact b.runs μ w _ hg hn (.cons (.emp _ _) .nil) hr
theorem clone_ok (L : List Sprite) (h8 : List.length L ≤ 8) : FnSpec Try.prog 55 1001 [.slice (some ⟨1000, 0, (some 0)⟩) (List.length L) 5] [(1000, ⟨[rowsL Sprite.cells Sprite.nil 5 L], 92, true⟩)]
    (.slice (some ⟨1001, 0, (some 0)⟩) (List.length L) 5) [(1001, ⟨[rowsL Sprite.cells Sprite.nil 5 L], 92, false⟩)] := by
  cases L with
  | nil => exact fn_empty (by decide) clone_nil clone_emp
  | cons s r => exact clone_some (s :: r) (by simp) (by omega)
theorem copy_ok (p : Pic) (L : List Sprite) (h8 : List.length L ≤ 8) : FnSpec Try.prog 27 1002 [.pointer (some ⟨1000, 0, none⟩)] [(1000, (Pic.bl p (.slice (some ⟨1001, 0, (some 0)⟩) (List.length L) 5) true)), (1001, ⟨[rowsL Sprite.cells Sprite.nil 5 L], 92, true⟩)]
    (.pointer (some ⟨1002, 0, none⟩)) [(1002, (Pic.bl p (.slice (some ⟨1003, 0, (some 0)⟩) (List.length L) 5) false)), (1003, ⟨[rowsL Sprite.cells Sprite.nil 5 L], 92, false⟩)] := by
  exact fn_of_x hG hM Try.func27 (by kernel_rfl) (by kernel_rfl) 400 [.no, .whole [], .segs (Pic.bl picZero (.slice none 0 0) false).segs, .whole (Pic.bl p (.slice (some ⟨1001, 0, (some 0)⟩) (List.length L) 5) true).segs,
      .callr [(1001, 1000)] [] [(1001, 1003)] 1001 (.slice (some ⟨1001, 0, (some 0)⟩) (List.length L) 5) [(1001, ⟨[rowsL Sprite.cells Sprite.nil 5 L], 92, false⟩)]]
    (J (Eq.refl false) (J (pic_stor p (.slice (some ⟨1001, 0, (some 0)⟩) (List.length L) 5) true rfl)
      (J (Eq.refl (Value.agg ⟨cellsOf (Pic.bl p (.slice (some ⟨1001, 0, (some 0)⟩) (List.length L) 5) true).segs 71984⟩)) (J (Eq.refl 71984) (J (Eq.refl 71984) (J (pic_stor p (.slice (some ⟨1001, 0, (some 0)⟩) (List.length L) 5) true rfl) (J (clone_ok L h8) trivial))))))) (by kernel_rfl)
end Go.Proofs.Ytgnhhnmpeklciaa
