/-
  The picture: a byte of its memory. Written by gen_pic.py. No condition.
-/
import Derived.Test.YtgnhhnmpeklciaaPB
import Derived.Test.YtgnhhnmpeklciaaPX
namespace Go.Proofs.Ytgnhhnmpeklciaa
open Go VX
set_option linter.unusedVariables false
set_option linter.unusedSimpArgs false
set_option maxRecDepth 100000

theorem pHeight_le (p : Pic) (L : List Sprite) : pHeight p L = 8 ∨ pHeight p L = 16 := by
  unfold pHeight; split
  · exact .inr rfl
  · exact .inl rfl
theorem pHeight_t {p : Pic} {L : List Sprite} (h : (((bAnd .u8 p.control 32) : Int) != 0) = true) : pHeight p L = 16 := by unfold pHeight; rw [if_pos h]
theorem pHeight_f {p : Pic} {L : List Sprite} (h : (((bAnd .u8 p.control 32) : Int) != 0) = false) : pHeight p L = 8 := by unfold pHeight; rw [if_neg (nt h)]
theorem pPlace_p1 (p : Pic) (p_chosen : List Sprite) (a : Int) (c1 : (decide (((bAnd .u16 a 16383) : Int) < 8192)) = true) : FnSpec Try.prog 44 1002 [.pointer (some ⟨1000, 0, none⟩), .int .u16 a] [(1000, (Pic.bl p (.slice (some ⟨1001, 0, (some 0)⟩) (List.length p_chosen) 5) false)), (1001, ⟨[rowsL Sprite.cells Sprite.nil 5 p_chosen], 92, false⟩)] (.pointer (some ⟨1000, (Int.toNat (bAnd .u16 a 16383)), (some 0)⟩)) [(1000, (Pic.bl p (.slice (some ⟨1001, 0, (some 0)⟩) (List.length p_chosen) 5) false)), (1001, ⟨[rowsL Sprite.cells Sprite.nil 5 p_chosen], 92, false⟩)] := by
  exact fn_of_x hG hM Try.func44 (by kernel_rfl) (by kernel_rfl) 400 [.yes, .sym] (J c1 (J (show 0 ≤ (bAnd .u16 a 16383) ∧ (bAnd .u16 a 16383) < ((8192 : Nat) : Int) from by have q0_ := band16 a 16383 (by decide) (by decide); first | omega | (simp only [decide_eq_true_eq, decide_eq_false_iff_not, rng, IntKind.wrap_i64, IntKind.wrap_u8, IntKind.wrap_u16] at *; omega)) trivial)) (by kernel_rfl)
theorem pPlace_p2 (p : Pic) (p_chosen : List Sprite) (a : Int) (c1 : (decide (((bAnd .u16 a 16383) : Int) < 8192)) = false) (c2 : (decide (((bAnd .u16 a 16383) : Int) < 16128)) = true) : FnSpec Try.prog 44 1002 [.pointer (some ⟨1000, 0, none⟩), .int .u16 a] [(1000, (Pic.bl p (.slice (some ⟨1001, 0, (some 0)⟩) (List.length p_chosen) 5) false)), (1001, ⟨[rowsL Sprite.cells Sprite.nil 5 p_chosen], 92, false⟩)] (.pointer (some ⟨1000, (Int.toNat (mirror (bAnd .u16 a 16383) p.upright)), (some 8192)⟩)) [(1000, (Pic.bl p (.slice (some ⟨1001, 0, (some 0)⟩) (List.length p_chosen) 5) false)), (1001, ⟨[rowsL Sprite.cells Sprite.nil 5 p_chosen], 92, false⟩)] := by
  exact fn_of_x hG hM Try.func44 (by kernel_rfl) (by kernel_rfl) 400 [.no, .yes, .call [] [] 1000 (.int .u16 (mirror (bAnd .u16 a 16383) p.upright)) [], .sym] (J c1 (J c2 (J (mirror_ok (bAnd .u16 a 16383) p.upright) (J (show 0 ≤ (mirror (bAnd .u16 a 16383) p.upright) ∧ (mirror (bAnd .u16 a 16383) p.upright) < ((2048 : Nat) : Int) from by have q0_ := band16 a 16383 (by decide) (by decide); have q1_ := mirror_lt (bAnd .u16 a 16383) p.upright; first | omega | (simp only [decide_eq_true_eq, decide_eq_false_iff_not, rng, IntKind.wrap_i64, IntKind.wrap_u8, IntKind.wrap_u16] at *; omega)) trivial)))) (by kernel_rfl)
theorem pPlace_p3 (p : Pic) (p_chosen : List Sprite) (a : Int) (c1 : (decide (((bAnd .u16 a 16383) : Int) < 8192)) = false) (c2 : (decide (((bAnd .u16 a 16383) : Int) < 16128)) = false) : FnSpec Try.prog 44 1002 [.pointer (some ⟨1000, 0, none⟩), .int .u16 a] [(1000, (Pic.bl p (.slice (some ⟨1001, 0, (some 0)⟩) (List.length p_chosen) 5) false)), (1001, ⟨[rowsL Sprite.cells Sprite.nil 5 p_chosen], 92, false⟩)] (.pointer (some ⟨1000, (Int.toNat (colour (bAnd .u16 a 16383))), (some 10240)⟩)) [(1000, (Pic.bl p (.slice (some ⟨1001, 0, (some 0)⟩) (List.length p_chosen) 5) false)), (1001, ⟨[rowsL Sprite.cells Sprite.nil 5 p_chosen], 92, false⟩)] := by
  exact fn_of_x hG hM Try.func44 (by kernel_rfl) (by kernel_rfl) 400 [.no, .no, .call [] [] 1000 (.int .u8 (colour (bAnd .u16 a 16383))) [], .sym] (J c1 (J c2 (J (colour_ok (bAnd .u16 a 16383)) (J (show 0 ≤ (colour (bAnd .u16 a 16383)) ∧ (colour (bAnd .u16 a 16383)) < ((32 : Nat) : Int) from by have q0_ := band16 a 16383 (by decide) (by decide); have q1_ := colour_lt (bAnd .u16 a 16383); first | omega | (simp only [decide_eq_true_eq, decide_eq_false_iff_not, rng, IntKind.wrap_i64, IntKind.wrap_u8, IntKind.wrap_u16] at *; omega)) trivial)))) (by kernel_rfl)

/-- (*kotatsu/picture.Picture).Peek -/
def pPeek (p : Pic) (p_chosen : List Sprite) (a : Int) : Int :=
  if (decide (((bAnd .u16 a 16383) : Int) < 8192)) = true then
    (p.tiles (Int.toNat (bAnd .u16 a 16383)))
  else
    if (decide (((bAnd .u16 a 16383) : Int) < 16128)) = true then
      (p.names (Int.toNat (mirror (bAnd .u16 a 16383) p.upright)))
    else
      (p.colours (Int.toNat (colour (bAnd .u16 a 16383))))
theorem pPeek_ok (p : Pic) (p_chosen : List Sprite) (a : Int) : FnSpec Try.prog 19 1002 [.pointer (some ⟨1000, 0, none⟩), .int .u16 a] [(1000, (Pic.bl p (.slice (some ⟨1001, 0, (some 0)⟩) (List.length p_chosen) 5) false)), (1001, ⟨[rowsL Sprite.cells Sprite.nil 5 p_chosen], 92, false⟩)] (.int .u8 (pPeek p p_chosen a)) [(1000, (Pic.bl p (.slice (some ⟨1001, 0, (some 0)⟩) (List.length p_chosen) 5) false)), (1001, ⟨[rowsL Sprite.cells Sprite.nil 5 p_chosen], 92, false⟩)] := by
  unfold pPeek
  rcases bt (decide (((bAnd .u16 a 16383) : Int) < 8192)) with c1 | c1
  · rw [if_pos c1]
    exact fn_of_x hG hM Try.func19 (by kernel_rfl) (by kernel_rfl) 400 [.no, .call [(1000, 1000), (1001, 1001)] [] 1002 (.pointer (some ⟨1000, (Int.toNat (bAnd .u16 a 16383)), (some 0)⟩)) [(1000, (Pic.bl p (.slice (some ⟨1001, 0, (some 0)⟩) (List.length p_chosen) 5) false)), (1001, ⟨[rowsL Sprite.cells Sprite.nil 5 p_chosen], 92, false⟩)]] (J (Eq.refl false) (J (pPlace_p1 p p_chosen a c1) (J (show (Int.toNat (bAnd .u16 a 16383)) < 8192 from by have q0_ := band16 a 16383 (by decide) (by decide); first | omega | (simp only [decide_eq_true_eq, decide_eq_false_iff_not, rng, IntKind.wrap_i64, IntKind.wrap_u8, IntKind.wrap_u16] at *; omega)) trivial))) (by kernel_rfl)
  · rw [if_neg (nt c1)]
    rcases bt (decide (((bAnd .u16 a 16383) : Int) < 16128)) with c2 | c2
    · rw [if_pos c2]
      exact fn_of_x hG hM Try.func19 (by kernel_rfl) (by kernel_rfl) 400 [.no, .call [(1000, 1000), (1001, 1001)] [] 1002 (.pointer (some ⟨1000, (Int.toNat (mirror (bAnd .u16 a 16383) p.upright)), (some 8192)⟩)) [(1000, (Pic.bl p (.slice (some ⟨1001, 0, (some 0)⟩) (List.length p_chosen) 5) false)), (1001, ⟨[rowsL Sprite.cells Sprite.nil 5 p_chosen], 92, false⟩)]] (J (Eq.refl false) (J (pPlace_p2 p p_chosen a c1 c2) (J (show (Int.toNat (mirror (bAnd .u16 a 16383) p.upright)) < 2048 from by have q0_ := band16 a 16383 (by decide) (by decide); have q1_ := mirror_lt (bAnd .u16 a 16383) p.upright; first | omega | (simp only [decide_eq_true_eq, decide_eq_false_iff_not, rng, IntKind.wrap_i64, IntKind.wrap_u8, IntKind.wrap_u16] at *; omega)) trivial))) (by kernel_rfl)
    · rw [if_neg (nt c2)]
      exact fn_of_x hG hM Try.func19 (by kernel_rfl) (by kernel_rfl) 400 [.no, .call [(1000, 1000), (1001, 1001)] [] 1002 (.pointer (some ⟨1000, (Int.toNat (colour (bAnd .u16 a 16383))), (some 10240)⟩)) [(1000, (Pic.bl p (.slice (some ⟨1001, 0, (some 0)⟩) (List.length p_chosen) 5) false)), (1001, ⟨[rowsL Sprite.cells Sprite.nil 5 p_chosen], 92, false⟩)]] (J (Eq.refl false) (J (pPlace_p3 p p_chosen a c1 c2) (J (show (Int.toNat (colour (bAnd .u16 a 16383))) < 32 from by have q0_ := band16 a 16383 (by decide) (by decide); have q1_ := colour_lt (bAnd .u16 a 16383); first | omega | (simp only [decide_eq_true_eq, decide_eq_false_iff_not, rng, IntKind.wrap_i64, IntKind.wrap_u8, IntKind.wrap_u16] at *; omega)) trivial))) (by kernel_rfl)

theorem pPeek_w (p : Pic) (p_chosen : List Sprite) (a : Int) (w_p : Pic.ok p) (w_a : rng 65536 a) : rng 256 (pPeek p p_chosen a) := by
  unfold pPeek
  rcases bt (decide (((bAnd .u16 a 16383) : Int) < 8192)) with c1 | c1
  · rw [if_pos c1]
    exact (w_p.tiles (Int.toNat (bAnd .u16 a 16383)))
  · rw [if_neg (nt c1)]
    rcases bt (decide (((bAnd .u16 a 16383) : Int) < 16128)) with c2 | c2
    · rw [if_pos c2]
      exact (w_p.names (Int.toNat (mirror (bAnd .u16 a 16383) p.upright)))
    · rw [if_neg (nt c2)]
      exact (w_p.colours (Int.toNat (colour (bAnd .u16 a 16383))))

/-- (*kotatsu/picture.Picture).Poke -/
def pPoke (p : Pic) (p_chosen : List Sprite) (a : Int) (b : Int) : Pic :=
  if (decide (((bAnd .u16 a 16383) : Int) ≥ 16128)) = true then
    if (decide (((bAnd .u16 a 16383) : Int) < 8192)) = true then
      ({ p with tiles := (upd p.tiles (Int.toNat (bAnd .u16 a 16383)) (bAnd .u8 b 63)) } : Pic)
    else
      if (decide (((bAnd .u16 a 16383) : Int) < 16128)) = true then
        ({ p with names := (upd p.names (Int.toNat (mirror (bAnd .u16 a 16383) p.upright)) (bAnd .u8 b 63)) } : Pic)
      else
        ({ p with colours := (upd p.colours (Int.toNat (colour (bAnd .u16 a 16383))) (bAnd .u8 b 63)) } : Pic)
  else
    if (decide (((bAnd .u16 a 16383) : Int) < 8192)) = true then
      ({ p with tiles := (upd p.tiles (Int.toNat (bAnd .u16 a 16383)) b) } : Pic)
    else
      if (decide (((bAnd .u16 a 16383) : Int) < 16128)) = true then
        ({ p with names := (upd p.names (Int.toNat (mirror (bAnd .u16 a 16383) p.upright)) b) } : Pic)
      else
        ({ p with colours := (upd p.colours (Int.toNat (colour (bAnd .u16 a 16383))) b) } : Pic)
theorem pPoke_ok (p : Pic) (p_chosen : List Sprite) (a : Int) (b : Int) : FnSpec Try.prog 25 1002 [.pointer (some ⟨1000, 0, none⟩), .int .u16 a, .int .u8 b] [(1000, (Pic.bl p (.slice (some ⟨1001, 0, (some 0)⟩) (List.length p_chosen) 5) false)), (1001, ⟨[rowsL Sprite.cells Sprite.nil 5 p_chosen], 92, false⟩)] (.tuple ⟨[]⟩) [(1000, (Pic.bl (pPoke p p_chosen a b) (.slice (some ⟨1001, 0, (some 0)⟩) (List.length p_chosen) 5) false)), (1001, ⟨[rowsL Sprite.cells Sprite.nil 5 p_chosen], 92, false⟩)] := by
  unfold pPoke
  rcases bt (decide (((bAnd .u16 a 16383) : Int) ≥ 16128)) with c1 | c1
  · rw [if_pos c1]
    rcases bt (decide (((bAnd .u16 a 16383) : Int) < 8192)) with c2 | c2
    · rw [if_pos c2]
      exact fn_of_x hG hM Try.func25 (by kernel_rfl) (by kernel_rfl) 400 [.no, .yes, .call [(1000, 1000), (1001, 1001)] [] 1002 (.pointer (some ⟨1000, (Int.toNat (bAnd .u16 a 16383)), (some 0)⟩)) [(1000, (Pic.bl p (.slice (some ⟨1001, 0, (some 0)⟩) (List.length p_chosen) 5) false)), (1001, ⟨[rowsL Sprite.cells Sprite.nil 5 p_chosen], 92, false⟩)]] (J (Eq.refl false) (J c1 (J (pPlace_p1 p p_chosen a c2) (J (show (Int.toNat (bAnd .u16 a 16383)) < 8192 from by have q0_ := band16 a 16383 (by decide) (by decide); first | omega | (simp only [decide_eq_true_eq, decide_eq_false_iff_not, rng, IntKind.wrap_i64, IntKind.wrap_u8, IntKind.wrap_u16] at *; omega)) trivial)))) (by kernel_rfl)
    · rw [if_neg (nt c2)]
      rcases bt (decide (((bAnd .u16 a 16383) : Int) < 16128)) with c3 | c3
      · rw [if_pos c3]
        exact fn_of_x hG hM Try.func25 (by kernel_rfl) (by kernel_rfl) 400 [.no, .yes, .call [(1000, 1000), (1001, 1001)] [] 1002 (.pointer (some ⟨1000, (Int.toNat (mirror (bAnd .u16 a 16383) p.upright)), (some 8192)⟩)) [(1000, (Pic.bl p (.slice (some ⟨1001, 0, (some 0)⟩) (List.length p_chosen) 5) false)), (1001, ⟨[rowsL Sprite.cells Sprite.nil 5 p_chosen], 92, false⟩)]] (J (Eq.refl false) (J c1 (J (pPlace_p2 p p_chosen a c2 c3) (J (show (Int.toNat (mirror (bAnd .u16 a 16383) p.upright)) < 2048 from by have q0_ := band16 a 16383 (by decide) (by decide); have q1_ := mirror_lt (bAnd .u16 a 16383) p.upright; first | omega | (simp only [decide_eq_true_eq, decide_eq_false_iff_not, rng, IntKind.wrap_i64, IntKind.wrap_u8, IntKind.wrap_u16] at *; omega)) trivial)))) (by kernel_rfl)
      · rw [if_neg (nt c3)]
        exact fn_of_x hG hM Try.func25 (by kernel_rfl) (by kernel_rfl) 400 [.no, .yes, .call [(1000, 1000), (1001, 1001)] [] 1002 (.pointer (some ⟨1000, (Int.toNat (colour (bAnd .u16 a 16383))), (some 10240)⟩)) [(1000, (Pic.bl p (.slice (some ⟨1001, 0, (some 0)⟩) (List.length p_chosen) 5) false)), (1001, ⟨[rowsL Sprite.cells Sprite.nil 5 p_chosen], 92, false⟩)]] (J (Eq.refl false) (J c1 (J (pPlace_p3 p p_chosen a c2 c3) (J (show (Int.toNat (colour (bAnd .u16 a 16383))) < 32 from by have q0_ := band16 a 16383 (by decide) (by decide); have q1_ := colour_lt (bAnd .u16 a 16383); first | omega | (simp only [decide_eq_true_eq, decide_eq_false_iff_not, rng, IntKind.wrap_i64, IntKind.wrap_u8, IntKind.wrap_u16] at *; omega)) trivial)))) (by kernel_rfl)
  · rw [if_neg (nt c1)]
    rcases bt (decide (((bAnd .u16 a 16383) : Int) < 8192)) with c2 | c2
    · rw [if_pos c2]
      exact fn_of_x hG hM Try.func25 (by kernel_rfl) (by kernel_rfl) 400 [.no, .no, .call [(1000, 1000), (1001, 1001)] [] 1002 (.pointer (some ⟨1000, (Int.toNat (bAnd .u16 a 16383)), (some 0)⟩)) [(1000, (Pic.bl p (.slice (some ⟨1001, 0, (some 0)⟩) (List.length p_chosen) 5) false)), (1001, ⟨[rowsL Sprite.cells Sprite.nil 5 p_chosen], 92, false⟩)]] (J (Eq.refl false) (J c1 (J (pPlace_p1 p p_chosen a c2) (J (show (Int.toNat (bAnd .u16 a 16383)) < 8192 from by have q0_ := band16 a 16383 (by decide) (by decide); first | omega | (simp only [decide_eq_true_eq, decide_eq_false_iff_not, rng, IntKind.wrap_i64, IntKind.wrap_u8, IntKind.wrap_u16] at *; omega)) trivial)))) (by kernel_rfl)
    · rw [if_neg (nt c2)]
      rcases bt (decide (((bAnd .u16 a 16383) : Int) < 16128)) with c3 | c3
      · rw [if_pos c3]
        exact fn_of_x hG hM Try.func25 (by kernel_rfl) (by kernel_rfl) 400 [.no, .no, .call [(1000, 1000), (1001, 1001)] [] 1002 (.pointer (some ⟨1000, (Int.toNat (mirror (bAnd .u16 a 16383) p.upright)), (some 8192)⟩)) [(1000, (Pic.bl p (.slice (some ⟨1001, 0, (some 0)⟩) (List.length p_chosen) 5) false)), (1001, ⟨[rowsL Sprite.cells Sprite.nil 5 p_chosen], 92, false⟩)]] (J (Eq.refl false) (J c1 (J (pPlace_p2 p p_chosen a c2 c3) (J (show (Int.toNat (mirror (bAnd .u16 a 16383) p.upright)) < 2048 from by have q0_ := band16 a 16383 (by decide) (by decide); have q1_ := mirror_lt (bAnd .u16 a 16383) p.upright; first | omega | (simp only [decide_eq_true_eq, decide_eq_false_iff_not, rng, IntKind.wrap_i64, IntKind.wrap_u8, IntKind.wrap_u16] at *; omega)) trivial)))) (by kernel_rfl)
      · rw [if_neg (nt c3)]
        exact fn_of_x hG hM Try.func25 (by kernel_rfl) (by kernel_rfl) 400 [.no, .no, .call [(1000, 1000), (1001, 1001)] [] 1002 (.pointer (some ⟨1000, (Int.toNat (colour (bAnd .u16 a 16383))), (some 10240)⟩)) [(1000, (Pic.bl p (.slice (some ⟨1001, 0, (some 0)⟩) (List.length p_chosen) 5) false)), (1001, ⟨[rowsL Sprite.cells Sprite.nil 5 p_chosen], 92, false⟩)]] (J (Eq.refl false) (J c1 (J (pPlace_p3 p p_chosen a c2 c3) (J (show (Int.toNat (colour (bAnd .u16 a 16383))) < 32 from by have q0_ := band16 a 16383 (by decide) (by decide); have q1_ := colour_lt (bAnd .u16 a 16383); first | omega | (simp only [decide_eq_true_eq, decide_eq_false_iff_not, rng, IntKind.wrap_i64, IntKind.wrap_u8, IntKind.wrap_u16] at *; omega)) trivial)))) (by kernel_rfl)

theorem pPoke_w (p : Pic) (p_chosen : List Sprite) (a : Int) (b : Int) (w_p : Pic.ok p) (w_a : rng 65536 a) (w_b : rng 256 b) : Pic.ok (pPoke p p_chosen a b) := by
  unfold pPoke
  rcases bt (decide (((bAnd .u16 a 16383) : Int) ≥ 16128)) with c1 | c1
  · rw [if_pos c1]
    rcases bt (decide (((bAnd .u16 a 16383) : Int) < 8192)) with c2 | c2
    · rw [if_pos c2]
      exact (⟨(rng_upd w_p.tiles (Int.toNat (bAnd .u16 a 16383)) (rng_bAnd_u8 b 63)), w_p.names, w_p.colours, w_p.men, w_p.man, w_p.scroll, w_p.control, w_p.mask, w_p.flags, w_p.waits, w_p.bus, w_p.screen⟩ : Pic.ok ({ p with tiles := (upd p.tiles (Int.toNat (bAnd .u16 a 16383)) (bAnd .u8 b 63)) } : Pic))
    · rw [if_neg (nt c2)]
      rcases bt (decide (((bAnd .u16 a 16383) : Int) < 16128)) with c3 | c3
      · rw [if_pos c3]
        exact (⟨w_p.tiles, (rng_upd w_p.names (Int.toNat (mirror (bAnd .u16 a 16383) p.upright)) (rng_bAnd_u8 b 63)), w_p.colours, w_p.men, w_p.man, w_p.scroll, w_p.control, w_p.mask, w_p.flags, w_p.waits, w_p.bus, w_p.screen⟩ : Pic.ok ({ p with names := (upd p.names (Int.toNat (mirror (bAnd .u16 a 16383) p.upright)) (bAnd .u8 b 63)) } : Pic))
      · rw [if_neg (nt c3)]
        exact (⟨w_p.tiles, w_p.names, (rng_upd w_p.colours (Int.toNat (colour (bAnd .u16 a 16383))) (rng_bAnd_u8 b 63)), w_p.men, w_p.man, w_p.scroll, w_p.control, w_p.mask, w_p.flags, w_p.waits, w_p.bus, w_p.screen⟩ : Pic.ok ({ p with colours := (upd p.colours (Int.toNat (colour (bAnd .u16 a 16383))) (bAnd .u8 b 63)) } : Pic))
  · rw [if_neg (nt c1)]
    rcases bt (decide (((bAnd .u16 a 16383) : Int) < 8192)) with c2 | c2
    · rw [if_pos c2]
      exact (⟨(rng_upd w_p.tiles (Int.toNat (bAnd .u16 a 16383)) w_b), w_p.names, w_p.colours, w_p.men, w_p.man, w_p.scroll, w_p.control, w_p.mask, w_p.flags, w_p.waits, w_p.bus, w_p.screen⟩ : Pic.ok ({ p with tiles := (upd p.tiles (Int.toNat (bAnd .u16 a 16383)) b) } : Pic))
    · rw [if_neg (nt c2)]
      rcases bt (decide (((bAnd .u16 a 16383) : Int) < 16128)) with c3 | c3
      · rw [if_pos c3]
        exact (⟨w_p.tiles, (rng_upd w_p.names (Int.toNat (mirror (bAnd .u16 a 16383) p.upright)) w_b), w_p.colours, w_p.men, w_p.man, w_p.scroll, w_p.control, w_p.mask, w_p.flags, w_p.waits, w_p.bus, w_p.screen⟩ : Pic.ok ({ p with names := (upd p.names (Int.toNat (mirror (bAnd .u16 a 16383) p.upright)) b) } : Pic))
      · rw [if_neg (nt c3)]
        exact (⟨w_p.tiles, w_p.names, (rng_upd w_p.colours (Int.toNat (colour (bAnd .u16 a 16383))) w_b), w_p.men, w_p.man, w_p.scroll, w_p.control, w_p.mask, w_p.flags, w_p.waits, w_p.bus, w_p.screen⟩ : Pic.ok ({ p with colours := (upd p.colours (Int.toNat (colour (bAnd .u16 a 16383))) b) } : Pic))

end Go.Proofs.Ytgnhhnmpeklciaa
