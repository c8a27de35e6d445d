/-
  The picture: its memory, its registers, a dot. Written by gen_pic.py. No condition.
-/
import Derived.Test.YtgnhhnmpeklciaaPA
namespace Go.Proofs.Ytgnhhnmpeklciaa
open Go VX
set_option linter.unusedVariables false
set_option linter.unusedSimpArgs false
set_option maxRecDepth 100000

structure Sprite where
  low : Int
  high : Int
  look : Int
  x : Int
  first : Bool
def Sprite.enc (s : Sprite) : Value := .agg ⟨[.int .u8 s.low, .int .u8 s.high, .int .u8 s.look, .int .u8 s.x, .bool s.first]⟩
def Sprite.blk (s : Sprite) : Blk := ⟨[.one (.int .u8 s.low), .one (.int .u8 s.high), .one (.int .u8 s.look), .one (.int .u8 s.x), .one (.bool s.first)], 92, false⟩
def Sprite.cells (s : Sprite) : List Value := [.int .u8 s.low, .int .u8 s.high, .int .u8 s.look, .int .u8 s.x, .bool s.first]
structure Sprite.ok (s : Sprite) : Prop where
  low : rng 256 s.low
  high : rng 256 s.high
  look : rng 256 s.look
  x : rng 256 s.x

def Sprite.nil : Sprite := ⟨0, 0, 0, 0, false⟩
theorem Sprite_snoc (L : List Sprite) (x : Sprite) : addSegs [rowsL Sprite.cells Sprite.nil 5 L] (Sprite.cells x) = [rowsL Sprite.cells Sprite.nil 5 (L ++ [x])] := rowsL_snoc L x rfl
theorem Sprite_of (L : List Sprite) : SegsOk [rowsL Sprite.cells Sprite.nil 5 L] (L.flatMap Sprite.cells) := rowsL_of L (fun _ => rfl) (by decide)

structure Pic where
  tiles : Nat → Int
  names : Nat → Int
  colours : Nat → Int
  men : Nat → Int
  man : Int
  scroll : Scroll
  control : Int
  mask : Int
  flags : Int
  waits : Int
  bus : Int
  upright : Bool
  line : Int
  dot : Int
  odd : Bool
  frames : Int
  screen : Nat → Int
structure Pic.ok (s : Pic) : Prop where
  tiles : ∀ j, rng 256 (s.tiles j)
  names : ∀ j, rng 256 (s.names j)
  colours : ∀ j, rng 256 (s.colours j)
  men : ∀ j, rng 256 (s.men j)
  man : rng 256 s.man
  scroll : Scroll.ok s.scroll
  control : rng 256 s.control
  mask : rng 256 s.mask
  flags : rng 256 s.flags
  waits : rng 256 s.waits
  bus : rng 256 s.bus
  screen : ∀ j, rng 256 (s.screen j)

def Pic.bl (s : Pic) (v0 : Value) (ro : Bool) : Blk := ⟨[.ints .u8 8192 s.tiles, .ints .u8 2048 s.names, .ints .u8 32 s.colours, .ints .u8 256 s.men, .one (.int .u8 s.man), .one (.int .u16 s.scroll.V), .one (.int .u16 s.scroll.T), .one (.int .u8 s.scroll.X), .one (.bool s.scroll.W), .one (.int .u8 s.control), .one (.int .u8 s.mask), .one (.int .u8 s.flags), .one (.int .u8 s.waits), .one (.int .u8 s.bus), .one (.bool s.upright), .one (.int .i64 s.line), .one (.int .i64 s.dot), .one (.bool s.odd), .one (.int .i64 s.frames), .one v0, .ints .u8 61440 s.screen], 79, ro⟩

/-- (*kotatsu/picture.Picture).shows -/
def pShows (p : Pic) (p_chosen : List Sprite) : Bool :=
  (((bAnd .u8 p.mask 24) : Int) != 0)
theorem pShows_ok (p : Pic) (p_chosen : List Sprite) : FnSpec Try.prog 50 1002 [.pointer (some ⟨1000, 0, none⟩)] [(1000, (Pic.bl p (.slice (some ⟨1001, 0, (some 0)⟩) (List.length p_chosen) 5) true)), (1001, ⟨[rowsL Sprite.cells Sprite.nil 5 p_chosen], 92, true⟩)] (.bool (pShows p p_chosen)) [] := by
  unfold pShows
  exact fn_of_x hG hM Try.func50 (by kernel_rfl) (by kernel_rfl) 400 [] trivial (by kernel_rfl)

/-- (*kotatsu/picture.Picture).height -/
def pHeight (p : Pic) (p_chosen : List Sprite) : Int :=
  if (((bAnd .u8 p.control 32) : Int) != 0) = true then
    16
  else
    8
theorem pHeight_ok (p : Pic) (p_chosen : List Sprite) : FnSpec Try.prog 76 1002 [.pointer (some ⟨1000, 0, none⟩)] [(1000, (Pic.bl p (.slice (some ⟨1001, 0, (some 0)⟩) (List.length p_chosen) 5) true)), (1001, ⟨[rowsL Sprite.cells Sprite.nil 5 p_chosen], 92, true⟩)] (.int .i64 (pHeight p p_chosen)) [] := by
  unfold pHeight
  rcases bt (((bAnd .u8 p.control 32) : Int) != 0) with c1 | c1
  · rw [if_pos c1]
    exact fn_of_x hG hM Try.func76 (by kernel_rfl) (by kernel_rfl) 400 [.yes] (J c1 trivial) (by kernel_rfl)
  · rw [if_neg (nt c1)]
    exact fn_of_x hG hM Try.func76 (by kernel_rfl) (by kernel_rfl) 400 [.no] (J c1 trivial) (by kernel_rfl)

/-- (*kotatsu/picture.Picture).NMI -/
def pNMI (p : Pic) (p_chosen : List Sprite) : Bool :=
  if (((bAnd .u8 p.flags 128) : Int) != 0) = true then
    (((bAnd .u8 p.control 128) : Int) != 0)
  else
    false
theorem pNMI_ok (p : Pic) (p_chosen : List Sprite) : FnSpec Try.prog 24 1002 [.pointer (some ⟨1000, 0, none⟩)] [(1000, (Pic.bl p (.slice (some ⟨1001, 0, (some 0)⟩) (List.length p_chosen) 5) true)), (1001, ⟨[rowsL Sprite.cells Sprite.nil 5 p_chosen], 92, true⟩)] (.bool (pNMI p p_chosen)) [] := by
  unfold pNMI
  rcases bt (((bAnd .u8 p.flags 128) : Int) != 0) with c1 | c1
  · rw [if_pos c1]
    exact fn_of_x hG hM Try.func24 (by kernel_rfl) (by kernel_rfl) 400 [.yes, .yes, .yes, .yes, .yes, .yes, .yes, .yes, .yes, .yes, .yes, .yes, .yes, .yes] (J (Eq.refl true) (J (Eq.refl true) (J (Eq.refl true) (J (Eq.refl true) (J (Eq.refl true) (J (Eq.refl true) (J (Eq.refl true) (J c1 (J c1 (J c1 (J c1 (J c1 (J c1 (J c1 trivial)))))))))))))) (by kernel_rfl)
  · rw [if_neg (nt c1)]
    exact fn_of_x hG hM Try.func24 (by kernel_rfl) (by kernel_rfl) 400 [.yes, .yes, .yes, .yes, .yes, .yes, .yes, .no, .no, .no, .no, .no, .no, .no] (J (Eq.refl true) (J (Eq.refl true) (J (Eq.refl true) (J (Eq.refl true) (J (Eq.refl true) (J (Eq.refl true) (J (Eq.refl true) (J c1 (J c1 (J c1 (J c1 (J c1 (J c1 (J c1 trivial)))))))))))))) (by kernel_rfl)

/-- (*kotatsu/picture.Picture).Dot -/
def pDot (p : Pic) (p_chosen : List Sprite) : Int × Int :=
  (p.line, p.dot)
theorem pDot_ok (p : Pic) (p_chosen : List Sprite) : FnSpec Try.prog 34 1002 [.pointer (some ⟨1000, 0, none⟩)] [(1000, (Pic.bl p (.slice (some ⟨1001, 0, (some 0)⟩) (List.length p_chosen) 5) true)), (1001, ⟨[rowsL Sprite.cells Sprite.nil 5 p_chosen], 92, true⟩)] (.tuple ⟨[.int .i64 ((pDot p p_chosen).1), .int .i64 ((pDot p p_chosen).2)]⟩) [] := by
  unfold pDot
  exact fn_of_x hG hM Try.func34 (by kernel_rfl) (by kernel_rfl) 400 [.no] (J (Eq.refl false) trivial) (by kernel_rfl)

/-- (*kotatsu/picture.Picture).Frame -/
def pFrame (p : Pic) (p_chosen : List Sprite) : Int :=
  p.frames
theorem pFrame_ok (p : Pic) (p_chosen : List Sprite) : FnSpec Try.prog 22 1002 [.pointer (some ⟨1000, 0, none⟩)] [(1000, (Pic.bl p (.slice (some ⟨1001, 0, (some 0)⟩) (List.length p_chosen) 5) true)), (1001, ⟨[rowsL Sprite.cells Sprite.nil 5 p_chosen], 92, true⟩)] (.int .i64 (pFrame p p_chosen)) [] := by
  unfold pFrame
  exact fn_of_x hG hM Try.func22 (by kernel_rfl) (by kernel_rfl) 400 [.no] (J (Eq.refl false) trivial) (by kernel_rfl)

/-- (*kotatsu/picture.Picture).Upright -/
def pUpright (p : Pic) (p_chosen : List Sprite) (on : Bool) : Pic :=
  ({ p with upright := on } : Pic)
theorem pUpright_ok (p : Pic) (p_chosen : List Sprite) (on : Bool) : FnSpec Try.prog 31 1002 [.pointer (some ⟨1000, 0, none⟩), .bool on] [(1000, (Pic.bl p (.slice (some ⟨1001, 0, (some 0)⟩) (List.length p_chosen) 5) false)), (1001, ⟨[rowsL Sprite.cells Sprite.nil 5 p_chosen], 92, false⟩)] (.tuple ⟨[]⟩) [(1000, (Pic.bl (pUpright p p_chosen on) (.slice (some ⟨1001, 0, (some 0)⟩) (List.length p_chosen) 5) false)), (1001, ⟨[rowsL Sprite.cells Sprite.nil 5 p_chosen], 92, false⟩)] := by
  unfold pUpright
  exact fn_of_x hG hM Try.func31 (by kernel_rfl) (by kernel_rfl) 400 [.yes] (J (Eq.refl true) trivial) (by kernel_rfl)

theorem pUpright_w (p : Pic) (p_chosen : List Sprite) (on : Bool) (w_p : Pic.ok p) : Pic.ok (pUpright p p_chosen on) := by
  unfold pUpright
  exact (⟨w_p.tiles, w_p.names, w_p.colours, w_p.men, w_p.man, w_p.scroll, w_p.control, w_p.mask, w_p.flags, w_p.waits, w_p.bus, w_p.screen⟩ : Pic.ok ({ p with upright := on } : Pic))

/-- (*kotatsu/picture.Picture).next -/
def pNext (p : Pic) (p_chosen : List Sprite) : Pic :=
  if ((p.line : Int) == 261) = true then
    if (((IntKind.i64.wrap (p.dot + 1)) : Int) == 340) = true then
      if p.odd = true then
        if (pShows ({ p with dot := (IntKind.i64.wrap (p.dot + 1)) } : Pic) p_chosen) = true then
          if (decide (((IntKind.i64.wrap ((IntKind.i64.wrap (p.dot + 1)) + 1)) : Int) < 341)) = true then
            ({ p with dot := (IntKind.i64.wrap ((IntKind.i64.wrap (p.dot + 1)) + 1)) } : Pic)
          else
            if (((IntKind.i64.wrap (p.line + 1)) : Int) == 262) = true then
              ({ p with line := 0, dot := 0, odd := (!p.odd) } : Pic)
            else
              ({ p with line := (IntKind.i64.wrap (p.line + 1)), dot := 0 } : Pic)
        else
          if (decide (((IntKind.i64.wrap (p.dot + 1)) : Int) < 341)) = true then
            ({ p with dot := (IntKind.i64.wrap (p.dot + 1)) } : Pic)
          else
            if (((IntKind.i64.wrap (p.line + 1)) : Int) == 262) = true then
              ({ p with line := 0, dot := 0, odd := (!p.odd) } : Pic)
            else
              ({ p with line := (IntKind.i64.wrap (p.line + 1)), dot := 0 } : Pic)
      else
        if (decide (((IntKind.i64.wrap (p.dot + 1)) : Int) < 341)) = true then
          ({ p with dot := (IntKind.i64.wrap (p.dot + 1)) } : Pic)
        else
          if (((IntKind.i64.wrap (p.line + 1)) : Int) == 262) = true then
            ({ p with line := 0, dot := 0, odd := (!p.odd) } : Pic)
          else
            ({ p with line := (IntKind.i64.wrap (p.line + 1)), dot := 0 } : Pic)
    else
      if (decide (((IntKind.i64.wrap (p.dot + 1)) : Int) < 341)) = true then
        ({ p with dot := (IntKind.i64.wrap (p.dot + 1)) } : Pic)
      else
        if (((IntKind.i64.wrap (p.line + 1)) : Int) == 262) = true then
          ({ p with line := 0, dot := 0, odd := (!p.odd) } : Pic)
        else
          ({ p with line := (IntKind.i64.wrap (p.line + 1)), dot := 0 } : Pic)
  else
    if (decide (((IntKind.i64.wrap (p.dot + 1)) : Int) < 341)) = true then
      ({ p with dot := (IntKind.i64.wrap (p.dot + 1)) } : Pic)
    else
      if (((IntKind.i64.wrap (p.line + 1)) : Int) == 262) = true then
        ({ p with line := 0, dot := 0, odd := (!p.odd) } : Pic)
      else
        ({ p with line := (IntKind.i64.wrap (p.line + 1)), dot := 0 } : Pic)
theorem pNext_ok (p : Pic) (p_chosen : List Sprite) : FnSpec Try.prog 53 1002 [.pointer (some ⟨1000, 0, none⟩)] [(1000, (Pic.bl p (.slice (some ⟨1001, 0, (some 0)⟩) (List.length p_chosen) 5) false)), (1001, ⟨[rowsL Sprite.cells Sprite.nil 5 p_chosen], 92, false⟩)] (.tuple ⟨[]⟩) [(1000, (Pic.bl (pNext p p_chosen) (.slice (some ⟨1001, 0, (some 0)⟩) (List.length p_chosen) 5) false)), (1001, ⟨[rowsL Sprite.cells Sprite.nil 5 p_chosen], 92, false⟩)] := by
  unfold pNext
  rcases bt ((p.line : Int) == 261) with c1 | c1
  · rw [if_pos c1]
    rcases bt (((IntKind.i64.wrap (p.dot + 1)) : Int) == 340) with c2 | c2
    · rw [if_pos c2]
      rcases bt p.odd with c3 | c3
      · rw [if_pos c3]
        rcases bt (pShows ({ p with dot := (IntKind.i64.wrap (p.dot + 1)) } : Pic) p_chosen) with c4 | c4
        · rw [if_pos c4]
          rcases bt (decide (((IntKind.i64.wrap ((IntKind.i64.wrap (p.dot + 1)) + 1)) : Int) < 341)) with c5 | c5
          · rw [if_pos c5]
            exact fn_of_x hG hM Try.func53 (by kernel_rfl) (by kernel_rfl) 400 [.yes, .yes, .yes, .yes, .yes, .yes, .yes, .yes, .yes, .yes, .yes, .yes, .yes, .callr [(1000, 1000), (1001, 1001)] [1000, 1001] [] 1002 (.bool (pShows ({ p with dot := (IntKind.i64.wrap (p.dot + 1)) } : Pic) p_chosen)) [], .yes, .yes, .yes] (J c1 (J c1 (J c1 (J c1 (J c1 (J c1 (J c2 (J c2 (J c2 (J c2 (J c2 (J c3 (J c3 (J (pShows_ok ({ p with dot := (IntKind.i64.wrap (p.dot + 1)) } : Pic) p_chosen) (J c3 (J c4 (J c5 trivial))))))))))))))))) (by kernel_rfl)
          · rw [if_neg (nt c5)]
            rcases bt (((IntKind.i64.wrap (p.line + 1)) : Int) == 262) with c6 | c6
            · rw [if_pos c6]
              exact fn_of_x hG hM Try.func53 (by kernel_rfl) (by kernel_rfl) 400 [.yes, .yes, .yes, .yes, .yes, .yes, .yes, .yes, .yes, .yes, .yes, .yes, .yes, .callr [(1000, 1000), (1001, 1001)] [1000, 1001] [] 1002 (.bool (pShows ({ p with dot := (IntKind.i64.wrap (p.dot + 1)) } : Pic) p_chosen)) [], .yes, .yes, .no, .yes] (J c1 (J c1 (J c1 (J c1 (J c1 (J c1 (J c2 (J c2 (J c2 (J c2 (J c2 (J c3 (J c3 (J (pShows_ok ({ p with dot := (IntKind.i64.wrap (p.dot + 1)) } : Pic) p_chosen) (J c3 (J c4 (J c5 (J c6 trivial)))))))))))))))))) (by kernel_rfl)
            · rw [if_neg (nt c6)]
              exact fn_of_x hG hM Try.func53 (by kernel_rfl) (by kernel_rfl) 400 [.yes, .yes, .yes, .yes, .yes, .yes, .yes, .yes, .yes, .yes, .yes, .yes, .yes, .callr [(1000, 1000), (1001, 1001)] [1000, 1001] [] 1002 (.bool (pShows ({ p with dot := (IntKind.i64.wrap (p.dot + 1)) } : Pic) p_chosen)) [], .yes, .yes, .no, .no] (J c1 (J c1 (J c1 (J c1 (J c1 (J c1 (J c2 (J c2 (J c2 (J c2 (J c2 (J c3 (J c3 (J (pShows_ok ({ p with dot := (IntKind.i64.wrap (p.dot + 1)) } : Pic) p_chosen) (J c3 (J c4 (J c5 (J c6 trivial)))))))))))))))))) (by kernel_rfl)
        · rw [if_neg (nt c4)]
          rcases bt (decide (((IntKind.i64.wrap (p.dot + 1)) : Int) < 341)) with c5 | c5
          · rw [if_pos c5]
            exact fn_of_x hG hM Try.func53 (by kernel_rfl) (by kernel_rfl) 400 [.yes, .yes, .yes, .yes, .yes, .yes, .yes, .yes, .yes, .yes, .yes, .yes, .yes, .callr [(1000, 1000), (1001, 1001)] [1000, 1001] [] 1002 (.bool (pShows ({ p with dot := (IntKind.i64.wrap (p.dot + 1)) } : Pic) p_chosen)) [], .yes, .no, .yes] (J c1 (J c1 (J c1 (J c1 (J c1 (J c1 (J c2 (J c2 (J c2 (J c2 (J c2 (J c3 (J c3 (J (pShows_ok ({ p with dot := (IntKind.i64.wrap (p.dot + 1)) } : Pic) p_chosen) (J c3 (J c4 (J c5 trivial))))))))))))))))) (by kernel_rfl)
          · rw [if_neg (nt c5)]
            rcases bt (((IntKind.i64.wrap (p.line + 1)) : Int) == 262) with c6 | c6
            · rw [if_pos c6]
              exact fn_of_x hG hM Try.func53 (by kernel_rfl) (by kernel_rfl) 400 [.yes, .yes, .yes, .yes, .yes, .yes, .yes, .yes, .yes, .yes, .yes, .yes, .yes, .callr [(1000, 1000), (1001, 1001)] [1000, 1001] [] 1002 (.bool (pShows ({ p with dot := (IntKind.i64.wrap (p.dot + 1)) } : Pic) p_chosen)) [], .yes, .no, .no, .yes] (J c1 (J c1 (J c1 (J c1 (J c1 (J c1 (J c2 (J c2 (J c2 (J c2 (J c2 (J c3 (J c3 (J (pShows_ok ({ p with dot := (IntKind.i64.wrap (p.dot + 1)) } : Pic) p_chosen) (J c3 (J c4 (J c5 (J c6 trivial)))))))))))))))))) (by kernel_rfl)
            · rw [if_neg (nt c6)]
              exact fn_of_x hG hM Try.func53 (by kernel_rfl) (by kernel_rfl) 400 [.yes, .yes, .yes, .yes, .yes, .yes, .yes, .yes, .yes, .yes, .yes, .yes, .yes, .callr [(1000, 1000), (1001, 1001)] [1000, 1001] [] 1002 (.bool (pShows ({ p with dot := (IntKind.i64.wrap (p.dot + 1)) } : Pic) p_chosen)) [], .yes, .no, .no, .no] (J c1 (J c1 (J c1 (J c1 (J c1 (J c1 (J c2 (J c2 (J c2 (J c2 (J c2 (J c3 (J c3 (J (pShows_ok ({ p with dot := (IntKind.i64.wrap (p.dot + 1)) } : Pic) p_chosen) (J c3 (J c4 (J c5 (J c6 trivial)))))))))))))))))) (by kernel_rfl)
      · rw [if_neg (nt c3)]
        rcases bt (decide (((IntKind.i64.wrap (p.dot + 1)) : Int) < 341)) with c4 | c4
        · rw [if_pos c4]
          exact fn_of_x hG hM Try.func53 (by kernel_rfl) (by kernel_rfl) 400 [.yes, .yes, .yes, .yes, .yes, .yes, .yes, .yes, .yes, .yes, .yes, .no, .no, .no, .no, .yes] (J c1 (J c1 (J c1 (J c1 (J c1 (J c1 (J c2 (J c2 (J c2 (J c2 (J c2 (J c3 (J c3 (J c3 (J (Eq.refl false) (J c4 trivial)))))))))))))))) (by kernel_rfl)
        · rw [if_neg (nt c4)]
          rcases bt (((IntKind.i64.wrap (p.line + 1)) : Int) == 262) with c5 | c5
          · rw [if_pos c5]
            exact fn_of_x hG hM Try.func53 (by kernel_rfl) (by kernel_rfl) 400 [.yes, .yes, .yes, .yes, .yes, .yes, .yes, .yes, .yes, .yes, .yes, .no, .no, .no, .no, .no, .yes] (J c1 (J c1 (J c1 (J c1 (J c1 (J c1 (J c2 (J c2 (J c2 (J c2 (J c2 (J c3 (J c3 (J c3 (J (Eq.refl false) (J c4 (J c5 trivial))))))))))))))))) (by kernel_rfl)
          · rw [if_neg (nt c5)]
            exact fn_of_x hG hM Try.func53 (by kernel_rfl) (by kernel_rfl) 400 [.yes, .yes, .yes, .yes, .yes, .yes, .yes, .yes, .yes, .yes, .yes, .no, .no, .no, .no, .no, .no] (J c1 (J c1 (J c1 (J c1 (J c1 (J c1 (J c2 (J c2 (J c2 (J c2 (J c2 (J c3 (J c3 (J c3 (J (Eq.refl false) (J c4 (J c5 trivial))))))))))))))))) (by kernel_rfl)
    · rw [if_neg (nt c2)]
      rcases bt (decide (((IntKind.i64.wrap (p.dot + 1)) : Int) < 341)) with c3 | c3
      · rw [if_pos c3]
        exact fn_of_x hG hM Try.func53 (by kernel_rfl) (by kernel_rfl) 400 [.yes, .yes, .yes, .yes, .yes, .yes, .no, .no, .no, .no, .no, .no, .no, .no, .no, .yes] (J c1 (J c1 (J c1 (J c1 (J c1 (J c1 (J c2 (J c2 (J c2 (J c2 (J c2 (J (Eq.refl false) (J (Eq.refl false) (J (Eq.refl false) (J (Eq.refl false) (J c3 trivial)))))))))))))))) (by kernel_rfl)
      · rw [if_neg (nt c3)]
        rcases bt (((IntKind.i64.wrap (p.line + 1)) : Int) == 262) with c4 | c4
        · rw [if_pos c4]
          exact fn_of_x hG hM Try.func53 (by kernel_rfl) (by kernel_rfl) 400 [.yes, .yes, .yes, .yes, .yes, .yes, .no, .no, .no, .no, .no, .no, .no, .no, .no, .no, .yes] (J c1 (J c1 (J c1 (J c1 (J c1 (J c1 (J c2 (J c2 (J c2 (J c2 (J c2 (J (Eq.refl false) (J (Eq.refl false) (J (Eq.refl false) (J (Eq.refl false) (J c3 (J c4 trivial))))))))))))))))) (by kernel_rfl)
        · rw [if_neg (nt c4)]
          exact fn_of_x hG hM Try.func53 (by kernel_rfl) (by kernel_rfl) 400 [.yes, .yes, .yes, .yes, .yes, .yes, .no, .no, .no, .no, .no, .no, .no, .no, .no, .no, .no] (J c1 (J c1 (J c1 (J c1 (J c1 (J c1 (J c2 (J c2 (J c2 (J c2 (J c2 (J (Eq.refl false) (J (Eq.refl false) (J (Eq.refl false) (J (Eq.refl false) (J c3 (J c4 trivial))))))))))))))))) (by kernel_rfl)
  · rw [if_neg (nt c1)]
    rcases bt (decide (((IntKind.i64.wrap (p.dot + 1)) : Int) < 341)) with c2 | c2
    · rw [if_pos c2]
      exact fn_of_x hG hM Try.func53 (by kernel_rfl) (by kernel_rfl) 400 [.no, .no, .no, .no, .no, .no, .no, .no, .no, .no, .no, .no, .no, .no, .no, .yes] (J c1 (J c1 (J c1 (J c1 (J c1 (J c1 (J (Eq.refl false) (J (Eq.refl false) (J (Eq.refl false) (J (Eq.refl false) (J (Eq.refl false) (J (Eq.refl false) (J (Eq.refl false) (J (Eq.refl false) (J (Eq.refl false) (J c2 trivial)))))))))))))))) (by kernel_rfl)
    · rw [if_neg (nt c2)]
      rcases bt (((IntKind.i64.wrap (p.line + 1)) : Int) == 262) with c3 | c3
      · rw [if_pos c3]
        exact fn_of_x hG hM Try.func53 (by kernel_rfl) (by kernel_rfl) 400 [.no, .no, .no, .no, .no, .no, .no, .no, .no, .no, .no, .no, .no, .no, .no, .no, .yes] (J c1 (J c1 (J c1 (J c1 (J c1 (J c1 (J (Eq.refl false) (J (Eq.refl false) (J (Eq.refl false) (J (Eq.refl false) (J (Eq.refl false) (J (Eq.refl false) (J (Eq.refl false) (J (Eq.refl false) (J (Eq.refl false) (J c2 (J c3 trivial))))))))))))))))) (by kernel_rfl)
      · rw [if_neg (nt c3)]
        exact fn_of_x hG hM Try.func53 (by kernel_rfl) (by kernel_rfl) 400 [.no, .no, .no, .no, .no, .no, .no, .no, .no, .no, .no, .no, .no, .no, .no, .no, .no] (J c1 (J c1 (J c1 (J c1 (J c1 (J c1 (J (Eq.refl false) (J (Eq.refl false) (J (Eq.refl false) (J (Eq.refl false) (J (Eq.refl false) (J (Eq.refl false) (J (Eq.refl false) (J (Eq.refl false) (J (Eq.refl false) (J c2 (J c3 trivial))))))))))))))))) (by kernel_rfl)

theorem pNext_w (p : Pic) (p_chosen : List Sprite) (w_p : Pic.ok p) : Pic.ok (pNext p p_chosen) := by
  unfold pNext
  rcases bt ((p.line : Int) == 261) with c1 | c1
  · rw [if_pos c1]
    rcases bt (((IntKind.i64.wrap (p.dot + 1)) : Int) == 340) with c2 | c2
    · rw [if_pos c2]
      rcases bt p.odd with c3 | c3
      · rw [if_pos c3]
        rcases bt (pShows ({ p with dot := (IntKind.i64.wrap (p.dot + 1)) } : Pic) p_chosen) with c4 | c4
        · rw [if_pos c4]
          rcases bt (decide (((IntKind.i64.wrap ((IntKind.i64.wrap (p.dot + 1)) + 1)) : Int) < 341)) with c5 | c5
          · rw [if_pos c5]
            exact (⟨w_p.tiles, w_p.names, w_p.colours, w_p.men, w_p.man, w_p.scroll, w_p.control, w_p.mask, w_p.flags, w_p.waits, w_p.bus, w_p.screen⟩ : Pic.ok ({ p with dot := (IntKind.i64.wrap ((IntKind.i64.wrap (p.dot + 1)) + 1)) } : Pic))
          · rw [if_neg (nt c5)]
            rcases bt (((IntKind.i64.wrap (p.line + 1)) : Int) == 262) with c6 | c6
            · rw [if_pos c6]
              exact (⟨w_p.tiles, w_p.names, w_p.colours, w_p.men, w_p.man, w_p.scroll, w_p.control, w_p.mask, w_p.flags, w_p.waits, w_p.bus, w_p.screen⟩ : Pic.ok ({ p with line := 0, dot := 0, odd := (!p.odd) } : Pic))
            · rw [if_neg (nt c6)]
              exact (⟨w_p.tiles, w_p.names, w_p.colours, w_p.men, w_p.man, w_p.scroll, w_p.control, w_p.mask, w_p.flags, w_p.waits, w_p.bus, w_p.screen⟩ : Pic.ok ({ p with line := (IntKind.i64.wrap (p.line + 1)), dot := 0 } : Pic))
        · rw [if_neg (nt c4)]
          rcases bt (decide (((IntKind.i64.wrap (p.dot + 1)) : Int) < 341)) with c5 | c5
          · rw [if_pos c5]
            exact (⟨w_p.tiles, w_p.names, w_p.colours, w_p.men, w_p.man, w_p.scroll, w_p.control, w_p.mask, w_p.flags, w_p.waits, w_p.bus, w_p.screen⟩ : Pic.ok ({ p with dot := (IntKind.i64.wrap (p.dot + 1)) } : Pic))
          · rw [if_neg (nt c5)]
            rcases bt (((IntKind.i64.wrap (p.line + 1)) : Int) == 262) with c6 | c6
            · rw [if_pos c6]
              exact (⟨w_p.tiles, w_p.names, w_p.colours, w_p.men, w_p.man, w_p.scroll, w_p.control, w_p.mask, w_p.flags, w_p.waits, w_p.bus, w_p.screen⟩ : Pic.ok ({ p with line := 0, dot := 0, odd := (!p.odd) } : Pic))
            · rw [if_neg (nt c6)]
              exact (⟨w_p.tiles, w_p.names, w_p.colours, w_p.men, w_p.man, w_p.scroll, w_p.control, w_p.mask, w_p.flags, w_p.waits, w_p.bus, w_p.screen⟩ : Pic.ok ({ p with line := (IntKind.i64.wrap (p.line + 1)), dot := 0 } : Pic))
      · rw [if_neg (nt c3)]
        rcases bt (decide (((IntKind.i64.wrap (p.dot + 1)) : Int) < 341)) with c4 | c4
        · rw [if_pos c4]
          exact (⟨w_p.tiles, w_p.names, w_p.colours, w_p.men, w_p.man, w_p.scroll, w_p.control, w_p.mask, w_p.flags, w_p.waits, w_p.bus, w_p.screen⟩ : Pic.ok ({ p with dot := (IntKind.i64.wrap (p.dot + 1)) } : Pic))
        · rw [if_neg (nt c4)]
          rcases bt (((IntKind.i64.wrap (p.line + 1)) : Int) == 262) with c5 | c5
          · rw [if_pos c5]
            exact (⟨w_p.tiles, w_p.names, w_p.colours, w_p.men, w_p.man, w_p.scroll, w_p.control, w_p.mask, w_p.flags, w_p.waits, w_p.bus, w_p.screen⟩ : Pic.ok ({ p with line := 0, dot := 0, odd := (!p.odd) } : Pic))
          · rw [if_neg (nt c5)]
            exact (⟨w_p.tiles, w_p.names, w_p.colours, w_p.men, w_p.man, w_p.scroll, w_p.control, w_p.mask, w_p.flags, w_p.waits, w_p.bus, w_p.screen⟩ : Pic.ok ({ p with line := (IntKind.i64.wrap (p.line + 1)), dot := 0 } : Pic))
    · rw [if_neg (nt c2)]
      rcases bt (decide (((IntKind.i64.wrap (p.dot + 1)) : Int) < 341)) with c3 | c3
      · rw [if_pos c3]
        exact (⟨w_p.tiles, w_p.names, w_p.colours, w_p.men, w_p.man, w_p.scroll, w_p.control, w_p.mask, w_p.flags, w_p.waits, w_p.bus, w_p.screen⟩ : Pic.ok ({ p with dot := (IntKind.i64.wrap (p.dot + 1)) } : Pic))
      · rw [if_neg (nt c3)]
        rcases bt (((IntKind.i64.wrap (p.line + 1)) : Int) == 262) with c4 | c4
        · rw [if_pos c4]
          exact (⟨w_p.tiles, w_p.names, w_p.colours, w_p.men, w_p.man, w_p.scroll, w_p.control, w_p.mask, w_p.flags, w_p.waits, w_p.bus, w_p.screen⟩ : Pic.ok ({ p with line := 0, dot := 0, odd := (!p.odd) } : Pic))
        · rw [if_neg (nt c4)]
          exact (⟨w_p.tiles, w_p.names, w_p.colours, w_p.men, w_p.man, w_p.scroll, w_p.control, w_p.mask, w_p.flags, w_p.waits, w_p.bus, w_p.screen⟩ : Pic.ok ({ p with line := (IntKind.i64.wrap (p.line + 1)), dot := 0 } : Pic))
  · rw [if_neg (nt c1)]
    rcases bt (decide (((IntKind.i64.wrap (p.dot + 1)) : Int) < 341)) with c2 | c2
    · rw [if_pos c2]
      exact (⟨w_p.tiles, w_p.names, w_p.colours, w_p.men, w_p.man, w_p.scroll, w_p.control, w_p.mask, w_p.flags, w_p.waits, w_p.bus, w_p.screen⟩ : Pic.ok ({ p with dot := (IntKind.i64.wrap (p.dot + 1)) } : Pic))
    · rw [if_neg (nt c2)]
      rcases bt (((IntKind.i64.wrap (p.line + 1)) : Int) == 262) with c3 | c3
      · rw [if_pos c3]
        exact (⟨w_p.tiles, w_p.names, w_p.colours, w_p.men, w_p.man, w_p.scroll, w_p.control, w_p.mask, w_p.flags, w_p.waits, w_p.bus, w_p.screen⟩ : Pic.ok ({ p with line := 0, dot := 0, odd := (!p.odd) } : Pic))
      · rw [if_neg (nt c3)]
        exact (⟨w_p.tiles, w_p.names, w_p.colours, w_p.men, w_p.man, w_p.scroll, w_p.control, w_p.mask, w_p.flags, w_p.waits, w_p.bus, w_p.screen⟩ : Pic.ok ({ p with line := (IntKind.i64.wrap (p.line + 1)), dot := 0 } : Pic))

/-- (*kotatsu/picture.Picture).move -/
def pMove (p : Pic) (p_chosen : List Sprite) : Pic :=
  if (decide ((p.dot : Int) ≥ 280)) = true then
    if (decide ((p.dot : Int) ≤ 304)) = true then
      if ((p.line : Int) == 261) = true then
        ({ p with scroll := (sTop p.scroll) } : Pic)
      else
        if ((p.dot : Int) == 257) = true then
          ({ p with scroll := (sLine p.scroll) } : Pic)
        else
          if ((p.dot : Int) == 256) = true then
            ({ p with scroll := (sDown p.scroll) } : Pic)
          else
            if (decide ((p.dot : Int) > 0)) = true then
              if (decide ((p.dot : Int) < 256)) = true then
                if (((Int.tmod p.dot 8) : Int) == 0) = true then
                  ({ p with scroll := (sRight p.scroll) } : Pic)
                else
                  p
              else
                p
            else
              p
    else
      if ((p.dot : Int) == 257) = true then
        ({ p with scroll := (sLine p.scroll) } : Pic)
      else
        if ((p.dot : Int) == 256) = true then
          ({ p with scroll := (sDown p.scroll) } : Pic)
        else
          if (decide ((p.dot : Int) > 0)) = true then
            if (decide ((p.dot : Int) < 256)) = true then
              if (((Int.tmod p.dot 8) : Int) == 0) = true then
                ({ p with scroll := (sRight p.scroll) } : Pic)
              else
                p
            else
              p
          else
            p
  else
    if ((p.dot : Int) == 257) = true then
      ({ p with scroll := (sLine p.scroll) } : Pic)
    else
      if ((p.dot : Int) == 256) = true then
        ({ p with scroll := (sDown p.scroll) } : Pic)
      else
        if (decide ((p.dot : Int) > 0)) = true then
          if (decide ((p.dot : Int) < 256)) = true then
            if (((Int.tmod p.dot 8) : Int) == 0) = true then
              ({ p with scroll := (sRight p.scroll) } : Pic)
            else
              p
          else
            p
        else
          p
theorem pMove_ok (p : Pic) (p_chosen : List Sprite) : FnSpec Try.prog 51 1002 [.pointer (some ⟨1000, 0, none⟩)] [(1000, (Pic.bl p (.slice (some ⟨1001, 0, (some 0)⟩) (List.length p_chosen) 5) false)), (1001, ⟨[rowsL Sprite.cells Sprite.nil 5 p_chosen], 92, false⟩)] (.tuple ⟨[]⟩) [(1000, (Pic.bl (pMove p p_chosen) (.slice (some ⟨1001, 0, (some 0)⟩) (List.length p_chosen) 5) false)), (1001, ⟨[rowsL Sprite.cells Sprite.nil 5 p_chosen], 92, false⟩)] := by
  unfold pMove
  rcases bt (decide ((p.dot : Int) ≥ 280)) with c1 | c1
  · rw [if_pos c1]
    rcases bt (decide ((p.dot : Int) ≤ 304)) with c2 | c2
    · rw [if_pos c2]
      rcases bt ((p.line : Int) == 261) with c3 | c3
      · rw [if_pos c3]
        exact fn_of_x hG hM Try.func51 (by kernel_rfl) (by kernel_rfl) 400 [.yes, .yes, .yes, .yes, .yes, .yes, .yes, .yes, .yes, .yes, .yes, .yes, .yes, .call [] [] 1000 (Scroll.enc (sTop p.scroll)) []] (J c1 (J c1 (J c1 (J c1 (J c1 (J c1 (J c2 (J c2 (J c2 (J c2 (J c2 (J c2 (J c3 (J (sTop_ok p.scroll) trivial)))))))))))))) (by kernel_rfl)
      · rw [if_neg (nt c3)]
        rcases bt ((p.dot : Int) == 257) with c4 | c4
        · rw [if_pos c4]
          exact fn_of_x hG hM Try.func51 (by kernel_rfl) (by kernel_rfl) 400 [.yes, .yes, .yes, .yes, .yes, .yes, .yes, .yes, .yes, .yes, .yes, .yes, .no, .yes, .call [] [] 1000 (Scroll.enc (sLine p.scroll)) []] (J c1 (J c1 (J c1 (J c1 (J c1 (J c1 (J c2 (J c2 (J c2 (J c2 (J c2 (J c2 (J c3 (J c4 (J (sLine_ok p.scroll) trivial))))))))))))))) (by kernel_rfl)
        · rw [if_neg (nt c4)]
          rcases bt ((p.dot : Int) == 256) with c5 | c5
          · rw [if_pos c5]
            exact fn_of_x hG hM Try.func51 (by kernel_rfl) (by kernel_rfl) 400 [.yes, .yes, .yes, .yes, .yes, .yes, .yes, .yes, .yes, .yes, .yes, .yes, .no, .no, .yes, .call [] [] 1000 (Scroll.enc (sDown p.scroll)) []] (J c1 (J c1 (J c1 (J c1 (J c1 (J c1 (J c2 (J c2 (J c2 (J c2 (J c2 (J c2 (J c3 (J c4 (J c5 (J (sDown_ok p.scroll) trivial)))))))))))))))) (by kernel_rfl)
          · rw [if_neg (nt c5)]
            rcases bt (decide ((p.dot : Int) > 0)) with c6 | c6
            · rw [if_pos c6]
              rcases bt (decide ((p.dot : Int) < 256)) with c7 | c7
              · rw [if_pos c7]
                rcases bt (((Int.tmod p.dot 8) : Int) == 0) with c8 | c8
                · rw [if_pos c8]
                  exact fn_of_x hG hM Try.func51 (by kernel_rfl) (by kernel_rfl) 400 [.yes, .yes, .yes, .yes, .yes, .yes, .yes, .yes, .yes, .yes, .yes, .yes, .no, .no, .no, .yes, .yes, .yes, .yes, .yes, .yes, .yes, .yes, .yes, .yes, .yes, .yes, .yes, .yes, .call [] [] 1000 (Scroll.enc (sRight p.scroll)) []] (J c1 (J c1 (J c1 (J c1 (J c1 (J c1 (J c2 (J c2 (J c2 (J c2 (J c2 (J c2 (J c3 (J c4 (J c5 (J c6 (J c6 (J c6 (J c6 (J c6 (J c6 (J c7 (J c7 (J c7 (J c7 (J c7 (J (by decide : ((8 : Int) ≠ 0)) (J c7 (J c7 (J c8 (J (sRight_ok p.scroll) trivial))))))))))))))))))))))))))))))) (by kernel_rfl)
                · rw [if_neg (nt c8)]
                  exact fn_of_x hG hM Try.func51 (by kernel_rfl) (by kernel_rfl) 400 [.yes, .yes, .yes, .yes, .yes, .yes, .yes, .yes, .yes, .yes, .yes, .yes, .no, .no, .no, .yes, .yes, .yes, .yes, .yes, .yes, .yes, .yes, .yes, .yes, .yes, .yes, .yes, .no] (J c1 (J c1 (J c1 (J c1 (J c1 (J c1 (J c2 (J c2 (J c2 (J c2 (J c2 (J c2 (J c3 (J c4 (J c5 (J c6 (J c6 (J c6 (J c6 (J c6 (J c6 (J c7 (J c7 (J c7 (J c7 (J c7 (J (by decide : ((8 : Int) ≠ 0)) (J c7 (J c7 (J c8 trivial)))))))))))))))))))))))))))))) (by kernel_rfl)
              · rw [if_neg (nt c7)]
                exact fn_of_x hG hM Try.func51 (by kernel_rfl) (by kernel_rfl) 400 [.yes, .yes, .yes, .yes, .yes, .yes, .yes, .yes, .yes, .yes, .yes, .yes, .no, .no, .no, .yes, .yes, .yes, .yes, .yes, .yes, .no, .no, .no, .no, .no, .no, .no, .no] (J c1 (J c1 (J c1 (J c1 (J c1 (J c1 (J c2 (J c2 (J c2 (J c2 (J c2 (J c2 (J c3 (J c4 (J c5 (J c6 (J c6 (J c6 (J c6 (J c6 (J c6 (J c7 (J c7 (J c7 (J c7 (J c7 (J c7 (J c7 (J (Eq.refl false) trivial))))))))))))))))))))))))))))) (by kernel_rfl)
            · rw [if_neg (nt c6)]
              exact fn_of_x hG hM Try.func51 (by kernel_rfl) (by kernel_rfl) 400 [.yes, .yes, .yes, .yes, .yes, .yes, .yes, .yes, .yes, .yes, .yes, .yes, .no, .no, .no, .no, .no, .no, .no, .no, .no, .no, .no, .no, .no, .no, .no, .no, .no] (J c1 (J c1 (J c1 (J c1 (J c1 (J c1 (J c2 (J c2 (J c2 (J c2 (J c2 (J c2 (J c3 (J c4 (J c5 (J c6 (J c6 (J c6 (J c6 (J c6 (J c6 (J (Eq.refl false) (J (Eq.refl false) (J (Eq.refl false) (J (Eq.refl false) (J (Eq.refl false) (J (Eq.refl false) (J (Eq.refl false) (J (Eq.refl false) trivial))))))))))))))))))))))))))))) (by kernel_rfl)
    · rw [if_neg (nt c2)]
      rcases bt ((p.dot : Int) == 257) with c3 | c3
      · rw [if_pos c3]
        exact fn_of_x hG hM Try.func51 (by kernel_rfl) (by kernel_rfl) 400 [.yes, .yes, .yes, .yes, .yes, .yes, .no, .no, .no, .no, .no, .no, .no, .yes, .call [] [] 1000 (Scroll.enc (sLine p.scroll)) []] (J c1 (J c1 (J c1 (J c1 (J c1 (J c1 (J c2 (J c2 (J c2 (J c2 (J c2 (J c2 (J (Eq.refl false) (J c3 (J (sLine_ok p.scroll) trivial))))))))))))))) (by kernel_rfl)
      · rw [if_neg (nt c3)]
        rcases bt ((p.dot : Int) == 256) with c4 | c4
        · rw [if_pos c4]
          exact fn_of_x hG hM Try.func51 (by kernel_rfl) (by kernel_rfl) 400 [.yes, .yes, .yes, .yes, .yes, .yes, .no, .no, .no, .no, .no, .no, .no, .no, .yes, .call [] [] 1000 (Scroll.enc (sDown p.scroll)) []] (J c1 (J c1 (J c1 (J c1 (J c1 (J c1 (J c2 (J c2 (J c2 (J c2 (J c2 (J c2 (J (Eq.refl false) (J c3 (J c4 (J (sDown_ok p.scroll) trivial)))))))))))))))) (by kernel_rfl)
        · rw [if_neg (nt c4)]
          rcases bt (decide ((p.dot : Int) > 0)) with c5 | c5
          · rw [if_pos c5]
            rcases bt (decide ((p.dot : Int) < 256)) with c6 | c6
            · rw [if_pos c6]
              rcases bt (((Int.tmod p.dot 8) : Int) == 0) with c7 | c7
              · rw [if_pos c7]
                exact fn_of_x hG hM Try.func51 (by kernel_rfl) (by kernel_rfl) 400 [.yes, .yes, .yes, .yes, .yes, .yes, .no, .no, .no, .no, .no, .no, .no, .no, .no, .yes, .yes, .yes, .yes, .yes, .yes, .yes, .yes, .yes, .yes, .yes, .yes, .yes, .yes, .call [] [] 1000 (Scroll.enc (sRight p.scroll)) []] (J c1 (J c1 (J c1 (J c1 (J c1 (J c1 (J c2 (J c2 (J c2 (J c2 (J c2 (J c2 (J (Eq.refl false) (J c3 (J c4 (J c5 (J c5 (J c5 (J c5 (J c5 (J c5 (J c6 (J c6 (J c6 (J c6 (J c6 (J (by decide : ((8 : Int) ≠ 0)) (J c6 (J c6 (J c7 (J (sRight_ok p.scroll) trivial))))))))))))))))))))))))))))))) (by kernel_rfl)
              · rw [if_neg (nt c7)]
                exact fn_of_x hG hM Try.func51 (by kernel_rfl) (by kernel_rfl) 400 [.yes, .yes, .yes, .yes, .yes, .yes, .no, .no, .no, .no, .no, .no, .no, .no, .no, .yes, .yes, .yes, .yes, .yes, .yes, .yes, .yes, .yes, .yes, .yes, .yes, .yes, .no] (J c1 (J c1 (J c1 (J c1 (J c1 (J c1 (J c2 (J c2 (J c2 (J c2 (J c2 (J c2 (J (Eq.refl false) (J c3 (J c4 (J c5 (J c5 (J c5 (J c5 (J c5 (J c5 (J c6 (J c6 (J c6 (J c6 (J c6 (J (by decide : ((8 : Int) ≠ 0)) (J c6 (J c6 (J c7 trivial)))))))))))))))))))))))))))))) (by kernel_rfl)
            · rw [if_neg (nt c6)]
              exact fn_of_x hG hM Try.func51 (by kernel_rfl) (by kernel_rfl) 400 [.yes, .yes, .yes, .yes, .yes, .yes, .no, .no, .no, .no, .no, .no, .no, .no, .no, .yes, .yes, .yes, .yes, .yes, .yes, .no, .no, .no, .no, .no, .no, .no, .no] (J c1 (J c1 (J c1 (J c1 (J c1 (J c1 (J c2 (J c2 (J c2 (J c2 (J c2 (J c2 (J (Eq.refl false) (J c3 (J c4 (J c5 (J c5 (J c5 (J c5 (J c5 (J c5 (J c6 (J c6 (J c6 (J c6 (J c6 (J c6 (J c6 (J (Eq.refl false) trivial))))))))))))))))))))))))))))) (by kernel_rfl)
          · rw [if_neg (nt c5)]
            exact fn_of_x hG hM Try.func51 (by kernel_rfl) (by kernel_rfl) 400 [.yes, .yes, .yes, .yes, .yes, .yes, .no, .no, .no, .no, .no, .no, .no, .no, .no, .no, .no, .no, .no, .no, .no, .no, .no, .no, .no, .no, .no, .no, .no] (J c1 (J c1 (J c1 (J c1 (J c1 (J c1 (J c2 (J c2 (J c2 (J c2 (J c2 (J c2 (J (Eq.refl false) (J c3 (J c4 (J c5 (J c5 (J c5 (J c5 (J c5 (J c5 (J (Eq.refl false) (J (Eq.refl false) (J (Eq.refl false) (J (Eq.refl false) (J (Eq.refl false) (J (Eq.refl false) (J (Eq.refl false) (J (Eq.refl false) trivial))))))))))))))))))))))))))))) (by kernel_rfl)
  · rw [if_neg (nt c1)]
    rcases bt ((p.dot : Int) == 257) with c2 | c2
    · rw [if_pos c2]
      exact fn_of_x hG hM Try.func51 (by kernel_rfl) (by kernel_rfl) 400 [.no, .no, .no, .no, .no, .no, .no, .no, .no, .no, .no, .no, .no, .yes, .call [] [] 1000 (Scroll.enc (sLine p.scroll)) []] (J c1 (J c1 (J c1 (J c1 (J c1 (J c1 (J (Eq.refl false) (J (Eq.refl false) (J (Eq.refl false) (J (Eq.refl false) (J (Eq.refl false) (J (Eq.refl false) (J (Eq.refl false) (J c2 (J (sLine_ok p.scroll) trivial))))))))))))))) (by kernel_rfl)
    · rw [if_neg (nt c2)]
      rcases bt ((p.dot : Int) == 256) with c3 | c3
      · rw [if_pos c3]
        exact fn_of_x hG hM Try.func51 (by kernel_rfl) (by kernel_rfl) 400 [.no, .no, .no, .no, .no, .no, .no, .no, .no, .no, .no, .no, .no, .no, .yes, .call [] [] 1000 (Scroll.enc (sDown p.scroll)) []] (J c1 (J c1 (J c1 (J c1 (J c1 (J c1 (J (Eq.refl false) (J (Eq.refl false) (J (Eq.refl false) (J (Eq.refl false) (J (Eq.refl false) (J (Eq.refl false) (J (Eq.refl false) (J c2 (J c3 (J (sDown_ok p.scroll) trivial)))))))))))))))) (by kernel_rfl)
      · rw [if_neg (nt c3)]
        rcases bt (decide ((p.dot : Int) > 0)) with c4 | c4
        · rw [if_pos c4]
          rcases bt (decide ((p.dot : Int) < 256)) with c5 | c5
          · rw [if_pos c5]
            rcases bt (((Int.tmod p.dot 8) : Int) == 0) with c6 | c6
            · rw [if_pos c6]
              exact fn_of_x hG hM Try.func51 (by kernel_rfl) (by kernel_rfl) 400 [.no, .no, .no, .no, .no, .no, .no, .no, .no, .no, .no, .no, .no, .no, .no, .yes, .yes, .yes, .yes, .yes, .yes, .yes, .yes, .yes, .yes, .yes, .yes, .yes, .yes, .call [] [] 1000 (Scroll.enc (sRight p.scroll)) []] (J c1 (J c1 (J c1 (J c1 (J c1 (J c1 (J (Eq.refl false) (J (Eq.refl false) (J (Eq.refl false) (J (Eq.refl false) (J (Eq.refl false) (J (Eq.refl false) (J (Eq.refl false) (J c2 (J c3 (J c4 (J c4 (J c4 (J c4 (J c4 (J c4 (J c5 (J c5 (J c5 (J c5 (J c5 (J (by decide : ((8 : Int) ≠ 0)) (J c5 (J c5 (J c6 (J (sRight_ok p.scroll) trivial))))))))))))))))))))))))))))))) (by kernel_rfl)
            · rw [if_neg (nt c6)]
              exact fn_of_x hG hM Try.func51 (by kernel_rfl) (by kernel_rfl) 400 [.no, .no, .no, .no, .no, .no, .no, .no, .no, .no, .no, .no, .no, .no, .no, .yes, .yes, .yes, .yes, .yes, .yes, .yes, .yes, .yes, .yes, .yes, .yes, .yes, .no] (J c1 (J c1 (J c1 (J c1 (J c1 (J c1 (J (Eq.refl false) (J (Eq.refl false) (J (Eq.refl false) (J (Eq.refl false) (J (Eq.refl false) (J (Eq.refl false) (J (Eq.refl false) (J c2 (J c3 (J c4 (J c4 (J c4 (J c4 (J c4 (J c4 (J c5 (J c5 (J c5 (J c5 (J c5 (J (by decide : ((8 : Int) ≠ 0)) (J c5 (J c5 (J c6 trivial)))))))))))))))))))))))))))))) (by kernel_rfl)
          · rw [if_neg (nt c5)]
            exact fn_of_x hG hM Try.func51 (by kernel_rfl) (by kernel_rfl) 400 [.no, .no, .no, .no, .no, .no, .no, .no, .no, .no, .no, .no, .no, .no, .no, .yes, .yes, .yes, .yes, .yes, .yes, .no, .no, .no, .no, .no, .no, .no, .no] (J c1 (J c1 (J c1 (J c1 (J c1 (J c1 (J (Eq.refl false) (J (Eq.refl false) (J (Eq.refl false) (J (Eq.refl false) (J (Eq.refl false) (J (Eq.refl false) (J (Eq.refl false) (J c2 (J c3 (J c4 (J c4 (J c4 (J c4 (J c4 (J c4 (J c5 (J c5 (J c5 (J c5 (J c5 (J c5 (J c5 (J (Eq.refl false) trivial))))))))))))))))))))))))))))) (by kernel_rfl)
        · rw [if_neg (nt c4)]
          exact fn_of_x hG hM Try.func51 (by kernel_rfl) (by kernel_rfl) 400 [.no, .no, .no, .no, .no, .no, .no, .no, .no, .no, .no, .no, .no, .no, .no, .no, .no, .no, .no, .no, .no, .no, .no, .no, .no, .no, .no, .no, .no] (J c1 (J c1 (J c1 (J c1 (J c1 (J c1 (J (Eq.refl false) (J (Eq.refl false) (J (Eq.refl false) (J (Eq.refl false) (J (Eq.refl false) (J (Eq.refl false) (J (Eq.refl false) (J c2 (J c3 (J c4 (J c4 (J c4 (J c4 (J c4 (J c4 (J (Eq.refl false) (J (Eq.refl false) (J (Eq.refl false) (J (Eq.refl false) (J (Eq.refl false) (J (Eq.refl false) (J (Eq.refl false) (J (Eq.refl false) trivial))))))))))))))))))))))))))))) (by kernel_rfl)

theorem pMove_w (p : Pic) (p_chosen : List Sprite) (w_p : Pic.ok p) : Pic.ok (pMove p p_chosen) := by
  unfold pMove
  rcases bt (decide ((p.dot : Int) ≥ 280)) with c1 | c1
  · rw [if_pos c1]
    rcases bt (decide ((p.dot : Int) ≤ 304)) with c2 | c2
    · rw [if_pos c2]
      rcases bt ((p.line : Int) == 261) with c3 | c3
      · rw [if_pos c3]
        exact (⟨w_p.tiles, w_p.names, w_p.colours, w_p.men, w_p.man, (sTop_w p.scroll w_p.scroll), w_p.control, w_p.mask, w_p.flags, w_p.waits, w_p.bus, w_p.screen⟩ : Pic.ok ({ p with scroll := (sTop p.scroll) } : Pic))
      · rw [if_neg (nt c3)]
        rcases bt ((p.dot : Int) == 257) with c4 | c4
        · rw [if_pos c4]
          exact (⟨w_p.tiles, w_p.names, w_p.colours, w_p.men, w_p.man, (sLine_w p.scroll w_p.scroll), w_p.control, w_p.mask, w_p.flags, w_p.waits, w_p.bus, w_p.screen⟩ : Pic.ok ({ p with scroll := (sLine p.scroll) } : Pic))
        · rw [if_neg (nt c4)]
          rcases bt ((p.dot : Int) == 256) with c5 | c5
          · rw [if_pos c5]
            exact (⟨w_p.tiles, w_p.names, w_p.colours, w_p.men, w_p.man, (sDown_w p.scroll w_p.scroll), w_p.control, w_p.mask, w_p.flags, w_p.waits, w_p.bus, w_p.screen⟩ : Pic.ok ({ p with scroll := (sDown p.scroll) } : Pic))
          · rw [if_neg (nt c5)]
            rcases bt (decide ((p.dot : Int) > 0)) with c6 | c6
            · rw [if_pos c6]
              rcases bt (decide ((p.dot : Int) < 256)) with c7 | c7
              · rw [if_pos c7]
                rcases bt (((Int.tmod p.dot 8) : Int) == 0) with c8 | c8
                · rw [if_pos c8]
                  exact (⟨w_p.tiles, w_p.names, w_p.colours, w_p.men, w_p.man, (sRight_w p.scroll w_p.scroll), w_p.control, w_p.mask, w_p.flags, w_p.waits, w_p.bus, w_p.screen⟩ : Pic.ok ({ p with scroll := (sRight p.scroll) } : Pic))
                · rw [if_neg (nt c8)]
                  exact w_p
              · rw [if_neg (nt c7)]
                exact w_p
            · rw [if_neg (nt c6)]
              exact w_p
    · rw [if_neg (nt c2)]
      rcases bt ((p.dot : Int) == 257) with c3 | c3
      · rw [if_pos c3]
        exact (⟨w_p.tiles, w_p.names, w_p.colours, w_p.men, w_p.man, (sLine_w p.scroll w_p.scroll), w_p.control, w_p.mask, w_p.flags, w_p.waits, w_p.bus, w_p.screen⟩ : Pic.ok ({ p with scroll := (sLine p.scroll) } : Pic))
      · rw [if_neg (nt c3)]
        rcases bt ((p.dot : Int) == 256) with c4 | c4
        · rw [if_pos c4]
          exact (⟨w_p.tiles, w_p.names, w_p.colours, w_p.men, w_p.man, (sDown_w p.scroll w_p.scroll), w_p.control, w_p.mask, w_p.flags, w_p.waits, w_p.bus, w_p.screen⟩ : Pic.ok ({ p with scroll := (sDown p.scroll) } : Pic))
        · rw [if_neg (nt c4)]
          rcases bt (decide ((p.dot : Int) > 0)) with c5 | c5
          · rw [if_pos c5]
            rcases bt (decide ((p.dot : Int) < 256)) with c6 | c6
            · rw [if_pos c6]
              rcases bt (((Int.tmod p.dot 8) : Int) == 0) with c7 | c7
              · rw [if_pos c7]
                exact (⟨w_p.tiles, w_p.names, w_p.colours, w_p.men, w_p.man, (sRight_w p.scroll w_p.scroll), w_p.control, w_p.mask, w_p.flags, w_p.waits, w_p.bus, w_p.screen⟩ : Pic.ok ({ p with scroll := (sRight p.scroll) } : Pic))
              · rw [if_neg (nt c7)]
                exact w_p
            · rw [if_neg (nt c6)]
              exact w_p
          · rw [if_neg (nt c5)]
            exact w_p
  · rw [if_neg (nt c1)]
    rcases bt ((p.dot : Int) == 257) with c2 | c2
    · rw [if_pos c2]
      exact (⟨w_p.tiles, w_p.names, w_p.colours, w_p.men, w_p.man, (sLine_w p.scroll w_p.scroll), w_p.control, w_p.mask, w_p.flags, w_p.waits, w_p.bus, w_p.screen⟩ : Pic.ok ({ p with scroll := (sLine p.scroll) } : Pic))
    · rw [if_neg (nt c2)]
      rcases bt ((p.dot : Int) == 256) with c3 | c3
      · rw [if_pos c3]
        exact (⟨w_p.tiles, w_p.names, w_p.colours, w_p.men, w_p.man, (sDown_w p.scroll w_p.scroll), w_p.control, w_p.mask, w_p.flags, w_p.waits, w_p.bus, w_p.screen⟩ : Pic.ok ({ p with scroll := (sDown p.scroll) } : Pic))
      · rw [if_neg (nt c3)]
        rcases bt (decide ((p.dot : Int) > 0)) with c4 | c4
        · rw [if_pos c4]
          rcases bt (decide ((p.dot : Int) < 256)) with c5 | c5
          · rw [if_pos c5]
            rcases bt (((Int.tmod p.dot 8) : Int) == 0) with c6 | c6
            · rw [if_pos c6]
              exact (⟨w_p.tiles, w_p.names, w_p.colours, w_p.men, w_p.man, (sRight_w p.scroll w_p.scroll), w_p.control, w_p.mask, w_p.flags, w_p.waits, w_p.bus, w_p.screen⟩ : Pic.ok ({ p with scroll := (sRight p.scroll) } : Pic))
            · rw [if_neg (nt c6)]
              exact w_p
          · rw [if_neg (nt c5)]
            exact w_p
        · rw [if_neg (nt c4)]
          exact w_p

end Go.Proofs.Ytgnhhnmpeklciaa
