/-
  The picture: its registers. Written by gen_pic.py. No condition.
-/
import Derived.Test.YtgnhhnmpeklciaaPI
namespace Go.Proofs.Ytgnhhnmpeklciaa
open Go VX
set_option linter.unusedVariables false
set_option linter.unusedSimpArgs false
set_option maxRecDepth 100000

set_option maxHeartbeats 4000000
/-- kotatsu/picture.New -/
def picNew  : Unit :=
  ()
theorem picNew_ok  : FnSpec Try.prog 14 1000 [] [] (.pointer (some ⟨1000, 0, none⟩)) [] := by
  exact fn_of_x hG hM Try.func14 (by kernel_rfl) (by kernel_rfl) 400 [] trivial (by kernel_rfl)

/-- (*kotatsu/picture.Picture).read -/
def pRead (p : Pic) (p_chosen : List Sprite) (a : Int) : Pic × Int :=
  if (decide (((bAnd .u16 a 16383) : Int) ≥ 16128)) = true then
    (({ p with waits := (p.names (Int.toNat (mirror a p.upright))) } : Pic), (bOr .u8 (pPeek p p_chosen a) (bAndNot .u8 p.bus 63)))
  else
    (({ p with waits := (pPeek p p_chosen a) } : Pic), p.waits)
theorem pRead_ok (p : Pic) (p_chosen : List Sprite) (a : Int) : FnSpec Try.prog 39 1002 [.pointer (some ⟨1000, 0, none⟩), .int .u16 a] [(1000, (Pic.bl p (.slice (some ⟨1001, 0, (some 0)⟩) (List.length p_chosen) 5) false)), (1001, ⟨[rowsL Sprite.cells Sprite.nil 5 p_chosen], 92, false⟩)] (.int .u8 ((pRead p p_chosen a).2)) [(1000, (Pic.bl ((pRead p p_chosen a).1) (.slice (some ⟨1001, 0, (some 0)⟩) (List.length p_chosen) 5) false)), (1001, ⟨[rowsL Sprite.cells Sprite.nil 5 p_chosen], 92, false⟩)] := by
  unfold pRead
  rcases bt (decide (((bAnd .u16 a 16383) : Int) ≥ 16128)) with c1 | c1
  · rw [if_pos c1]
    exact fn_of_x hG hM Try.func39 (by kernel_rfl) (by kernel_rfl) 400 [.call [(1000, 1000), (1001, 1001)] [] 1002 (.int .u8 (pPeek p p_chosen a)) [(1000, (Pic.bl p (.slice (some ⟨1001, 0, (some 0)⟩) (List.length p_chosen) 5) false)), (1001, ⟨[rowsL Sprite.cells Sprite.nil 5 p_chosen], 92, false⟩)], .yes, .call [] [] 1000 (.int .u16 (mirror a p.upright)) [], .sym] (J (pPeek_ok p p_chosen a) (J c1 (J (mirror_ok a p.upright) (J (show 0 ≤ (mirror a p.upright) ∧ (mirror a p.upright) < ((2048 : Nat) : Int) from by have q0_ := mirror_lt a p.upright; first | omega | (simp only [decide_eq_true_eq, decide_eq_false_iff_not, rng, IntKind.wrap_i64, IntKind.wrap_u8, IntKind.wrap_u16] at *; omega)) (J (show (Int.toNat (mirror a p.upright)) < 2048 from by have q0_ := mirror_lt a p.upright; first | omega | (simp only [decide_eq_true_eq, decide_eq_false_iff_not, rng, IntKind.wrap_i64, IntKind.wrap_u8, IntKind.wrap_u16] at *; omega)) trivial))))) (by kernel_rfl)
  · rw [if_neg (nt c1)]
    exact fn_of_x hG hM Try.func39 (by kernel_rfl) (by kernel_rfl) 400 [.call [(1000, 1000), (1001, 1001)] [] 1002 (.int .u8 (pPeek p p_chosen a)) [(1000, (Pic.bl p (.slice (some ⟨1001, 0, (some 0)⟩) (List.length p_chosen) 5) false)), (1001, ⟨[rowsL Sprite.cells Sprite.nil 5 p_chosen], 92, false⟩)], .no] (J (pPeek_ok p p_chosen a) (J c1 trivial)) (by kernel_rfl)

theorem pRead_w1 (p : Pic) (p_chosen : List Sprite) (a : Int) (w_p : Pic.ok p) (w_a : rng 65536 a) : Pic.ok (pRead p p_chosen a).1 := by
  unfold pRead
  rcases bt (decide (((bAnd .u16 a 16383) : Int) ≥ 16128)) with c1 | c1
  · rw [if_pos c1]
    exact (⟨w_p.tiles, w_p.names, w_p.colours, w_p.men, w_p.man, w_p.scroll, w_p.control, w_p.mask, w_p.flags, (w_p.names (Int.toNat (mirror a p.upright))), w_p.bus, w_p.screen⟩ : Pic.ok ({ p with waits := (p.names (Int.toNat (mirror a p.upright))) } : Pic))
  · rw [if_neg (nt c1)]
    exact (⟨w_p.tiles, w_p.names, w_p.colours, w_p.men, w_p.man, w_p.scroll, w_p.control, w_p.mask, w_p.flags, (pPeek_w p p_chosen a w_p w_a), w_p.bus, w_p.screen⟩ : Pic.ok ({ p with waits := (pPeek p p_chosen a) } : Pic))

theorem pRead_w2 (p : Pic) (p_chosen : List Sprite) (a : Int) (w_p : Pic.ok p) (w_a : rng 65536 a) : rng 256 (pRead p p_chosen a).2 := by
  unfold pRead
  rcases bt (decide (((bAnd .u16 a 16383) : Int) ≥ 16128)) with c1 | c1
  · rw [if_pos c1]
    exact (rng_bOr_u8 (pPeek p p_chosen a) (bAndNot .u8 p.bus 63))
  · rw [if_neg (nt c1)]
    exact w_p.waits

/-- (*kotatsu/picture.Picture).Get -/
def pGet (p : Pic) (p_chosen : List Sprite) (reg : Int) : Pic × Int :=
  if (((Int.tmod reg 8) : Int) == 2) = true then
    (({ p with scroll := (sLook p.scroll), flags := (bAndNot .u8 p.flags 128), bus := (bOr .u8 p.flags (bAnd .u8 p.bus 31)) } : Pic), (bOr .u8 p.flags (bAnd .u8 p.bus 31)))
  else
    if (((Int.tmod reg 8) : Int) == 4) = true then
      if (((Int.tmod p.man 4) : Int) == 2) = true then
        (({ p with bus := (bAnd .u8 (p.men (Int.toNat p.man)) 227) } : Pic), (bAnd .u8 (p.men (Int.toNat p.man)) 227))
      else
        (({ p with bus := (p.men (Int.toNat p.man)) } : Pic), (p.men (Int.toNat p.man)))
    else
      if (((Int.tmod reg 8) : Int) == 7) = true then
        (({ ((pRead p p_chosen p.scroll.V).1) with scroll := (sStep (((pRead p p_chosen p.scroll.V).1).scroll) (((bAnd .u8 (((pRead p p_chosen p.scroll.V).1).control) 4) : Int) != 0)), bus := (pRead p p_chosen p.scroll.V).2 } : Pic), (pRead p p_chosen p.scroll.V).2)
      else
        (p, p.bus)
theorem pGet_ok (p : Pic) (p_chosen : List Sprite) (reg : Int) (w_p : Pic.ok p) : FnSpec Try.prog 17 1002 [.pointer (some ⟨1000, 0, none⟩), .int .u8 reg] [(1000, (Pic.bl p (.slice (some ⟨1001, 0, (some 0)⟩) (List.length p_chosen) 5) false)), (1001, ⟨[rowsL Sprite.cells Sprite.nil 5 p_chosen], 92, false⟩)] (.int .u8 ((pGet p p_chosen reg).2)) [(1000, (Pic.bl ((pGet p p_chosen reg).1) (.slice (some ⟨1001, 0, (some 0)⟩) (List.length p_chosen) 5) false)), (1001, ⟨[rowsL Sprite.cells Sprite.nil 5 p_chosen], 92, false⟩)] := by
  unfold pGet
  rcases bt (((Int.tmod reg 8) : Int) == 2) with c1 | c1
  · rw [if_pos c1]
    exact fn_of_x hG hM Try.func17 (by kernel_rfl) (by kernel_rfl) 400 [.no, .yes, .call [] [] 1000 (Scroll.enc (sLook p.scroll)) []] (J (Eq.refl false) (J (by decide : ((8 : Int) ≠ 0)) (J c1 (J (sLook_ok p.scroll) trivial)))) (by kernel_rfl)
  · rw [if_neg (nt c1)]
    rcases bt (((Int.tmod reg 8) : Int) == 4) with c2 | c2
    · rw [if_pos c2]
      rcases bt (((Int.tmod p.man 4) : Int) == 2) with c3 | c3
      · rw [if_pos c3]
        exact fn_of_x hG hM Try.func17 (by kernel_rfl) (by kernel_rfl) 400 [.no, .no, .yes, .sym, .yes] (J (Eq.refl false) (J (by decide : ((8 : Int) ≠ 0)) (J c1 (J c2 (J w_p.man (J (toNat_lt w_p.man) (J (by decide : ((4 : Int) ≠ 0)) (J c3 trivial)))))))) (by kernel_rfl)
      · rw [if_neg (nt c3)]
        exact fn_of_x hG hM Try.func17 (by kernel_rfl) (by kernel_rfl) 400 [.no, .no, .yes, .sym, .no] (J (Eq.refl false) (J (by decide : ((8 : Int) ≠ 0)) (J c1 (J c2 (J w_p.man (J (toNat_lt w_p.man) (J (by decide : ((4 : Int) ≠ 0)) (J c3 trivial)))))))) (by kernel_rfl)
    · rw [if_neg (nt c2)]
      rcases bt (((Int.tmod reg 8) : Int) == 7) with c3 | c3
      · rw [if_pos c3]
        exact fn_of_x hG hM Try.func17 (by kernel_rfl) (by kernel_rfl) 400 [.no, .no, .no, .yes, .call [(1000, 1000), (1001, 1001)] [] 1002 (.int .u8 ((pRead p p_chosen p.scroll.V).2)) [(1000, (Pic.bl ((pRead p p_chosen p.scroll.V).1) (.slice (some ⟨1001, 0, (some 0)⟩) (List.length p_chosen) 5) false)), (1001, ⟨[rowsL Sprite.cells Sprite.nil 5 p_chosen], 92, false⟩)], .call [] [] 1000 (Scroll.enc (sStep (((pRead p p_chosen p.scroll.V).1).scroll) (((bAnd .u8 (((pRead p p_chosen p.scroll.V).1).control) 4) : Int) != 0))) []] (J (Eq.refl false) (J (by decide : ((8 : Int) ≠ 0)) (J c1 (J c2 (J c3 (J (pRead_ok p p_chosen p.scroll.V) (J (sStep_ok (((pRead p p_chosen p.scroll.V).1).scroll) (((bAnd .u8 (((pRead p p_chosen p.scroll.V).1).control) 4) : Int) != 0)) trivial))))))) (by kernel_rfl)
      · rw [if_neg (nt c3)]
        exact fn_of_x hG hM Try.func17 (by kernel_rfl) (by kernel_rfl) 400 [.no, .no, .no, .no] (J (Eq.refl false) (J (by decide : ((8 : Int) ≠ 0)) (J c1 (J c2 (J c3 trivial))))) (by kernel_rfl)

theorem pGet_w1 (p : Pic) (p_chosen : List Sprite) (reg : Int) (w_p : Pic.ok p) (w_reg : rng 256 reg) : Pic.ok (pGet p p_chosen reg).1 := by
  unfold pGet
  rcases bt (((Int.tmod reg 8) : Int) == 2) with c1 | c1
  · rw [if_pos c1]
    exact (⟨w_p.tiles, w_p.names, w_p.colours, w_p.men, w_p.man, (sLook_w p.scroll w_p.scroll), w_p.control, w_p.mask, (rng_bAndNot_u8 p.flags 128), w_p.waits, (rng_bOr_u8 p.flags (bAnd .u8 p.bus 31)), w_p.screen⟩ : Pic.ok ({ p with scroll := (sLook p.scroll), flags := (bAndNot .u8 p.flags 128), bus := (bOr .u8 p.flags (bAnd .u8 p.bus 31)) } : Pic))
  · rw [if_neg (nt c1)]
    rcases bt (((Int.tmod reg 8) : Int) == 4) with c2 | c2
    · rw [if_pos c2]
      rcases bt (((Int.tmod p.man 4) : Int) == 2) with c3 | c3
      · rw [if_pos c3]
        exact (⟨w_p.tiles, w_p.names, w_p.colours, w_p.men, w_p.man, w_p.scroll, w_p.control, w_p.mask, w_p.flags, w_p.waits, (rng_bAnd_u8 (p.men (Int.toNat p.man)) 227), w_p.screen⟩ : Pic.ok ({ p with bus := (bAnd .u8 (p.men (Int.toNat p.man)) 227) } : Pic))
      · rw [if_neg (nt c3)]
        exact (⟨w_p.tiles, w_p.names, w_p.colours, w_p.men, w_p.man, w_p.scroll, w_p.control, w_p.mask, w_p.flags, w_p.waits, (w_p.men (Int.toNat p.man)), w_p.screen⟩ : Pic.ok ({ p with bus := (p.men (Int.toNat p.man)) } : Pic))
    · rw [if_neg (nt c2)]
      rcases bt (((Int.tmod reg 8) : Int) == 7) with c3 | c3
      · rw [if_pos c3]
        exact (⟨(pRead_w1 p p_chosen p.scroll.V w_p w_p.scroll.V).tiles, (pRead_w1 p p_chosen p.scroll.V w_p w_p.scroll.V).names, (pRead_w1 p p_chosen p.scroll.V w_p w_p.scroll.V).colours, (pRead_w1 p p_chosen p.scroll.V w_p w_p.scroll.V).men, (pRead_w1 p p_chosen p.scroll.V w_p w_p.scroll.V).man, (sStep_w (((pRead p p_chosen p.scroll.V).1).scroll) (((bAnd .u8 (((pRead p p_chosen p.scroll.V).1).control) 4) : Int) != 0) ((pRead_w1 p p_chosen p.scroll.V w_p w_p.scroll.V).scroll)), (pRead_w1 p p_chosen p.scroll.V w_p w_p.scroll.V).control, (pRead_w1 p p_chosen p.scroll.V w_p w_p.scroll.V).mask, (pRead_w1 p p_chosen p.scroll.V w_p w_p.scroll.V).flags, (pRead_w1 p p_chosen p.scroll.V w_p w_p.scroll.V).waits, (pRead_w2 p p_chosen p.scroll.V w_p w_p.scroll.V), (pRead_w1 p p_chosen p.scroll.V w_p w_p.scroll.V).screen⟩ : Pic.ok ({ ((pRead p p_chosen p.scroll.V).1) with scroll := (sStep (((pRead p p_chosen p.scroll.V).1).scroll) (((bAnd .u8 (((pRead p p_chosen p.scroll.V).1).control) 4) : Int) != 0)), bus := (pRead p p_chosen p.scroll.V).2 } : Pic))
      · rw [if_neg (nt c3)]
        exact w_p

theorem pGet_w2 (p : Pic) (p_chosen : List Sprite) (reg : Int) (w_p : Pic.ok p) (w_reg : rng 256 reg) : rng 256 (pGet p p_chosen reg).2 := by
  unfold pGet
  rcases bt (((Int.tmod reg 8) : Int) == 2) with c1 | c1
  · rw [if_pos c1]
    exact (rng_bOr_u8 p.flags (bAnd .u8 p.bus 31))
  · rw [if_neg (nt c1)]
    rcases bt (((Int.tmod reg 8) : Int) == 4) with c2 | c2
    · rw [if_pos c2]
      rcases bt (((Int.tmod p.man 4) : Int) == 2) with c3 | c3
      · rw [if_pos c3]
        exact (rng_bAnd_u8 (p.men (Int.toNat p.man)) 227)
      · rw [if_neg (nt c3)]
        exact (w_p.men (Int.toNat p.man))
    · rw [if_neg (nt c2)]
      rcases bt (((Int.tmod reg 8) : Int) == 7) with c3 | c3
      · rw [if_pos c3]
        exact (pRead_w2 p p_chosen p.scroll.V w_p w_p.scroll.V)
      · rw [if_neg (nt c3)]
        exact w_p.bus

/-- (*kotatsu/picture.Picture).Put -/
def pPut (p : Pic) (p_chosen : List Sprite) (reg : Int) (b : Int) : Pic :=
  if (((Int.tmod reg 8) : Int) == 0) = true then
    ({ p with scroll := (sControl p.scroll b), control := b, bus := b } : Pic)
  else
    if (((Int.tmod reg 8) : Int) == 1) = true then
      ({ p with mask := b, bus := b } : Pic)
    else
      if (((Int.tmod reg 8) : Int) == 3) = true then
        ({ p with man := b, bus := b } : Pic)
      else
        if (((Int.tmod reg 8) : Int) == 4) = true then
          ({ p with men := (upd p.men (Int.toNat p.man) b), man := (IntKind.u8.wrap (p.man + 1)), bus := b } : Pic)
        else
          if (((Int.tmod reg 8) : Int) == 5) = true then
            ({ p with scroll := (sOffset p.scroll b), bus := b } : Pic)
          else
            if (((Int.tmod reg 8) : Int) == 6) = true then
              ({ p with scroll := (sAddress p.scroll b), bus := b } : Pic)
            else
              if (((Int.tmod reg 8) : Int) == 7) = true then
                ({ (pPoke ({ p with bus := b } : Pic) p_chosen p.scroll.V b) with scroll := (sStep ((pPoke ({ p with bus := b } : Pic) p_chosen p.scroll.V b).scroll) (((bAnd .u8 ((pPoke ({ p with bus := b } : Pic) p_chosen p.scroll.V b).control) 4) : Int) != 0)) } : Pic)
              else
                ({ p with bus := b } : Pic)
theorem pPut_ok (p : Pic) (p_chosen : List Sprite) (reg : Int) (b : Int) (w_p : Pic.ok p) : FnSpec Try.prog 21 1002 [.pointer (some ⟨1000, 0, none⟩), .int .u8 reg, .int .u8 b] [(1000, (Pic.bl p (.slice (some ⟨1001, 0, (some 0)⟩) (List.length p_chosen) 5) false)), (1001, ⟨[rowsL Sprite.cells Sprite.nil 5 p_chosen], 92, false⟩)] (.tuple ⟨[]⟩) [(1000, (Pic.bl (pPut p p_chosen reg b) (.slice (some ⟨1001, 0, (some 0)⟩) (List.length p_chosen) 5) false)), (1001, ⟨[rowsL Sprite.cells Sprite.nil 5 p_chosen], 92, false⟩)] := by
  unfold pPut
  rcases bt (((Int.tmod reg 8) : Int) == 0) with c1 | c1
  · rw [if_pos c1]
    exact fn_of_x hG hM Try.func21 (by kernel_rfl) (by kernel_rfl) 400 [.no, .yes, .call [] [] 1000 (Scroll.enc (sControl p.scroll b)) []] (J (Eq.refl false) (J (by decide : ((8 : Int) ≠ 0)) (J c1 (J (sControl_ok p.scroll b) trivial)))) (by kernel_rfl)
  · rw [if_neg (nt c1)]
    rcases bt (((Int.tmod reg 8) : Int) == 1) with c2 | c2
    · rw [if_pos c2]
      exact fn_of_x hG hM Try.func21 (by kernel_rfl) (by kernel_rfl) 400 [.no, .no, .yes] (J (Eq.refl false) (J (by decide : ((8 : Int) ≠ 0)) (J c1 (J c2 trivial)))) (by kernel_rfl)
    · rw [if_neg (nt c2)]
      rcases bt (((Int.tmod reg 8) : Int) == 3) with c3 | c3
      · rw [if_pos c3]
        exact fn_of_x hG hM Try.func21 (by kernel_rfl) (by kernel_rfl) 400 [.no, .no, .no, .yes] (J (Eq.refl false) (J (by decide : ((8 : Int) ≠ 0)) (J c1 (J c2 (J c3 trivial))))) (by kernel_rfl)
      · rw [if_neg (nt c3)]
        rcases bt (((Int.tmod reg 8) : Int) == 4) with c4 | c4
        · rw [if_pos c4]
          exact fn_of_x hG hM Try.func21 (by kernel_rfl) (by kernel_rfl) 400 [.no, .no, .no, .no, .yes, .sym] (J (Eq.refl false) (J (by decide : ((8 : Int) ≠ 0)) (J c1 (J c2 (J c3 (J c4 (J w_p.man (J (toNat_lt w_p.man) trivial)))))))) (by kernel_rfl)
        · rw [if_neg (nt c4)]
          rcases bt (((Int.tmod reg 8) : Int) == 5) with c5 | c5
          · rw [if_pos c5]
            exact fn_of_x hG hM Try.func21 (by kernel_rfl) (by kernel_rfl) 400 [.no, .no, .no, .no, .no, .yes, .call [] [] 1000 (Scroll.enc (sOffset p.scroll b)) []] (J (Eq.refl false) (J (by decide : ((8 : Int) ≠ 0)) (J c1 (J c2 (J c3 (J c4 (J c5 (J (sOffset_ok p.scroll b) trivial)))))))) (by kernel_rfl)
          · rw [if_neg (nt c5)]
            rcases bt (((Int.tmod reg 8) : Int) == 6) with c6 | c6
            · rw [if_pos c6]
              exact fn_of_x hG hM Try.func21 (by kernel_rfl) (by kernel_rfl) 400 [.no, .no, .no, .no, .no, .no, .yes, .call [] [] 1000 (Scroll.enc (sAddress p.scroll b)) []] (J (Eq.refl false) (J (by decide : ((8 : Int) ≠ 0)) (J c1 (J c2 (J c3 (J c4 (J c5 (J c6 (J (sAddress_ok p.scroll b) trivial))))))))) (by kernel_rfl)
            · rw [if_neg (nt c6)]
              rcases bt (((Int.tmod reg 8) : Int) == 7) with c7 | c7
              · rw [if_pos c7]
                exact fn_of_x hG hM Try.func21 (by kernel_rfl) (by kernel_rfl) 400 [.no, .no, .no, .no, .no, .no, .no, .yes, .call [(1000, 1000), (1001, 1001)] [] 1002 (.tuple ⟨[]⟩) [(1000, (Pic.bl (pPoke ({ p with bus := b } : Pic) p_chosen p.scroll.V b) (.slice (some ⟨1001, 0, (some 0)⟩) (List.length p_chosen) 5) false)), (1001, ⟨[rowsL Sprite.cells Sprite.nil 5 p_chosen], 92, false⟩)], .call [] [] 1000 (Scroll.enc (sStep ((pPoke ({ p with bus := b } : Pic) p_chosen p.scroll.V b).scroll) (((bAnd .u8 ((pPoke ({ p with bus := b } : Pic) p_chosen p.scroll.V b).control) 4) : Int) != 0))) []] (J (Eq.refl false) (J (by decide : ((8 : Int) ≠ 0)) (J c1 (J c2 (J c3 (J c4 (J c5 (J c6 (J c7 (J (pPoke_ok ({ p with bus := b } : Pic) p_chosen p.scroll.V b) (J (sStep_ok ((pPoke ({ p with bus := b } : Pic) p_chosen p.scroll.V b).scroll) (((bAnd .u8 ((pPoke ({ p with bus := b } : Pic) p_chosen p.scroll.V b).control) 4) : Int) != 0)) trivial))))))))))) (by kernel_rfl)
              · rw [if_neg (nt c7)]
                exact fn_of_x hG hM Try.func21 (by kernel_rfl) (by kernel_rfl) 400 [.no, .no, .no, .no, .no, .no, .no, .no] (J (Eq.refl false) (J (by decide : ((8 : Int) ≠ 0)) (J c1 (J c2 (J c3 (J c4 (J c5 (J c6 (J c7 trivial))))))))) (by kernel_rfl)

theorem pPut_w (p : Pic) (p_chosen : List Sprite) (reg : Int) (b : Int) (w_p : Pic.ok p) (w_reg : rng 256 reg) (w_b : rng 256 b) : Pic.ok (pPut p p_chosen reg b) := by
  unfold pPut
  rcases bt (((Int.tmod reg 8) : Int) == 0) with c1 | c1
  · rw [if_pos c1]
    exact (⟨w_p.tiles, w_p.names, w_p.colours, w_p.men, w_p.man, (sControl_w p.scroll b w_p.scroll w_b), w_b, w_p.mask, w_p.flags, w_p.waits, w_b, w_p.screen⟩ : Pic.ok ({ p with scroll := (sControl p.scroll b), control := b, bus := b } : Pic))
  · rw [if_neg (nt c1)]
    rcases bt (((Int.tmod reg 8) : Int) == 1) with c2 | c2
    · rw [if_pos c2]
      exact (⟨w_p.tiles, w_p.names, w_p.colours, w_p.men, w_p.man, w_p.scroll, w_p.control, w_b, w_p.flags, w_p.waits, w_b, w_p.screen⟩ : Pic.ok ({ p with mask := b, bus := b } : Pic))
    · rw [if_neg (nt c2)]
      rcases bt (((Int.tmod reg 8) : Int) == 3) with c3 | c3
      · rw [if_pos c3]
        exact (⟨w_p.tiles, w_p.names, w_p.colours, w_p.men, w_b, w_p.scroll, w_p.control, w_p.mask, w_p.flags, w_p.waits, w_b, w_p.screen⟩ : Pic.ok ({ p with man := b, bus := b } : Pic))
      · rw [if_neg (nt c3)]
        rcases bt (((Int.tmod reg 8) : Int) == 4) with c4 | c4
        · rw [if_pos c4]
          exact (⟨w_p.tiles, w_p.names, w_p.colours, (rng_upd w_p.men (Int.toNat p.man) w_b), (rng_wrap_u8 (p.man + 1)), w_p.scroll, w_p.control, w_p.mask, w_p.flags, w_p.waits, w_b, w_p.screen⟩ : Pic.ok ({ p with men := (upd p.men (Int.toNat p.man) b), man := (IntKind.u8.wrap (p.man + 1)), bus := b } : Pic))
        · rw [if_neg (nt c4)]
          rcases bt (((Int.tmod reg 8) : Int) == 5) with c5 | c5
          · rw [if_pos c5]
            exact (⟨w_p.tiles, w_p.names, w_p.colours, w_p.men, w_p.man, (sOffset_w p.scroll b w_p.scroll w_b), w_p.control, w_p.mask, w_p.flags, w_p.waits, w_b, w_p.screen⟩ : Pic.ok ({ p with scroll := (sOffset p.scroll b), bus := b } : Pic))
          · rw [if_neg (nt c5)]
            rcases bt (((Int.tmod reg 8) : Int) == 6) with c6 | c6
            · rw [if_pos c6]
              exact (⟨w_p.tiles, w_p.names, w_p.colours, w_p.men, w_p.man, (sAddress_w p.scroll b w_p.scroll w_b), w_p.control, w_p.mask, w_p.flags, w_p.waits, w_b, w_p.screen⟩ : Pic.ok ({ p with scroll := (sAddress p.scroll b), bus := b } : Pic))
            · rw [if_neg (nt c6)]
              rcases bt (((Int.tmod reg 8) : Int) == 7) with c7 | c7
              · rw [if_pos c7]
                exact (⟨(pPoke_w ({ p with bus := b } : Pic) p_chosen p.scroll.V b (⟨w_p.tiles, w_p.names, w_p.colours, w_p.men, w_p.man, w_p.scroll, w_p.control, w_p.mask, w_p.flags, w_p.waits, w_b, w_p.screen⟩ : Pic.ok ({ p with bus := b } : Pic)) w_p.scroll.V w_b).tiles, (pPoke_w ({ p with bus := b } : Pic) p_chosen p.scroll.V b (⟨w_p.tiles, w_p.names, w_p.colours, w_p.men, w_p.man, w_p.scroll, w_p.control, w_p.mask, w_p.flags, w_p.waits, w_b, w_p.screen⟩ : Pic.ok ({ p with bus := b } : Pic)) w_p.scroll.V w_b).names, (pPoke_w ({ p with bus := b } : Pic) p_chosen p.scroll.V b (⟨w_p.tiles, w_p.names, w_p.colours, w_p.men, w_p.man, w_p.scroll, w_p.control, w_p.mask, w_p.flags, w_p.waits, w_b, w_p.screen⟩ : Pic.ok ({ p with bus := b } : Pic)) w_p.scroll.V w_b).colours, (pPoke_w ({ p with bus := b } : Pic) p_chosen p.scroll.V b (⟨w_p.tiles, w_p.names, w_p.colours, w_p.men, w_p.man, w_p.scroll, w_p.control, w_p.mask, w_p.flags, w_p.waits, w_b, w_p.screen⟩ : Pic.ok ({ p with bus := b } : Pic)) w_p.scroll.V w_b).men, (pPoke_w ({ p with bus := b } : Pic) p_chosen p.scroll.V b (⟨w_p.tiles, w_p.names, w_p.colours, w_p.men, w_p.man, w_p.scroll, w_p.control, w_p.mask, w_p.flags, w_p.waits, w_b, w_p.screen⟩ : Pic.ok ({ p with bus := b } : Pic)) w_p.scroll.V w_b).man, (sStep_w ((pPoke ({ p with bus := b } : Pic) p_chosen p.scroll.V b).scroll) (((bAnd .u8 ((pPoke ({ p with bus := b } : Pic) p_chosen p.scroll.V b).control) 4) : Int) != 0) ((pPoke_w ({ p with bus := b } : Pic) p_chosen p.scroll.V b (⟨w_p.tiles, w_p.names, w_p.colours, w_p.men, w_p.man, w_p.scroll, w_p.control, w_p.mask, w_p.flags, w_p.waits, w_b, w_p.screen⟩ : Pic.ok ({ p with bus := b } : Pic)) w_p.scroll.V w_b).scroll)), (pPoke_w ({ p with bus := b } : Pic) p_chosen p.scroll.V b (⟨w_p.tiles, w_p.names, w_p.colours, w_p.men, w_p.man, w_p.scroll, w_p.control, w_p.mask, w_p.flags, w_p.waits, w_b, w_p.screen⟩ : Pic.ok ({ p with bus := b } : Pic)) w_p.scroll.V w_b).control, (pPoke_w ({ p with bus := b } : Pic) p_chosen p.scroll.V b (⟨w_p.tiles, w_p.names, w_p.colours, w_p.men, w_p.man, w_p.scroll, w_p.control, w_p.mask, w_p.flags, w_p.waits, w_b, w_p.screen⟩ : Pic.ok ({ p with bus := b } : Pic)) w_p.scroll.V w_b).mask, (pPoke_w ({ p with bus := b } : Pic) p_chosen p.scroll.V b (⟨w_p.tiles, w_p.names, w_p.colours, w_p.men, w_p.man, w_p.scroll, w_p.control, w_p.mask, w_p.flags, w_p.waits, w_b, w_p.screen⟩ : Pic.ok ({ p with bus := b } : Pic)) w_p.scroll.V w_b).flags, (pPoke_w ({ p with bus := b } : Pic) p_chosen p.scroll.V b (⟨w_p.tiles, w_p.names, w_p.colours, w_p.men, w_p.man, w_p.scroll, w_p.control, w_p.mask, w_p.flags, w_p.waits, w_b, w_p.screen⟩ : Pic.ok ({ p with bus := b } : Pic)) w_p.scroll.V w_b).waits, (pPoke_w ({ p with bus := b } : Pic) p_chosen p.scroll.V b (⟨w_p.tiles, w_p.names, w_p.colours, w_p.men, w_p.man, w_p.scroll, w_p.control, w_p.mask, w_p.flags, w_p.waits, w_b, w_p.screen⟩ : Pic.ok ({ p with bus := b } : Pic)) w_p.scroll.V w_b).bus, (pPoke_w ({ p with bus := b } : Pic) p_chosen p.scroll.V b (⟨w_p.tiles, w_p.names, w_p.colours, w_p.men, w_p.man, w_p.scroll, w_p.control, w_p.mask, w_p.flags, w_p.waits, w_b, w_p.screen⟩ : Pic.ok ({ p with bus := b } : Pic)) w_p.scroll.V w_b).screen⟩ : Pic.ok ({ (pPoke ({ p with bus := b } : Pic) p_chosen p.scroll.V b) with scroll := (sStep ((pPoke ({ p with bus := b } : Pic) p_chosen p.scroll.V b).scroll) (((bAnd .u8 ((pPoke ({ p with bus := b } : Pic) p_chosen p.scroll.V b).control) 4) : Int) != 0)) } : Pic))
              · rw [if_neg (nt c7)]
                exact (⟨w_p.tiles, w_p.names, w_p.colours, w_p.men, w_p.man, w_p.scroll, w_p.control, w_p.mask, w_p.flags, w_p.waits, w_b, w_p.screen⟩ : Pic.ok ({ p with bus := b } : Pic))

end Go.Proofs.Ytgnhhnmpeklciaa
