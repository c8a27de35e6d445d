/-
  Texts laid together: PJ, PK, PL, PM, PN, PY, KA, KL, KM, RA, KB, KC, NA, NB, NC, KN, ND, NK, VWk, NW, NE, NF, NG. No condition.
-/
import Derived.Test.YtgnhhnmpeklciaaMSc
set_option linter.unusedVariables false
set_option linter.unusedSimpArgs false
set_option linter.unusedSectionVars false
set_option maxRecDepth 100000
set_option maxHeartbeats 4000000
namespace Go.Proofs.Ytgnhhnmpeklciaa
open Go VX
open Go.IntKind (i64 u8 u16)
def pRead (p:Pic) (pC:List Sprite) (a:Int):Pic × Int:=
 if (decide ((bAnd .u16 a 16383) ≥ 16128)) = true then
  (({ p with waits:=(p.names (Int.toNat (mirror a p.upright))) }:Pic),(bOr .u8 (pPeek p pC a) (bAndNot .u8 p.bus 63)))
 else
  (({ p with waits:=(pPeek p pC a) }:Pic),p.waits)
theorem pRead_ok (p:Pic) (pC:List Sprite) (a:Int):FnSpec Try.prog 39 1002 [pt 1000,.int .u16 a] [(1000,(Pic.bl p (sl 1001 (List.length pC) 5) false)),(1001,sB pC false)] (.int .u8 ((pRead p pC a).2)) [(1000,(Pic.bl ((pRead p pC a).1) (sl 1001 (List.length pC) 5) false)),(1001,sB pC false)]:=by
 unfold pRead
 rcases bt (decide ((bAnd .u16 a 16383) ≥ 16128)) with c1 | c1
 ·rw [if_pos c1]
  exact fn_of_x hG hM Try.func39 (by kernel_rfl) (by kernel_rfl) 400 [.call [(1000,1000),(1001,1001)] [] 1002 (.int .u8 (pPeek p pC a)) [(1000,(Pic.bl p (sl 1001 (List.length pC) 5) false)),(1001,sB pC false)],.yes,.call [] [] 1000 (.int .u16 (mirror a p.upright)) [],.sym] (J (pPeek_ok p pC a) (J c1 (J (mirror_ok a p.upright) (J (show 0 ≤ (mirror a p.upright) ∧ (mirror a p.upright) < ((2048:Nat):Int) from by have q0_:=mirror_lt a p.upright;first | omega | (simp only [decide_eq_true_eq,decide_eq_false_iff_not,rng,IntKind.wrap_i64,IntKind.wrap_u8,IntKind.wrap_u16] at *;omega)) (J (show (Int.toNat (mirror a p.upright)) < 2048 from by have q0_:=mirror_lt a p.upright;first | omega | (simp only [decide_eq_true_eq,decide_eq_false_iff_not,rng,IntKind.wrap_i64,IntKind.wrap_u8,IntKind.wrap_u16] at *;omega)) trivial))))) (by kernel_rfl)
 ·rw [if_neg (nt c1)]
  exact fn_of_x hG hM Try.func39 (by kernel_rfl) (by kernel_rfl) 400 [.call [(1000,1000),(1001,1001)] [] 1002 (.int .u8 (pPeek p pC a)) [(1000,(Pic.bl p (sl 1001 (List.length pC) 5) false)),(1001,sB pC false)],.no] (J (pPeek_ok p pC a) (J c1 trivial)) (by kernel_rfl)
theorem pRead_w1 (p:Pic) (pC:List Sprite) (a:Int) (w_p:Pic.ok p) (w_a:rng 65536 a):Pic.ok (pRead p pC a).1:=by
 unfold pRead
 rcases bt (decide ((bAnd .u16 a 16383) ≥ 16128)) with c1 | c1
 ·rw [if_pos c1]
  exact (⟨w_p.tiles,w_p.names,w_p.colours,w_p.men,w_p.man,w_p.scroll,w_p.control,w_p.mask,w_p.flags,(w_p.names (Int.toNat (mirror a p.upright))),w_p.bus,w_p.screen⟩:Pic.ok ({ p with waits:=(p.names (Int.toNat (mirror a p.upright))) }:Pic))
 ·rw [if_neg (nt c1)]
  exact (⟨w_p.tiles,w_p.names,w_p.colours,w_p.men,w_p.man,w_p.scroll,w_p.control,w_p.mask,w_p.flags,(pPeek_w p pC a w_p w_a),w_p.bus,w_p.screen⟩:Pic.ok ({ p with waits:=(pPeek p pC a) }:Pic))
theorem pRead_w2 (p:Pic) (pC:List Sprite) (a:Int) (w_p:Pic.ok p) (w_a:rng 65536 a):rng 256 (pRead p pC a).2:=by
 unfold pRead
 rcases bt (decide ((bAnd .u16 a 16383) ≥ 16128)) with c1 | c1
 ·rw [if_pos c1]
  exact (rng_bOr_u8 (pPeek p pC a) (bAndNot .u8 p.bus 63))
 ·rw [if_neg (nt c1)]
  exact w_p.waits
def pGet (p:Pic) (pC:List Sprite) (reg:Int):Pic × Int:=
 if ((Int.tmod reg 8) == 2) = true then
  (({ p with scroll:=(sLook p.scroll),flags:=(bAndNot .u8 p.flags 128),bus:=(bOr .u8 p.flags (bAnd .u8 p.bus 31)) }:Pic),(bOr .u8 p.flags (bAnd .u8 p.bus 31)))
 else
  if ((Int.tmod reg 8) == 4) = true then
   if ((Int.tmod p.man 4) == 2) = true then
    (({ p with bus:=(bAnd .u8 (p.men (Int.toNat p.man)) 227) }:Pic),(bAnd .u8 (p.men (Int.toNat p.man)) 227))
   else
    (({ p with bus:=(p.men (Int.toNat p.man)) }:Pic),(p.men (Int.toNat p.man)))
  else
   if ((Int.tmod reg 8) == 7) = true then
    (({ ((pRead p pC p.scroll.V).1) with scroll:=(sStep (((pRead p pC p.scroll.V).1).scroll) ((bAnd .u8 (((pRead p pC p.scroll.V).1).control) 4) != 0)),bus:=(pRead p pC p.scroll.V).2 }:Pic),(pRead p pC p.scroll.V).2)
   else
    (p,p.bus)
theorem pGet_ok (p:Pic) (pC:List Sprite) (reg:Int) (w_p:Pic.ok p):FnSpec Try.prog 17 1002 [pt 1000,.int .u8 reg] [(1000,(Pic.bl p (sl 1001 (List.length pC) 5) false)),(1001,sB pC false)] (.int .u8 ((pGet p pC reg).2)) [(1000,(Pic.bl ((pGet p pC reg).1) (sl 1001 (List.length pC) 5) false)),(1001,sB pC false)]:=by
 unfold pGet
 rcases bt ((Int.tmod reg 8) == 2) with c1 | c1
 ·rw [if_pos c1]
  exact fn_of_x hG hM Try.func17 (by kernel_rfl) (by kernel_rfl) 400 [.no,.yes,.call [] [] 1000 (Scroll.enc (sLook p.scroll)) []] (J T0 (J (by decide:((8:Int) ≠ 0)) (J c1 (J (sLook_ok p.scroll) trivial)))) (by kernel_rfl)
 ·rw [if_neg (nt c1)]
  rcases bt ((Int.tmod reg 8) == 4) with c2 | c2
  ·rw [if_pos c2]
   rcases bt ((Int.tmod p.man 4) == 2) with c3 | c3
   ·rw [if_pos c3]
    exact fn_of_x hG hM Try.func17 (by kernel_rfl) (by kernel_rfl) 400 [.no,.no,.yes,.sym,.yes] (J T0 (J (by decide:((8:Int) ≠ 0)) (J c1 (J c2 (J w_p.man (J (toNat_lt w_p.man) (J (by decide:((4:Int) ≠ 0)) (J c3 trivial)))))))) (by kernel_rfl)
   ·rw [if_neg (nt c3)]
    exact fn_of_x hG hM Try.func17 (by kernel_rfl) (by kernel_rfl) 400 [.no,.no,.yes,.sym,.no] (J T0 (J (by decide:((8:Int) ≠ 0)) (J c1 (J c2 (J w_p.man (J (toNat_lt w_p.man) (J (by decide:((4:Int) ≠ 0)) (J c3 trivial)))))))) (by kernel_rfl)
  ·rw [if_neg (nt c2)]
   rcases bt ((Int.tmod reg 8) == 7) with c3 | c3
   ·rw [if_pos c3]
    exact fn_of_x hG hM Try.func17 (by kernel_rfl) (by kernel_rfl) 400 [.no,.no,.no,.yes,.call [(1000,1000),(1001,1001)] [] 1002 (.int .u8 ((pRead p pC p.scroll.V).2)) [(1000,(Pic.bl ((pRead p pC p.scroll.V).1) (sl 1001 (List.length pC) 5) false)),(1001,sB pC false)],.call [] [] 1000 (Scroll.enc (sStep (((pRead p pC p.scroll.V).1).scroll) ((bAnd .u8 (((pRead p pC p.scroll.V).1).control) 4) != 0))) []] (J T0 (J (by decide:((8:Int) ≠ 0)) (J c1 (J c2 (J c3 (J (pRead_ok p pC p.scroll.V) (J (sStep_ok (((pRead p pC p.scroll.V).1).scroll) ((bAnd .u8 (((pRead p pC p.scroll.V).1).control) 4) != 0)) trivial))))))) (by kernel_rfl)
   ·rw [if_neg (nt c3)]
    exact fn_of_x hG hM Try.func17 (by kernel_rfl) (by kernel_rfl) 400 [.no,.no,.no,.no] (J T0 (J (by decide:((8:Int) ≠ 0)) (J c1 (J c2 (J c3 trivial))))) (by kernel_rfl)
theorem pGet_w1 (p:Pic) (pC:List Sprite) (reg:Int) (w_p:Pic.ok p) (w_reg:rng 256 reg):Pic.ok (pGet p pC reg).1:=by
 unfold pGet
 rcases bt ((Int.tmod reg 8) == 2) with c1 | c1
 ·rw [if_pos c1]
  exact (⟨w_p.tiles,w_p.names,w_p.colours,w_p.men,w_p.man,(sLook_w p.scroll w_p.scroll),w_p.control,w_p.mask,(rng_bAndNot_u8 p.flags 128),w_p.waits,(rng_bOr_u8 p.flags (bAnd .u8 p.bus 31)),w_p.screen⟩:Pic.ok ({ p with scroll:=(sLook p.scroll),flags:=(bAndNot .u8 p.flags 128),bus:=(bOr .u8 p.flags (bAnd .u8 p.bus 31)) }:Pic))
 ·rw [if_neg (nt c1)]
  rcases bt ((Int.tmod reg 8) == 4) with c2 | c2
  ·rw [if_pos c2]
   rcases bt ((Int.tmod p.man 4) == 2) with c3 | c3
   ·rw [if_pos c3]
    exact (⟨w_p.tiles,w_p.names,w_p.colours,w_p.men,w_p.man,w_p.scroll,w_p.control,w_p.mask,w_p.flags,w_p.waits,(rng_bAnd_u8 (p.men (Int.toNat p.man)) 227),w_p.screen⟩:Pic.ok ({ p with bus:=(bAnd .u8 (p.men (Int.toNat p.man)) 227) }:Pic))
   ·rw [if_neg (nt c3)]
    exact (⟨w_p.tiles,w_p.names,w_p.colours,w_p.men,w_p.man,w_p.scroll,w_p.control,w_p.mask,w_p.flags,w_p.waits,(w_p.men (Int.toNat p.man)),w_p.screen⟩:Pic.ok ({ p with bus:=(p.men (Int.toNat p.man)) }:Pic))
  ·rw [if_neg (nt c2)]
   rcases bt ((Int.tmod reg 8) == 7) with c3 | c3
   ·rw [if_pos c3]
    exact (⟨(pRead_w1 p pC p.scroll.V w_p w_p.scroll.V).tiles,(pRead_w1 p pC p.scroll.V w_p w_p.scroll.V).names,(pRead_w1 p pC p.scroll.V w_p w_p.scroll.V).colours,(pRead_w1 p pC p.scroll.V w_p w_p.scroll.V).men,(pRead_w1 p pC p.scroll.V w_p w_p.scroll.V).man,(sStep_w (((pRead p pC p.scroll.V).1).scroll) ((bAnd .u8 (((pRead p pC p.scroll.V).1).control) 4) != 0) ((pRead_w1 p pC p.scroll.V w_p w_p.scroll.V).scroll)),(pRead_w1 p pC p.scroll.V w_p w_p.scroll.V).control,(pRead_w1 p pC p.scroll.V w_p w_p.scroll.V).mask,(pRead_w1 p pC p.scroll.V w_p w_p.scroll.V).flags,(pRead_w1 p pC p.scroll.V w_p w_p.scroll.V).waits,(pRead_w2 p pC p.scroll.V w_p w_p.scroll.V),(pRead_w1 p pC p.scroll.V w_p w_p.scroll.V).screen⟩:Pic.ok ({ ((pRead p pC p.scroll.V).1) with scroll:=(sStep (((pRead p pC p.scroll.V).1).scroll) ((bAnd .u8 (((pRead p pC p.scroll.V).1).control) 4) != 0)),bus:=(pRead p pC p.scroll.V).2 }:Pic))
   ·rw [if_neg (nt c3)]
    exact w_p
def pPut (p:Pic) (pC:List Sprite) (reg:Int) (b:Int):Pic:=
 if ((Int.tmod reg 8) == 0) = true then
  ({ p with scroll:=(sControl p.scroll b),control:=b,bus:=b }:Pic)
 else
  if ((Int.tmod reg 8) == 1) = true then
   ({ p with mask:=b,bus:=b }:Pic)
  else
   if ((Int.tmod reg 8) == 3) = true then
    ({ p with man:=b,bus:=b }:Pic)
   else
    if ((Int.tmod reg 8) == 4) = true then
     ({ p with men:=(upd p.men (Int.toNat p.man) b),man:=(u8.wrap (p.man + 1)),bus:=b }:Pic)
    else
     if ((Int.tmod reg 8) == 5) = true then
      ({ p with scroll:=(sOffset p.scroll b),bus:=b }:Pic)
     else
      if ((Int.tmod reg 8) == 6) = true then
       ({ p with scroll:=(sAddress p.scroll b),bus:=b }:Pic)
      else
       if ((Int.tmod reg 8) == 7) = true then
        ({ (pPoke ({ p with bus:=b }:Pic) pC p.scroll.V b) with scroll:=(sStep ((pPoke ({ p with bus:=b }:Pic) pC p.scroll.V b).scroll) ((bAnd .u8 ((pPoke ({ p with bus:=b }:Pic) pC p.scroll.V b).control) 4) != 0)) }:Pic)
       else
        ({ p with bus:=b }:Pic)
theorem pPut_ok (p:Pic) (pC:List Sprite) (reg:Int) (b:Int) (w_p:Pic.ok p):FnSpec Try.prog 21 1002 [pt 1000,.int .u8 reg,.int .u8 b] [(1000,(Pic.bl p (sl 1001 (List.length pC) 5) false)),(1001,sB pC false)] (.tuple ⟨[]⟩) [(1000,(Pic.bl (pPut p pC reg b) (sl 1001 (List.length pC) 5) false)),(1001,sB pC false)]:=by
 unfold pPut
 rcases bt ((Int.tmod reg 8) == 0) with c1 | c1
 ·rw [if_pos c1]
  exact fn_of_x hG hM Try.func21 (by kernel_rfl) (by kernel_rfl) 400 [.no,.yes,.call [] [] 1000 (Scroll.enc (sControl p.scroll b)) []] (J T0 (J (by decide:((8:Int) ≠ 0)) (J c1 (J (sControl_ok p.scroll b) trivial)))) (by kernel_rfl)
 ·rw [if_neg (nt c1)]
  rcases bt ((Int.tmod reg 8) == 1) with c2 | c2
  ·rw [if_pos c2]
   exact fn_of_x hG hM Try.func21 (by kernel_rfl) (by kernel_rfl) 400 [.no,.no,.yes] (J T0 (J (by decide:((8:Int) ≠ 0)) (J c1 (J c2 trivial)))) (by kernel_rfl)
  ·rw [if_neg (nt c2)]
   rcases bt ((Int.tmod reg 8) == 3) with c3 | c3
   ·rw [if_pos c3]
    exact fn_of_x hG hM Try.func21 (by kernel_rfl) (by kernel_rfl) 400 [.no,.no,.no,.yes] (J T0 (J (by decide:((8:Int) ≠ 0)) (J c1 (J c2 (J c3 trivial))))) (by kernel_rfl)
   ·rw [if_neg (nt c3)]
    rcases bt ((Int.tmod reg 8) == 4) with c4 | c4
    ·rw [if_pos c4]
     exact fn_of_x hG hM Try.func21 (by kernel_rfl) (by kernel_rfl) 400 [.no,.no,.no,.no,.yes,.sym] (J T0 (J (by decide:((8:Int) ≠ 0)) (J c1 (J c2 (J c3 (J c4 (J w_p.man (J (toNat_lt w_p.man) trivial)))))))) (by kernel_rfl)
    ·rw [if_neg (nt c4)]
     rcases bt ((Int.tmod reg 8) == 5) with c5 | c5
     ·rw [if_pos c5]
      exact fn_of_x hG hM Try.func21 (by kernel_rfl) (by kernel_rfl) 400 [.no,.no,.no,.no,.no,.yes,.call [] [] 1000 (Scroll.enc (sOffset p.scroll b)) []] (J T0 (J (by decide:((8:Int) ≠ 0)) (J c1 (J c2 (J c3 (J c4 (J c5 (J (sOffset_ok p.scroll b) trivial)))))))) (by kernel_rfl)
     ·rw [if_neg (nt c5)]
      rcases bt ((Int.tmod reg 8) == 6) with c6 | c6
      ·rw [if_pos c6]
       exact fn_of_x hG hM Try.func21 (by kernel_rfl) (by kernel_rfl) 400 [.no,.no,.no,.no,.no,.no,.yes,.call [] [] 1000 (Scroll.enc (sAddress p.scroll b)) []] (J T0 (J (by decide:((8:Int) ≠ 0)) (J c1 (J c2 (J c3 (J c4 (J c5 (J c6 (J (sAddress_ok p.scroll b) trivial))))))))) (by kernel_rfl)
      ·rw [if_neg (nt c6)]
       rcases bt ((Int.tmod reg 8) == 7) with c7 | c7
       ·rw [if_pos c7]
        exact fn_of_x hG hM Try.func21 (by kernel_rfl) (by kernel_rfl) 400 [.no,.no,.no,.no,.no,.no,.no,.yes,.call [(1000,1000),(1001,1001)] [] 1002 (.tuple ⟨[]⟩) [(1000,(Pic.bl (pPoke ({ p with bus:=b }:Pic) pC p.scroll.V b) (sl 1001 (List.length pC) 5) false)),(1001,sB pC false)],.call [] [] 1000 (Scroll.enc (sStep ((pPoke ({ p with bus:=b }:Pic) pC p.scroll.V b).scroll) ((bAnd .u8 ((pPoke ({ p with bus:=b }:Pic) pC p.scroll.V b).control) 4) != 0))) []] (J T0 (J (by decide:((8:Int) ≠ 0)) (J c1 (J c2 (J c3 (J c4 (J c5 (J c6 (J c7 (J (pPoke_ok ({ p with bus:=b }:Pic) pC p.scroll.V b) (J (sStep_ok ((pPoke ({ p with bus:=b }:Pic) pC p.scroll.V b).scroll) ((bAnd .u8 ((pPoke ({ p with bus:=b }:Pic) pC p.scroll.V b).control) 4) != 0)) trivial))))))))))) (by kernel_rfl)
       ·rw [if_neg (nt c7)]
        exact fn_of_x hG hM Try.func21 (by kernel_rfl) (by kernel_rfl) 400 [.no,.no,.no,.no,.no,.no,.no,.no] (J T0 (J (by decide:((8:Int) ≠ 0)) (J c1 (J c2 (J c3 (J c4 (J c5 (J c6 (J c7 trivial))))))))) (by kernel_rfl)
end Go.Proofs.Ytgnhhnmpeklciaa
namespace Go.Proofs.Ytgnhhnmpeklciaa
open Go VX
def picZero:Pic:={ tiles:=fun _ => 0,names:=fun _ => 0,colours:=fun _ => 0,men:=fun _ => 0,man:=0,scroll:={ V:=0,T:=0,X:=0,W:=false },control:=0,mask:=0,flags:=0,waits:=0,bus:=0,upright:=false,line:=0,dot:=0,odd:=false,frames:=0,screen:=fun _ => 0 }
theorem new_ok:FnSpec Try.prog 14 1000 [] [] (pt 1000) [(1000,Pic.bl picZero (.slice none 0 0) false)]:=by
 exact fn_of_x hG hM Try.func14 (by kernel_rfl) (by kernel_rfl) 400 [.segs (Pic.bl picZero (.slice none 0 0) false).segs] trivial (by kernel_rfl)
theorem rng0:rng 256 (0:Int):=by decide
theorem zero_ok:Pic.ok picZero:=⟨fun _ => rng0,fun _ => rng0,fun _ => rng0,fun _ => rng0,rng0,⟨(by decide:rng 65536 (0:Int)),(by decide:rng 65536 (0:Int)),rng0⟩,rng0,rng0,rng0,rng0,rng0,fun _ => rng0⟩
end Go.Proofs.Ytgnhhnmpeklciaa
namespace Go.Proofs.Ytgnhhnmpeklciaa
open Go VX
open Go.IntKind (i64 u8 u16)
inductive wAwake_L1 (xd:(List Sprite) × Int × Pic):((List Sprite) × Int × Pic) ⊕ ((List Sprite) × Int × Pic) → Prop
 | p1 (d1:(decide (xd.2.1 < 82183)) = true) (w1d:Pic.ok xd.2.2) (w2d:0 ≤ xd.2.2.line) (w3d:(List.length xd.1) ≤ 8):wAwake_L1 xd (.inl ((pClock xd.2.2 xd.1).2,(i64.wrap (xd.2.1 + 1)),(pClock xd.2.2 xd.1).1))
 | p2 (d1:(decide (xd.2.1 < 82183)) = false):wAwake_L1 xd (.inr (xd.1,xd.2.1,xd.2.2))
def wAwake_L1_T (xd:(List Sprite) × Int × Pic):Tm:=[(0,.bool false),(1,pt 1000),(3,.int .i64 xd.2.1)]
def wAwake_L1_H (xd:(List Sprite) × Int × Pic):Heap:=[(1000,(Pic.bl xd.2.2 (sl 1001 (List.length xd.1) 5) false)),(1001,⟨[rowsL Sprite.cells Sprite.nil 5 xd.1],92,false⟩)]
def wAwake_L1_T1 (y_:(List Sprite) × Int × Pic):Tm:=wAwake_L1_T y_
def wAwake_L1_H1 (y_:(List Sprite) × Int × Pic):Heap:=wAwake_L1_H y_
def wAwake_L1_ex (_:(List Sprite) × Int × Pic):Ex:=.exit 0
theorem wAwake_L1_p1 (xd:(List Sprite) × Int × Pic) (d1:(decide (xd.2.1 < 82183)) = true) (w1d:Pic.ok xd.2.2) (w2d:0 ≤ xd.2.2.line) (w3d:(List.length xd.1) ≤ 8):RunsM Try.prog 16 (bodyOf Try.f12 [1,1,0,1,0,0]) 1001 (wAwake_L1_T xd) (wAwake_L1_H xd) 1002 .normal (wAwake_L1_T ((pClock xd.2.2 xd.1).2,(i64.wrap (xd.2.1 + 1)),(pClock xd.2.2 xd.1).1)) (wAwake_L1_H ((pClock xd.2.2 xd.1).2,(i64.wrap (xd.2.1 + 1)),(pClock xd.2.2 xd.1).1)) 1002:=by
 exact runsM_of_x hG hM 400 1001 [.yes,.call [(1000,1000),(1001,1001)] [(1002,1002)] 1002 (.tuple ⟨[]⟩) [(1000,(Pic.bl ((pClock xd.2.2 xd.1).1) (sl 1002 (List.length ((pClock xd.2.2 xd.1).2)) 5) false)),(1002,⟨[rowsL Sprite.cells Sprite.nil 5 ((pClock xd.2.2 xd.1).2)],92,false⟩)]] [(1000,1000),(1002,1001)] (J d1 (J (pClock_ok xd.2.2 xd.1 w1d w2d w3d) trivial)) (by kernel_rfl)
theorem wAwake_L1_p2 (xd:(List Sprite) × Int × Pic) (d1:(decide (xd.2.1 < 82183)) = false):RunsM Try.prog 16 (bodyOf Try.f12 [1,1,0,1,0,0]) 1001 (wAwake_L1_T xd) (wAwake_L1_H xd) 1002 (.exit 0) (wAwake_L1_T1 (xd.1,xd.2.1,xd.2.2)) (wAwake_L1_H1 (xd.1,xd.2.1,xd.2.2)) 1002:=by
 exact runsM_of_x hG hM 400 1001 [.no] [(1000,1000),(1001,1001)] (J d1 trivial) (by kernel_rfl)
theorem wAwake_L1_runs (x_:(List Sprite) × Int × Pic) (y_:(List Sprite) × Int × Pic) (h_:LoopR (wAwake_L1) x_ y_):RunsM Try.prog 16 (.block 0 (.loop (bodyOf Try.f12 [1,1,0,1,0,0]))) 1001 (wAwake_L1_T x_) (wAwake_L1_H x_) 1002 (outOf 0 (wAwake_L1_ex y_)) (wAwake_L1_T1 y_) (wAwake_L1_H1 y_) 1002:=by
 refine block_loopM hG (wAwake_L1) (wAwake_L1_T) (wAwake_L1_H) wAwake_L1_ex (wAwake_L1_T1) (wAwake_L1_H1) ?_ ?_ ?_ x_ y_ h_
 ·intro s r _ hr;cases hr
 ·intro xd y_ hx
  cases hx with
  | p1 d1 w1d w2d w3d => exact wAwake_L1_p1 xd d1 w1d w2d w3d
 ·intro xd y_ hx
  cases hx with
  | p2 d1 => exact wAwake_L1_p2 xd d1
theorem wAwake_p1  (r1:(List Sprite) × Int × Pic) (l1:LoopR (wAwake_L1) ([],0,picZero) r1) (w1c:Pic.ok r1.2.2) (c1:(((pGet r1.2.2 r1.1 2).2:Int) == 128) = true):FnSpec Try.prog 12 1000 [] [] (.bool (((pGet ((pGet r1.2.2 r1.1 2).1) r1.1 2).2:Int) == 0)) []:=by
 exact fn_of_x hG hM Try.func12 (by kernel_rfl) (by kernel_rfl) 400 [.call [] [(1000,1000)] 1000 (pt 1000) [(1000,(Pic.bl picZero (.slice none 0 0) false))],.segk 1 0 [0,1,3] [1000] .normal (wAwake_L1_T1 r1) (wAwake_L1_H1 r1) 1002,.call [(1000,1000),(1001,1001)] [] 1002 (.int .u8 ((pGet r1.2.2 r1.1 2).2)) [(1000,(Pic.bl ((pGet r1.2.2 r1.1 2).1) (sl 1001 (List.length r1.1) 5) false)),(1001,⟨[rowsL Sprite.cells Sprite.nil 5 r1.1],92,false⟩)],.yes,.yes,.call [(1000,1000),(1001,1001)] [] 1002 (.int .u8 ((pGet ((pGet r1.2.2 r1.1 2).1) r1.1 2).2)) [(1000,(Pic.bl ((pGet ((pGet r1.2.2 r1.1 2).1) r1.1 2).1) (sl 1001 (List.length r1.1) 5) false)),(1001,⟨[rowsL Sprite.cells Sprite.nil 5 r1.1],92,false⟩)],.yes,.yes] (J new_ok (J (runs_of_pre hG (wAwake_L1_runs ([],0,picZero) r1 l1) [(1000,1000)] (T:=[(0,.bool false),(1,pt 1000),(3,.int .i64 0)]) (H:=[(1000,(Pic.bl picZero (.slice none 0 0) false))]) (by kernel_rfl)) (J (pGet_ok r1.2.2 r1.1 2 w1c) (J c1 (J c1 (J (pGet_ok ((pGet r1.2.2 r1.1 2).1) r1.1 2 (pGet_w1 r1.2.2 r1.1 2 w1c (by decide:rng 256 2))) (J c1 (J c1 trivial)))))))) (by kernel_rfl)
end Go.Proofs.Ytgnhhnmpeklciaa
namespace Go.Proofs.Ytgnhhnmpeklciaa
open Go VX
open Go.IntKind (i64 u8 u16)
def picS (l d:Int) (fr fl:Int):Pic:={ picZero with line:=l,dot:=d,frames:=fr,flags:=fl }
theorem m8:((bAnd .u8 0 8:Int) == 0) = true:=by kernel_rfl
theorem m16:((bAnd .u8 0 16:Int) == 0) = true:=by kernel_rfl
theorem shows_S (l d fr fl:Int) (L:List Sprite):pShows (picS l d fr fl) L = false:=by
 show (bAnd .u8 0 24 != 0) = false
 kernel_rfl
theorem upd_zero (k:Nat):upd (fun _ => (0:Int)) k 0 = fun _ => 0:=by
 funext j;unfold upd;cases Nat.beq j k <;> rfl
theorem tile_S (l d fr fl:Int) (L:List Sprite) (x:Int):pTile (picS l d fr fl) L x = (0,0):=by
 unfold pTile;rw [if_pos (show ((bAnd .u8 (picS l d fr fl).mask 8:Int) == 0) = true from m8)]
theorem peek_S (l d fr fl:Int) (L:List Sprite) (a:Int):pPeek (picS l d fr fl) L a = 0:=by
 unfold pPeek;repeat' split
 all_goals rfl
theorem draw_S (l d fr fl:Int) (L:List Sprite) (x:Int):pDraw (picS l d fr fl) L x = picS l d fr fl:=by
 have j1:qdJ1 (picS l d fr fl) L x = false:=by unfold qdJ1;rw [tile_S];rfl
 have j2:qdJ2 (picS l d fr fl) L x (picS l d fr fl).flags = fl:=by unfold qdJ2;rw [j1];rfl
 have e:({ (picS l d fr fl) with flags:=qdJ2 (picS l d fr fl) L x (picS l d fr fl).flags }:Pic) = picS l d fr fl:=by rw [j2];rfl
 have j6:∀ b:Bool,qdJ6 x (0,b) = 0:=by intro b;unfold qdJ6;cases b <;> rfl
 unfold pDraw
 simp only [e,peek_S,j6]
 rw [j2,show (picS l d fr fl).screen = fun _ => 0 from rfl,upd_zero];rfl
theorem choose_S (l d fr fl:Int) (seen:Bool):pChooseF (picS l d fr fl) [] seen = (picS l d fr fl,[]):=by
 unfold pChooseF;rw [shows_S];cases seen <;> rfl
theorem i64_in2 {x:Int} (h0:0 ≤ x) (h:x < 1000000):i64.wrap x = x:=by rw [IntKind.wrap_i64];omega
theorem next_S (l d fr fl:Int) (hl:0 ≤ l) (hl2:l < 261) (hd:0 ≤ d) (hd2:d < 341):pNext (picS l d fr fl) [] = if d + 1 < 341 then picS l (d + 1) fr fl else picS (l + 1) 0 fr fl:=by
 have e1:i64.wrap ((picS l d fr fl).dot + 1) = d + 1:=i64_in2 (by show 0 ≤ d + 1;omega) (by show d + 1 < _;omega)
 have e2:i64.wrap ((picS l d fr fl).line + 1) = l + 1:=i64_in2 (by show 0 ≤ l + 1;omega) (by show l + 1 < _;omega)
 unfold pNext
 rw [if_neg (show ¬ (((picS l d fr fl).line:Int) == 261) = true by show ¬ ((l:Int) == 261) = true;simp;omega)]
 simp only [e1,e2]
 by_cases h:d + 1 < 341
 ·rw [if_pos (decide_eq_true h),if_pos h];rfl
 ·rw [if_neg (by simpa using h),if_neg h,if_neg (show ¬ ((l + 1:Int) == 262) = true by simp;omega)];rfl
theorem clock_S (l d fr fl:Int) (hl:0 ≤ l) (hl2:l < 261) (hd:0 ≤ d) (hd2:d < 341) (h:¬ (l = 241 ∧ d = 1)):pClock (picS l d fr fl) [] = (if d + 1 < 341 then picS l (d + 1) fr fl else picS (l + 1) 0 fr fl,[]):=by
 have hs:=shows_S l d fr fl []
 have hn:=next_S l d fr fl hl hl2 hd hd2
 have hline:(picS l d fr fl).line = l:=rfl
 have hdot:(picS l d fr fl).dot = d:=rfl
 have h261:¬ ((l:Int) == 261) = true:=by simp;omega
 unfold pClock
 simp only [draw_S,hs,choose_S,hline,hdot,hn,h261,if_false,Bool.false_eq_true]
 by_cases h241:l = 241
 ·have h1:¬ ((d:Int) == 1) = true:=by simp;omega
  simp [h241,h1]
 ·simp [h241]
end Go.Proofs.Ytgnhhnmpeklciaa
namespace Go.Proofs.Ytgnhhnmpeklciaa
open Go VX
open Go.IntKind (i64 u8 u16)
theorem clock_B (fr fl:Int) (h0:0 ≤ fr) (h1:fr < 900000):pClock (picS 241 1 fr fl) [] = (picS 241 2 (fr + 1) (bOr .u8 fl 128),[]):=by
 have e:i64.wrap (fr + 1) = fr + 1:=i64_in2 (by omega) (by omega)
 have eq:({ (picS 241 1 fr fl) with flags:=(bOr .u8 (picS 241 1 fr fl).flags 128),frames:=(i64.wrap ((picS 241 1 fr fl).frames + 1)) }:Pic) = picS 241 1 (fr + 1) (bOr .u8 fl 128):=by
  show (⟨_,_,_,_,_,_,_,_,_,_,_,_,_,_,_,i64.wrap (fr + 1),_⟩:Pic) = _
  rw [e];rfl
 have hline:(picS 241 1 fr fl).line = 241:=rfl
 have hdot:(picS 241 1 fr fl).dot = 1:=rfl
 have hn:=next_S 241 1 (fr + 1) (bOr .u8 fl 128) (by decide) (by decide) (by decide) (by decide)
 unfold pClock
 rw [if_pos (show (((picS 241 1 fr fl).line:Int) == 241) = true from rfl),if_pos (show (((picS 241 1 fr fl).dot:Int) == 1) = true from rfl)]
 simp only [eq,hn]
 split <;> rfl
theorem step_S (k:Nat) (hk:k < 82182):pClock (picS ((k / 341:Nat):Int) ((k % 341:Nat):Int) 0 0) [] = (picS (((k + 1) / 341:Nat):Int) (((k + 1) % 341:Nat):Int) 0 0,[]):=by
 have h:=clock_S ((k / 341:Nat):Int) ((k % 341:Nat):Int) 0 0 (by omega) (by omega) (by omega) (by omega) (by omega)
 rw [h]
 by_cases hd:((k % 341:Nat):Int) + 1 < 341
 ·rw [if_pos hd,show (((k + 1) / 341:Nat):Int) = ((k / 341:Nat):Int) by omega,show (((k + 1) % 341:Nat):Int) = ((k % 341:Nat):Int) + 1 by omega]
 ·rw [if_neg hd,show (((k + 1) / 341:Nat):Int) = ((k / 341:Nat):Int) + 1 by omega,show (((k + 1) % 341:Nat):Int) = 0 by omega]
theorem picS_ok (l d fr:Int) {fl:Int} (h:rng 256 fl):Pic.ok (picS l d fr fl):=
 ⟨zero_ok.tiles,zero_ok.names,zero_ok.colours,zero_ok.men,zero_ok.man,zero_ok.scroll,zero_ok.control,zero_ok.mask,h,zero_ok.waits,zero_ok.bus,zero_ok.screen⟩
theorem awake_loop:∀ (n k:Nat),k + n = 82182 → LoopR wAwake_L1 ([],(k:Int),picS ((k / 341:Nat):Int) ((k % 341:Nat):Int) 0 0) ([],82183,picS 241 2 1 (bOr .u8 0 128))
 | 0,k,h => by
  have:k = 82182:=by omega
  subst this
  have st:=wAwake_L1.p1 (xd:=([],((82182:Nat):Int),picS 241 1 0 0)) (decide_eq_true (by show ((82182:Nat):Int) < 82183;omega)) (picS_ok _ _ _ rng0) (by show (0:Int) ≤ 241;decide) (Nat.zero_le _)
  simp only [clock_B 0 0 (by decide) (by decide)] at st
  rw [show i64.wrap (((82182:Nat):Int) + 1) = 82183 from i64_in2 (by omega) (by omega)] at st
  exact .more st (.last (.p2 (decide_eq_false (by show ¬ ((82183:Int) < 82183);omega))))
 | n + 1,k,h => by
  have st:=wAwake_L1.p1 (xd:=([],(k:Int),picS ((k / 341:Nat):Int) ((k % 341:Nat):Int) 0 0)) (decide_eq_true (by show (k:Int) < 82183;omega)) (picS_ok _ _ _ rng0) (by show 0 ≤ ((k / 341:Nat):Int);omega) (Nat.zero_le _)
  simp only [step_S k (by omega)] at st
  rw [show i64.wrap ((k:Int) + 1) = ((k + 1:Nat):Int) from by rw [i64_in2 (by omega) (by omega)];omega] at st
  exact .more st (awake_loop n (k + 1) (by omega))
theorem awake_ok:FnSpec Try.prog 12 1000 [] [] (.bool true) []:=by
 have h:=wAwake_p1 _ (awake_loop 82182 0 rfl) (picS_ok _ _ _ (rng_bOr_u8 _ _)) (by kernel_rfl)
 have e:(((pGet ((pGet (picS 241 2 1 (bOr .u8 0 128)) [] 2).1) [] 2).2:Int) == 0) = true:=by kernel_rfl
 simp only [e] at h
 exact h
end Go.Proofs.Ytgnhhnmpeklciaa
namespace Go.Proofs.Ytgnhhnmpeklciaa
open Go VX
theorem behind_ints {k:IntKind} {m:Nat} (f:Nat → Int) (off:Nat):Behind [] (winL (fun o => .int k (f (off + o))) 0 m) [.ints k m (fun j => f (off + j))]:=by
 refine ⟨by simp [segsSize,Seg.size,winL_len],fun o v h => .inr ⟨Nat.zero_le _,?_⟩⟩
 simp only [segsGet?,Seg.size,segsSize] at h ⊢
 cases e:Nat.blt o m with
 | false => rw [e] at h;simp at h
 | true =>
  rw [e] at h
  simp only [cond_true,Seg.get?,e,Option.some.injEq] at h
  subst h
  have:o < m:=by rw [Nat.blt_eq] at e;exact e
  rw [Nat.sub_zero,winL_get,if_pos this,Nat.zero_add]
theorem y256 {y:Int} (h:Int.toNat y < 240):Int.toNat y * 256 + 0 + 256 ≤ 61440:=by omega
theorem cloneRow_ok (p:Pic) (L:List Sprite) (y:Int) (hy:Int.toNat y < 240) :
  FnSpec Try.prog 54 1002 [.slice (some ⟨1000,Int.toNat y * 256 + 0,(some 10544)⟩) 256 0] [(1000,(Pic.bl p (sl 1001 (List.length L) 5) true)),(1001,sB L true)]
   (sl 1002 256 1) [(1002,⟨[.ints .u8 256 (fun j => p.screen (Int.toNat y * 256 + j))],5,false⟩)]:=by
 exact fn_of_x hG hM Try.func54 (by kernel_rfl) (by kernel_rfl) 400 [.no,.born,.win [.ints .u8 256 (fun j => p.screen (Int.toNat y * 256 + j))]]
  (J (by decide:(256:Nat) ≠ 0) (J (Eq.refl false) (J (Eq.refl true) (J (behind_ints (k:=.u8) (m:=256) p.screen (Int.toNat y * 256)) (J (by decide:256 ≤ 1048576) (J (y256 hy) trivial)))))) (by kernel_rfl)
theorem row_in (p:Pic) (L:List Sprite) (y:Int) (h0:0 ≤ y) (h1:y < 240) :
  FnSpec Try.prog 26 1002 [pt 1000,.int .i64 y] [(1000,(Pic.bl p (sl 1001 (List.length L) 5) true)),(1001,sB L true)]
   (sl 1002 256 1) [(1002,⟨[.ints .u8 256 (fun j => p.screen (Int.toNat y * 256 + j))],5,false⟩)]:=by
 have c1:(decide ((y:Int) < 0)) = false:=decide_eq_false (by omega)
 have c2:(decide ((y:Int) ≥ 240)) = false:=decide_eq_false (by omega)
 exact fn_of_x hG hM Try.func26 (by kernel_rfl) (by kernel_rfl) 400 [.no,.no,.no,.no,.no,.no,.no,.sym,.cut 0 256,.callr [(1000,1000),(1001,1001)] [] [(1002,1002)] 1002 (sl 1002 256 1) [(1002,⟨[.ints .u8 256 (fun j => p.screen (Int.toNat y * 256 + j))],5,false⟩)]]
  (J (Eq.refl false) (J (Eq.refl false) (J (Eq.refl false) (J c1 (J c1 (J c1 (J c2 (J (show 0 ≤ y ∧ y < ((240:Nat):Int) from ⟨h0,h1⟩) (J (cloneRow_ok p L y (by omega)) trivial))))))))) (by kernel_rfl)
end Go.Proofs.Ytgnhhnmpeklciaa
namespace Go.Proofs.Ytgnhhnmpeklciaa
open Go VX
open Go.IntKind (i64 u8 u16)
structure Place where
 Column:Int
 Line:Int
 Across:Int
 Down:Int
 Row:Int
def Place.enc (s:Place):Value:=.agg ⟨[.int .i64 s.Column,.int .i64 s.Line,.int .i64 s.Across,.int .i64 s.Down,.int .i64 s.Row]⟩
def Place.blk (s:Place):Blk:=⟨[.one (.int .i64 s.Column),.one (.int .i64 s.Line),.one (.int .i64 s.Across),.one (.int .i64 s.Down),.one (.int .i64 s.Row)],54,false⟩
def Place.cells (s:Place):List Value:=[.int .i64 s.Column,.int .i64 s.Line,.int .i64 s.Across,.int .i64 s.Down,.int .i64 s.Row]
structure RScroll where
 V:Place
 T:Place
 X:Int
 W:Bool
def RScroll.enc (s:RScroll):Value:=.agg ⟨[.int .i64 s.V.Column,.int .i64 s.V.Line,.int .i64 s.V.Across,.int .i64 s.V.Down,.int .i64 s.V.Row,.int .i64 s.T.Column,.int .i64 s.T.Line,.int .i64 s.T.Across,.int .i64 s.T.Down,.int .i64 s.T.Row,.int .i64 s.X,.bool s.W]⟩
def RScroll.blk (s:RScroll):Blk:=⟨[.one (.int .i64 s.V.Column),.one (.int .i64 s.V.Line),.one (.int .i64 s.V.Across),.one (.int .i64 s.V.Down),.one (.int .i64 s.V.Row),.one (.int .i64 s.T.Column),.one (.int .i64 s.T.Line),.one (.int .i64 s.T.Across),.one (.int .i64 s.T.Down),.one (.int .i64 s.T.Row),.one (.int .i64 s.X),.one (.bool s.W)],56,false⟩
def RScroll.cells (s:RScroll):List Value:=[.int .i64 s.V.Column,.int .i64 s.V.Line,.int .i64 s.V.Across,.int .i64 s.V.Down,.int .i64 s.V.Row,.int .i64 s.T.Column,.int .i64 s.T.Line,.int .i64 s.T.Across,.int .i64 s.T.Down,.int .i64 s.T.Row,.int .i64 s.X,.bool s.W]
def rOf (n:Int):Place:=
 ({ Column:=(Int.tmod n 32),Line:=(Int.tmod (i64.wrap (Int.tdiv n 32)) 32),Across:=(Int.tmod (i64.wrap (Int.tdiv n 1024)) 2),Down:=(Int.tmod (i64.wrap (Int.tdiv n 2048)) 2),Row:=(Int.tmod (i64.wrap (Int.tdiv n 4096)) 8) }:Place)
theorem rOf_ok (n:Int):FnSpec Try.prog 65 1000 [.int .i64 n] [] (Place.enc (rOf n)) []:=by
 unfold rOf
 exact fn_of_x hG hM Try.func65 (by kernel_rfl) (by kernel_rfl) 400 [] (J (by decide:((32:Int) ≠ 0)) (J (by decide:((32:Int) ≠ 0)) (J (by decide:((32:Int) ≠ 0)) (J (by decide:((1024:Int) ≠ 0)) (J (by decide:((2:Int) ≠ 0)) (J (by decide:((2048:Int) ≠ 0)) (J (by decide:((2:Int) ≠ 0)) (J (by decide:((4096:Int) ≠ 0)) (J (by decide:((8:Int) ≠ 0)) trivial))))))))) (by kernel_rfl)
def rBits (v:Place):Int:=
 (i64.wrap ((i64.wrap ((i64.wrap ((i64.wrap (v.Column + (i64.wrap (32 * v.Line)))) + (i64.wrap (1024 * v.Across)))) + (i64.wrap (2048 * v.Down)))) + (i64.wrap (4096 * v.Row))))
theorem rBits_ok (v:Place):FnSpec Try.prog 41 1000 [Place.enc v] [] (.int .i64 (rBits v)) []:=by
 unfold rBits
 exact fn_of_x hG hM Try.func41 (by kernel_rfl) (by kernel_rfl) 400 [] trivial (by kernel_rfl)
def rStep (s:RScroll) (far:Bool):RScroll:=
 if far = true then
  ({ s with V:=(rOf (Int.tmod (i64.wrap ((rBits s.V) + 32)) 32768)) }:RScroll)
 else
  ({ s with V:=(rOf (Int.tmod (i64.wrap ((rBits s.V) + 1)) 32768)) }:RScroll)
theorem rStep_ok (s:RScroll) (far:Bool):FnSpec Try.prog 42 1000 [RScroll.enc s,.bool far] [] (RScroll.enc (rStep s far)) []:=by
 unfold rStep
 rcases bt far with c1 | c1
 ·rw [if_pos c1]
  exact fn_of_x hG hM Try.func42 (by kernel_rfl) (by kernel_rfl) 400 [.yes,.call [] [] 1000 (.int .i64 (rBits s.V)) [],.call [] [] 1000 (Place.enc (rOf (Int.tmod (i64.wrap ((rBits s.V) + 32)) 32768))) []] (J c1 (J (rBits_ok s.V) (J (by decide:((32768:Int) ≠ 0)) (J (rOf_ok (Int.tmod (i64.wrap ((rBits s.V) + 32)) 32768)) trivial)))) (by kernel_rfl)
 ·rw [if_neg (nt c1)]
  exact fn_of_x hG hM Try.func42 (by kernel_rfl) (by kernel_rfl) 400 [.no,.call [] [] 1000 (.int .i64 (rBits s.V)) [],.call [] [] 1000 (Place.enc (rOf (Int.tmod (i64.wrap ((rBits s.V) + 1)) 32768))) []] (J c1 (J (rBits_ok s.V) (J (by decide:((32768:Int) ≠ 0)) (J (rOf_ok (Int.tmod (i64.wrap ((rBits s.V) + 1)) 32768)) trivial)))) (by kernel_rfl)
def rControl (s:RScroll) (b:Int):RScroll:=
 ({ s with T:=({ s.T with Across:=(Int.tmod b 2),Down:=(Int.tmod (i64.wrap (Int.tdiv b 2)) 2) }:Place) }:RScroll)
theorem rControl_ok (s:RScroll) (b:Int):FnSpec Try.prog 60 1000 [RScroll.enc s,.int .i64 b] [] (RScroll.enc (rControl s b)) []:=by
 unfold rControl
 exact fn_of_x hG hM Try.func60 (by kernel_rfl) (by kernel_rfl) 400 [] (J (by decide:((2:Int) ≠ 0)) (J (by decide:((2:Int) ≠ 0)) (J (by decide:((2:Int) ≠ 0)) trivial))) (by kernel_rfl)
def rOffset (s:RScroll) (b:Int):RScroll:=
 if s.W = true then
  ({ s with T:=({ s.T with Line:=(i64.wrap (Int.tdiv b 8)),Row:=(Int.tmod b 8) }:Place),W:=(!s.W) }:RScroll)
 else
  ({ V:=s.V,T:=({ s.T with Column:=(i64.wrap (Int.tdiv b 8)) }:Place),X:=(Int.tmod b 8),W:=(!s.W) }:RScroll)
theorem rOffset_ok (s:RScroll) (b:Int):FnSpec Try.prog 61 1000 [RScroll.enc s,.int .i64 b] [] (RScroll.enc (rOffset s b)) []:=by
 unfold rOffset
 rcases bt s.W with c1 | c1
 ·rw [if_pos c1]
  exact fn_of_x hG hM Try.func61 (by kernel_rfl) (by kernel_rfl) 400 [.yes] (J c1 (J (by decide:((8:Int) ≠ 0)) (J (by decide:((8:Int) ≠ 0)) trivial))) (by kernel_rfl)
 ·rw [if_neg (nt c1)]
  exact fn_of_x hG hM Try.func61 (by kernel_rfl) (by kernel_rfl) 400 [.no] (J c1 (J (by decide:((8:Int) ≠ 0)) (J (by decide:((8:Int) ≠ 0)) trivial))) (by kernel_rfl)
def rAddress (s:RScroll) (b:Int):RScroll:=
 if s.W = true then
  ({ V:=(rOf (i64.wrap ((i64.wrap ((i64.wrap (Int.tdiv (rBits s.T) 256)) * 256)) + b))),T:=(rOf (i64.wrap ((i64.wrap ((i64.wrap (Int.tdiv (rBits s.T) 256)) * 256)) + b))),X:=s.X,W:=(!s.W) }:RScroll)
 else
  ({ s with T:=(rOf (i64.wrap ((Int.tmod (rBits s.T) 256) + (i64.wrap ((Int.tmod b 64) * 256))))),W:=(!s.W) }:RScroll)
theorem rAddress_ok (s:RScroll) (b:Int):FnSpec Try.prog 62 1000 [RScroll.enc s,.int .i64 b] [] (RScroll.enc (rAddress s b)) []:=by
 unfold rAddress
 rcases bt s.W with c1 | c1
 ·rw [if_pos c1]
  exact fn_of_x hG hM Try.func62 (by kernel_rfl) (by kernel_rfl) 400 [.call [] [] 1000 (.int .i64 (rBits s.T)) [],.yes,.call [] [] 1000 (Place.enc (rOf (i64.wrap ((i64.wrap ((i64.wrap (Int.tdiv (rBits s.T) 256)) * 256)) + b)))) []] (J (rBits_ok s.T) (J c1 (J (by decide:((256:Int) ≠ 0)) (J (rOf_ok (i64.wrap ((i64.wrap ((i64.wrap (Int.tdiv (rBits s.T) 256)) * 256)) + b))) trivial)))) (by kernel_rfl)
 ·rw [if_neg (nt c1)]
  exact fn_of_x hG hM Try.func62 (by kernel_rfl) (by kernel_rfl) 400 [.call [] [] 1000 (.int .i64 (rBits s.T)) [],.no,.call [] [] 1000 (Place.enc (rOf (i64.wrap ((Int.tmod (rBits s.T) 256) + (i64.wrap ((Int.tmod b 64) * 256)))))) []] (J (rBits_ok s.T) (J c1 (J (by decide:((256:Int) ≠ 0)) (J (by decide:((64:Int) ≠ 0)) (J (rOf_ok (i64.wrap ((Int.tmod (rBits s.T) 256) + (i64.wrap ((Int.tmod b 64) * 256))))) trivial))))) (by kernel_rfl)
def rRight (s:RScroll):RScroll:=
 if ((i64.wrap (s.V.Column + 1)) == 32) = true then
  ({ s with V:=({ s.V with Column:=0,Across:=(i64.wrap (1 - s.V.Across)) }:Place) }:RScroll)
 else
  ({ s with V:=({ s.V with Column:=(i64.wrap (s.V.Column + 1)) }:Place) }:RScroll)
theorem rRight_ok (s:RScroll):FnSpec Try.prog 79 1000 [RScroll.enc s] [] (RScroll.enc (rRight s)) []:=by
 unfold rRight
 rcases bt ((i64.wrap (s.V.Column + 1)) == 32) with c1 | c1
 ·rw [if_pos c1]
  exact fn_of_x hG hM Try.func79 (by kernel_rfl) (by kernel_rfl) 400 [.yes] (J c1 trivial) (by kernel_rfl)
 ·rw [if_neg (nt c1)]
  exact fn_of_x hG hM Try.func79 (by kernel_rfl) (by kernel_rfl) 400 [.no] (J c1 trivial) (by kernel_rfl)
def rDown (s:RScroll):RScroll:=
 if (decide ((i64.wrap (s.V.Row + 1)) < 8)) = true then
  ({ s with V:=({ s.V with Row:=(i64.wrap (s.V.Row + 1)) }:Place) }:RScroll)
 else
  if ((i64.wrap (s.V.Line + 1)) == 30) = true then
   ({ s with V:=({ Column:=s.V.Column,Line:=0,Across:=s.V.Across,Down:=(i64.wrap (1 - s.V.Down)),Row:=0 }:Place) }:RScroll)
  else
   if ((i64.wrap (s.V.Line + 1)) == 32) = true then
    ({ s with V:=({ s.V with Line:=0,Row:=0 }:Place) }:RScroll)
   else
    ({ s with V:=({ s.V with Line:=(i64.wrap (s.V.Line + 1)),Row:=0 }:Place) }:RScroll)
theorem rDown_ok (s:RScroll):FnSpec Try.prog 80 1000 [RScroll.enc s] [] (RScroll.enc (rDown s)) []:=by
 unfold rDown
 rcases bt (decide ((i64.wrap (s.V.Row + 1)) < 8)) with c1 | c1
 ·rw [if_pos c1]
  exact fn_of_x hG hM Try.func80 (by kernel_rfl) (by kernel_rfl) 400 [.yes] (J c1 trivial) (by kernel_rfl)
 ·rw [if_neg (nt c1)]
  rcases bt ((i64.wrap (s.V.Line + 1)) == 30) with c2 | c2
  ·rw [if_pos c2]
   exact fn_of_x hG hM Try.func80 (by kernel_rfl) (by kernel_rfl) 400 [.no,.yes,.no] (J c1 (J c2 (J T0 trivial))) (by kernel_rfl)
  ·rw [if_neg (nt c2)]
   rcases bt ((i64.wrap (s.V.Line + 1)) == 32) with c3 | c3
   ·rw [if_pos c3]
    exact fn_of_x hG hM Try.func80 (by kernel_rfl) (by kernel_rfl) 400 [.no,.no,.yes] (J c1 (J c2 (J c3 trivial))) (by kernel_rfl)
   ·rw [if_neg (nt c3)]
    exact fn_of_x hG hM Try.func80 (by kernel_rfl) (by kernel_rfl) 400 [.no,.no,.no] (J c1 (J c2 (J c3 trivial))) (by kernel_rfl)
def rLine (s:RScroll):RScroll:=
 ({ s with V:=({ s.V with Column:=s.T.Column,Across:=s.T.Across }:Place) }:RScroll)
theorem rLine_ok (s:RScroll):FnSpec Try.prog 81 1000 [RScroll.enc s] [] (RScroll.enc (rLine s)) []:=by
 unfold rLine
 exact fn_of_x hG hM Try.func81 (by kernel_rfl) (by kernel_rfl) 400 [] trivial (by kernel_rfl)
def rTop (s:RScroll):RScroll:=
 ({ s with V:=({ s.T with Column:=s.V.Column,Across:=s.V.Across }:Place) }:RScroll)
theorem rTop_ok (s:RScroll):FnSpec Try.prog 82 1000 [RScroll.enc s] [] (RScroll.enc (rTop s)) []:=by
 unfold rTop
 exact fn_of_x hG hM Try.func82 (by kernel_rfl) (by kernel_rfl) 400 [] trivial (by kernel_rfl)
def rName (v:Place):Int:=
 (i64.wrap ((i64.wrap ((i64.wrap ((i64.wrap (8192 + v.Column)) + (i64.wrap (32 * v.Line)))) + (i64.wrap (1024 * v.Across)))) + (i64.wrap (2048 * v.Down))))
theorem rName_ok (v:Place):FnSpec Try.prog 84 1000 [Place.enc v] [] (.int .i64 (rName v)) []:=by
 unfold rName
 exact fn_of_x hG hM Try.func84 (by kernel_rfl) (by kernel_rfl) 400 [] trivial (by kernel_rfl)
def rShade (v:Place):Int × Int:=
 ((i64.wrap ((i64.wrap ((i64.wrap (9152 + (i64.wrap (1024 * (i64.wrap (v.Across + (i64.wrap (2 * v.Down)))))))) + (i64.wrap (8 * (i64.wrap (Int.tdiv v.Line 4)))))) + (i64.wrap (Int.tdiv v.Column 4)))),(i64.wrap ((i64.wrap ((i64.wrap (Int.tdiv (Int.tmod v.Column 4) 2)) * 2)) + (i64.wrap ((i64.wrap (Int.tdiv (Int.tmod v.Line 4) 2)) * 4)))))
theorem rShade_ok (v:Place):FnSpec Try.prog 85 1000 [Place.enc v] [] (.tuple ⟨[.int .i64 ((rShade v).1),.int .i64 ((rShade v).2)]⟩) []:=by
 unfold rShade
 exact fn_of_x hG hM Try.func85 (by kernel_rfl) (by kernel_rfl) 400 [] (J (by decide:((4:Int) ≠ 0)) (J (by decide:((4:Int) ≠ 0)) (J (by decide:((4:Int) ≠ 0)) (J (by decide:((2:Int) ≠ 0)) (J (by decide:((4:Int) ≠ 0)) (J (by decide:((2:Int) ≠ 0)) trivial)))))) (by kernel_rfl)
def rMirror (a:Int) (u:Bool):Int:=
 if u = true then
  (i64.wrap ((Int.tmod a 1024) + (i64.wrap (1024 * (Int.tmod (i64.wrap (Int.tdiv a 1024)) 2)))))
 else
  (i64.wrap ((Int.tmod a 1024) + (i64.wrap (1024 * (Int.tmod (i64.wrap (Int.tdiv a 2048)) 2)))))
theorem rMirror_ok (a:Int) (u:Bool):FnSpec Try.prog 67 1000 [.int .i64 a,.bool u] [] (.int .i64 (rMirror a u)) []:=by
 unfold rMirror
 rcases bt u with c1 | c1
 ·rw [if_pos c1]
  exact fn_of_x hG hM Try.func67 (by kernel_rfl) (by kernel_rfl) 400 [.yes] (J (by decide:((2048:Int) ≠ 0)) (J (by decide:((2:Int) ≠ 0)) (J c1 (J (by decide:((1024:Int) ≠ 0)) (J (by decide:((2:Int) ≠ 0)) (J (by decide:((1024:Int) ≠ 0)) trivial)))))) (by kernel_rfl)
 ·rw [if_neg (nt c1)]
  exact fn_of_x hG hM Try.func67 (by kernel_rfl) (by kernel_rfl) 400 [.no] (J (by decide:((2048:Int) ≠ 0)) (J (by decide:((2:Int) ≠ 0)) (J c1 (J (by decide:((1024:Int) ≠ 0)) trivial)))) (by kernel_rfl)
def rColour (a:Int):Int:=
 if (decide ((Int.tmod a 32) ≥ 16)) = true then
  if ((Int.tmod (Int.tmod a 32) 4) == 0) = true then
   (i64.wrap ((Int.tmod a 32) - 16))
  else
   (Int.tmod a 32)
 else
  (Int.tmod a 32)
theorem rColour_ok (a:Int):FnSpec Try.prog 68 1000 [.int .i64 a] [] (.int .i64 (rColour a)) []:=by
 unfold rColour
 rcases bt (decide ((Int.tmod a 32) ≥ 16)) with c1 | c1
 ·rw [if_pos c1]
  rcases bt ((Int.tmod (Int.tmod a 32) 4) == 0) with c2 | c2
  ·rw [if_pos c2]
   exact fn_of_x hG hM Try.func68 (by kernel_rfl) (by kernel_rfl) 400 [.yes,.yes,.yes,.yes,.yes] (J (by decide:((32:Int) ≠ 0)) (J c1 (J c1 (J (by decide:((4:Int) ≠ 0)) (J c1 (J c1 (J c2 trivial))))))) (by kernel_rfl)
  ·rw [if_neg (nt c2)]
   exact fn_of_x hG hM Try.func68 (by kernel_rfl) (by kernel_rfl) 400 [.yes,.yes,.yes,.yes,.no] (J (by decide:((32:Int) ≠ 0)) (J c1 (J c1 (J (by decide:((4:Int) ≠ 0)) (J c1 (J c1 (J c2 trivial))))))) (by kernel_rfl)
 ·rw [if_neg (nt c1)]
  exact fn_of_x hG hM Try.func68 (by kernel_rfl) (by kernel_rfl) 400 [.no,.no,.no,.no,.no] (J (by decide:((32:Int) ≠ 0)) (J c1 (J c1 (J c1 (J c1 (J T0 trivial)))))) (by kernel_rfl)
def rBit (n:Int) (of:Int):Bool:=
 ((Int.tmod (i64.wrap (Int.tdiv n of)) 2) == 1)
theorem rBit_ok (n:Int) (of:Int) (ho:of ≠ 0):FnSpec Try.prog 43 1000 [.int .i64 n,.int .i64 of] [] (.bool (rBit n of)) []:=by
 unfold rBit
 exact fn_of_x hG hM Try.func43 (by kernel_rfl) (by kernel_rfl) 400 [] (J ho (J (by decide:((2:Int) ≠ 0)) trivial)) (by kernel_rfl)
theorem tm_e {a:Int} (n:Int) (h:0 ≤ a):Int.tmod a n = a % n:=Int.tmod_eq_emod_of_nonneg h
theorem td_e {a:Int} (n:Int) (h:0 ≤ a):Int.tdiv a n = a / n:=Int.tdiv_eq_ediv_of_nonneg h
theorem w64 {x:Int} (h0:-1000000000 ≤ x) (h:x < 1000000000):i64.wrap x = x:=by rw [IntKind.wrap_i64];omega
theorem rMirror_eq {a:Int} (u:Bool) (h0:0 ≤ a) (h1:a < 65536):rMirror a u = if u then a % 2048 else a % 1024 + 1024 * (a / 2048 % 2):=by
 unfold rMirror
 rw [tm_e 1024 h0,td_e 1024 h0,td_e 2048 h0,w64 (x:=a / 1024) (by omega) (by omega),w64 (x:=a / 2048) (by omega) (by omega),tm_e 2 (by omega),tm_e 2 (by omega),w64 (x:=1024 * (a / 1024 % 2)) (by omega) (by omega),w64 (x:=1024 * (a / 2048 % 2)) (by omega) (by omega),w64 (by omega) (by omega),w64 (by omega) (by omega)]
 cases u
 ·rfl
 ·show a % 1024 + 1024 * (a / 1024 % 2) = a % 2048;omega
theorem rColour_eq {a:Int} (h0:0 ≤ a):rColour a = if a % 32 ≥ 16 ∧ a % 4 = 0 then a % 32 - 16 else a % 32:=by
 unfold rColour
 rw [tm_e 32 h0,tm_e 4 (by omega),w64 (by omega) (by omega)]
 by_cases c:a % 32 ≥ 16
 ·rw [if_pos (decide_eq_true c)]
  by_cases d:a % 4 = 0
  ·rw [if_pos (by simp;omega),if_pos ⟨c,d⟩]
  ·rw [if_neg (by simp;omega),if_neg (fun h => d h.2)]
 ·rw [if_neg (by simpa using c),if_neg (fun h => c h.1)]
end Go.Proofs.Ytgnhhnmpeklciaa
namespace Go.Proofs.Ytgnhhnmpeklciaa
open Go VX IntWalk
open Go.IntKind (i64 u8 u16)
theorem bOr_comm (k:IntKind) (a b:Int):bOr k a b = bOr k b a:=by unfold bOr;rw [BitVec.or_comm]
theorem and_u16_31 {a:Int} (h0:0 ≤ a) (h1:a < 65536):bAnd .u16 a 31 = a % 32:=by
 have:=bAnd_field (k:=.u16) rfl 0 5 (m:=31) rfl h0 h1 (by decide)
 simpa using this
theorem and_u16_992 {a:Int} (h0:0 ≤ a) (h1:a < 65536):bAnd .u16 a 992 = a / 32 % 32 * 32:=by
 have:=bAnd_field (k:=.u16) rfl 5 5 (m:=992) rfl h0 h1 (by decide)
 simpa using this
theorem and_u16_3 {a:Int} (h0:0 ≤ a) (h1:a < 65536):bAnd .u16 a 3 = a % 4:=by
 have:=bAnd_field (k:=.u16) rfl 0 2 (m:=3) rfl h0 h1 (by decide)
 simpa using this
theorem and_u16_2 {a:Int} (h0:0 ≤ a) (h1:a < 65536):bAnd .u16 a 2 = a / 2 % 2 * 2:=by
 have:=bAnd_field (k:=.u16) rfl 1 1 (m:=2) rfl h0 h1 (by decide)
 simpa using this
theorem and_u16_3072 {a:Int} (h0:0 ≤ a) (h1:a < 65536):bAnd .u16 a 3072 = a / 1024 % 4 * 1024:=by
 have:=bAnd_field (k:=.u16) rfl 10 2 (m:=3072) rfl h0 h1 (by decide)
 simpa using this
theorem and_u16_4095 {a:Int} (h0:0 ≤ a) (h1:a < 65536):bAnd .u16 a 4095 = a % 4096:=by
 have:=bAnd_field (k:=.u16) rfl 0 12 (m:=4095) rfl h0 h1 (by decide)
 simpa using this
theorem and_u16_1023 {a:Int} (h0:0 ≤ a) (h1:a < 65536):bAnd .u16 a 1023 = a % 1024:=by
 have:=bAnd_field (k:=.u16) rfl 0 10 (m:=1023) rfl h0 h1 (by decide)
 simpa using this
theorem and_u16_1024 {a:Int} (h0:0 ≤ a) (h1:a < 65536):bAnd .u16 a 1024 = a / 1024 % 2 * 1024:=by
 have:=bAnd_field (k:=.u16) rfl 10 1 (m:=1024) rfl h0 h1 (by decide)
 simpa using this
theorem and_u16_2047 {a:Int} (h0:0 ≤ a) (h1:a < 65536):bAnd .u16 a 2047 = a % 2048:=by
 have:=bAnd_field (k:=.u16) rfl 0 11 (m:=2047) rfl h0 h1 (by decide)
 simpa using this
theorem and_u16_28672 {a:Int} (h0:0 ≤ a) (h1:a < 65536):bAnd .u16 a 28672 = a / 4096 % 8 * 4096:=by
 have:=bAnd_field (k:=.u16) rfl 12 3 (m:=28672) rfl h0 h1 (by decide)
 simpa using this
theorem and_u16_32767 {a:Int} (h0:0 ≤ a) (h1:a < 65536):bAnd .u16 a 32767 = a % 32768:=by
 have:=bAnd_field (k:=.u16) rfl 0 15 (m:=32767) rfl h0 h1 (by decide)
 simpa using this
theorem and_u16_32512 {a:Int} (h0:0 ≤ a) (h1:a < 65536):bAnd .u16 a 32512 = a / 256 % 128 * 256:=by
 have:=bAnd_field (k:=.u16) rfl 8 7 (m:=32512) rfl h0 h1 (by decide)
 simpa using this
theorem and_u16_255 {a:Int} (h0:0 ≤ a) (h1:a < 65536):bAnd .u16 a 255 = a % 256:=by
 have:=bAnd_field (k:=.u16) rfl 0 8 (m:=255) rfl h0 h1 (by decide)
 simpa using this
theorem and_u16_16383 {a:Int} (h0:0 ≤ a) (h1:a < 65536):bAnd .u16 a 16383 = a % 16384:=by
 have:=bAnd_field (k:=.u16) rfl 0 14 (m:=16383) rfl h0 h1 (by decide)
 simpa using this
theorem and_u8_7 {a:Int} (h0:0 ≤ a) (h1:a < 256):bAnd .u8 a 7 = a % 8:=by
 have:=bAnd_field (k:=.u8) rfl 0 3 (m:=7) rfl h0 h1 (by decide)
 simpa using this
theorem and_u8_1 {a:Int} (h0:0 ≤ a) (h1:a < 256):bAnd .u8 a 1 = a % 2:=by
 have:=bAnd_field (k:=.u8) rfl 0 1 (m:=1) rfl h0 h1 (by decide)
 simpa using this
theorem and_u8_3 {a:Int} (h0:0 ≤ a) (h1:a < 256):bAnd .u8 a 3 = a % 4:=by
 have:=bAnd_field (k:=.u8) rfl 0 2 (m:=3) rfl h0 h1 (by decide)
 simpa using this
theorem and_u8_63 {a:Int} (h0:0 ≤ a) (h1:a < 256):bAnd .u8 a 63 = a % 64:=by
 have:=bAnd_field (k:=.u8) rfl 0 6 (m:=63) rfl h0 h1 (by decide)
 simpa using this
theorem shr_u8_1 (a:Int):bShr .u8 a 1 = a / 2:=by
 show a.fdiv 2 = _
 exact Int.fdiv_eq_ediv_of_nonneg _ (by decide)
theorem shr_u16_1 (a:Int):bShr .u16 a 1 = a / 2:=by
 show a.fdiv 2 = _
 exact Int.fdiv_eq_ediv_of_nonneg _ (by decide)
theorem shl_u16_1 (a:Int):bShl .u16 a 1 = u16.wrap (a * 2):=rfl
theorem shr_u16_2 (a:Int):bShr .u16 a 2 = a / 4:=by
 show a.fdiv 4 = _
 exact Int.fdiv_eq_ediv_of_nonneg _ (by decide)
theorem shr_u16_3 (a:Int):bShr .u16 a 3 = a / 8:=by
 show a.fdiv 8 = _
 exact Int.fdiv_eq_ediv_of_nonneg _ (by decide)
theorem shl_u16_3 (a:Int):bShl .u16 a 3 = u16.wrap (a * 8):=rfl
theorem shr_u16_5 (a:Int):bShr .u16 a 5 = a / 32:=by
 show a.fdiv 32 = _
 exact Int.fdiv_eq_ediv_of_nonneg _ (by decide)
theorem shl_u16_5 (a:Int):bShl .u16 a 5 = u16.wrap (a * 32):=rfl
theorem shl_u16_8 (a:Int):bShl .u16 a 8 = u16.wrap (a * 256):=rfl
theorem shl_u16_10 (a:Int):bShl .u16 a 10 = u16.wrap (a * 1024):=rfl
theorem shr_u16_12 (a:Int):bShr .u16 a 12 = a / 4096:=by
 show a.fdiv 4096 = _
 exact Int.fdiv_eq_ediv_of_nonneg _ (by decide)
theorem shl_u16_12 (a:Int):bShl .u16 a 12 = u16.wrap (a * 4096):=rfl
theorem or_u16_lo3 {a b:Int} (h0:0 ≤ a) (h1:a < 65536) (hb0:0 ≤ b) (hb1:b < 8) (hd:a % 8 = 0):bOr .u16 a b = a + b:=bOr_low (k:=.u16) rfl 3 h0 h1 hb0 hb1 hd (by decide)
theorem xor_u16_16 {a:Int} (h0:0 ≤ a) (h1:a < 65536):bXor .u16 a 16 = a + 16 - 2 * (a / 16 % 2 * 16):=bXor_bit (k:=.u16) rfl 4 rfl h0 h1 (by decide)
theorem or_u16_lo6 {a b:Int} (h0:0 ≤ a) (h1:a < 65536) (hb0:0 ≤ b) (hb1:b < 64) (hd:a % 64 = 0):bOr .u16 a b = a + b:=bOr_low (k:=.u16) rfl 6 h0 h1 hb0 hb1 hd (by decide)
theorem or_u16_lo10 {a b:Int} (h0:0 ≤ a) (h1:a < 65536) (hb0:0 ≤ b) (hb1:b < 1024) (hd:a % 1024 = 0):bOr .u16 a b = a + b:=bOr_low (k:=.u16) rfl 10 h0 h1 hb0 hb1 hd (by decide)
theorem or_u16_hi10 {a b:Int} (h0:0 ≤ a) (h1:a < 1024) (hb0:0 ≤ b) (hb1:b < 65536) (hd:b % 1024 = 0):bOr .u16 a b = a + b:=by rw [bOr_comm,Int.add_comm];exact or_u16_lo10 hb0 hb1 h0 h1 hd
theorem xor_u16_1024 {a:Int} (h0:0 ≤ a) (h1:a < 65536):bXor .u16 a 1024 = a + 1024 - 2 * (a / 1024 % 2 * 1024):=bXor_bit (k:=.u16) rfl 10 rfl h0 h1 (by decide)
theorem xor_u16_2048 {a:Int} (h0:0 ≤ a) (h1:a < 65536):bXor .u16 a 2048 = a + 2048 - 2 * (a / 2048 % 2 * 2048):=bXor_bit (k:=.u16) rfl 11 rfl h0 h1 (by decide)
theorem or_u16_lo12 {a b:Int} (h0:0 ≤ a) (h1:a < 65536) (hb0:0 ≤ b) (hb1:b < 4096) (hd:a % 4096 = 0):bOr .u16 a b = a + b:=bOr_low (k:=.u16) rfl 12 h0 h1 hb0 hb1 hd (by decide)
theorem rOf_eq (n:Int) (h0:0 ≤ n) (h1:n < 32768):rOf n = ⟨n % 32,n / 32 % 32,n / 1024 % 2,n / 2048 % 2,n / 4096 % 8⟩:=by
 unfold rOf
 simp (disch:=omega) only [Int.tmod_eq_emod_of_nonneg,Int.tdiv_eq_ediv_of_nonneg,i64_in]
theorem sName_eq (s:Scroll) (h0:0 ≤ s.V) (h1:s.V < 65536):sName s = 8192 + s.V % 4096:=by
 unfold sName
 simp (disch:=omega) only [and_u16_4095,Int.ediv_one,Int.mul_one,or_u16_lo12]
theorem rName_eq (p:Place) (h1:0 ≤ p.Column ∧ p.Column < 32) (h2:0 ≤ p.Line ∧ p.Line < 32) (h3:0 ≤ p.Across ∧ p.Across < 2) (h4:0 ≤ p.Down ∧ p.Down < 2):rName p = 8192 + p.Column + 32 * p.Line + 1024 * p.Across + 2048 * p.Down:=by
 unfold rName
 simp (disch:=omega) only [i64_in]
theorem rShade_eq (p:Place) (h1:0 ≤ p.Column ∧ p.Column < 32) (h2:0 ≤ p.Line ∧ p.Line < 32) (h3:0 ≤ p.Across ∧ p.Across < 2) (h4:0 ≤ p.Down ∧ p.Down < 2) :
  rShade p = (9152 + 1024 * (p.Across + 2 * p.Down) + 8 * (p.Line / 4) + p.Column / 4,p.Column % 4 / 2 * 2 + p.Line % 4 / 2 * 4):=by
 unfold rShade
 simp (disch:=omega) only [Int.tmod_eq_emod_of_nonneg,Int.tdiv_eq_ediv_of_nonneg,i64_in]
theorem or_9152 (q:Int) (h0:0 ≤ q) (h1:q < 4):bOr .u16 9152 (q * 1024) = 9152 + q * 1024:=by
 obtain rfl | rfl | rfl | rfl:q = 0 ∨ q = 1 ∨ q = 2 ∨ q = 3:=by omega
 all_goals decide
theorem or_bits (x y:Int) (hx:x = 0 ∨ x = 1) (hy:y = 0 ∨ y = 1):bOr .u16 (x * 2) (y * 4) = x * 2 + y * 4:=by
 rcases hx with rfl | rfl <;> rcases hy with rfl | rfl <;> decide
theorem sShade_eq (s:Scroll) (h0:0 ≤ s.V) (h1:s.V < 65536):sShade s = (9152 + s.V / 1024 % 4 * 1024 + s.V / 128 % 8 * 8 + s.V / 4 % 8,s.V / 2 % 2 * 2 + s.V / 64 % 2 * 4):=by
 unfold sShade
 simp (disch:=omega) only [and_u16_3072,and_u16_992,and_u16_31,and_u16_2,shr_u16_5,shr_u16_2,shl_u16_3,shl_u16_1,u16_in]
 rw [or_9152 _ (by omega) (by omega)]
 simp (disch:=omega) only [or_u16_lo6,or_u16_lo3]
 have e:s.V / 32 % 32 * 32 / 32 / 2 % 2 * 2 * 2 = s.V / 64 % 2 * 4:=by omega
 rw [e,or_bits _ _ (by omega) (by omega)]
 simp (disch:=omega) only [u8_in]
 simp only [Prod.mk.injEq]
 constructor <;> omega
theorem mirror_eq (a:Int) (u:Bool) (h0:0 ≤ a) (h1:a < 65536):mirror a u = bif u then a % 2048 else a % 1024 + a / 2048 % 2 * 1024:=by
 unfold mirror
 cases u
 ·simp (disch:=omega) only [Bool.not_false,if_true,shr_u16_1,and_u16_1023,and_u16_1024,Int.ediv_one,Int.mul_one,or_u16_hi10,cond_false]
  omega
 ·simp (disch:=omega) only [Bool.not_true,Bool.false_eq_true,if_false,and_u16_2047,Int.ediv_one,Int.mul_one,cond_true]
theorem colour_mod (a:Int) (h0:0 ≤ a) (h1:a < 65536):colour a = colour (a % 32):=by
 unfold colour
 simp (disch:=omega) only [and_u16_31,Int.ediv_one,Int.mul_one,Int.emod_emod_of_dvd]
theorem rColour_mod (a:Int) (h0:0 ≤ a) (h1:a < 65536):rColour a = rColour (a % 32):=by
 unfold rColour
 simp (disch:=omega) only [Int.tmod_eq_emod_of_nonneg]
 rw [Int.emod_emod_of_dvd a (Int.dvd_refl 32)]
def coloursB (c:Nat):Bool:=
 (i64.wrap (colour c) == rColour c) && ((colour (u16.wrap (colour c)) == colour c) && (((c:Int) % 4 == 0) == (colour ((c:Int) + 16 - 2 * ((c:Int) / 16 % 2 * 16)) == colour c)))
theorem colours_all:allN coloursB 5 0 = true:=by kernel_rfl
theorem colours_plain (a:Int) (h0:0 ≤ a) (h1:a < 65536):((i64.wrap (colour a)):Int) = rColour (i64.wrap a) ∧ colour (u16.wrap (colour a)) = colour a ∧
  (((bAnd .u16 a 3:Int) == 0) == (colour (bXor .u16 a 16) == colour a)) = true:=by
 simp (disch:=omega) only [i64_in,xor_u16_16,and_u16_3]
 have h:=allN_int colours_all (a % 32) (by omega) (by omega)
 have e:((a % 32).toNat:Int) = a % 32:=Int.toNat_of_nonneg (by omega)
 simp only [coloursB,Bool.and_eq_true,beq_iff_eq,e] at h
 obtain ⟨h2,h3,h4⟩:=h
 rw [colour_mod a h0 h1,rColour_mod a h0 h1,colour_mod (a + 16 - 2 * (a / 16 % 2 * 16)) (by omega) (by omega)]
 refine ⟨h2,h3,?_⟩
 have e1:(a + 16 - 2 * (a / 16 % 2 * 16)) % 32 = a % 32 + 16 - 2 * (a % 32 / 16 % 2 * 16):=by omega
 have e2:a / 1 % 4 * 1 = a % 32 % 4:=by omega
 have e3:a % 4 = a % 32 % 4:=by omega
 rw [e1]
 first | rw [e2] | rw [e3]
 rw [h4]
 simp
structure Good (s:Scroll):Prop where
 v0:0 ≤ s.V
 v1:s.V < 32768
 t0:0 ≤ s.T
 t1:s.T < 32768
 x0:0 ≤ s.X
 x1:s.X < 8
structure Fits (s:Scroll):Prop where
 v0:0 ≤ s.V
 v1:s.V < 65536
 t0:0 ≤ s.T
 t1:s.T < 65536
 x0:0 ≤ s.X
 x1:s.X < 256
theorem right_eq (s:Scroll) (h:Fits s):right s = ⟨s.V % 32768,s.T % 32768,s.X % 8,s.W⟩:=by
 obtain ⟨_,_,_,_,_,_⟩:=h
 unfold right
 simp (disch:=omega) only [and_u16_32767,and_u8_7,Int.ediv_one,Int.mul_one]
theorem right_good (s:Scroll) (h:Good s):right s = s:=by
 obtain ⟨_,_,_,_,_,_⟩:=h
 rw [right_eq s ⟨by omega,by omega,by omega,by omega,by omega,by omega⟩]
 obtain ⟨V,T,X,W⟩:=s
 simp only [Scroll.mk.injEq,and_true]
 simp only at *
 omega
theorem put_eq (a m b:Int) (ha:0 ≤ a ∧ a < 65536) (hb:0 ≤ b ∧ b < 65536) (hm:0 ≤ m ∧ m < 65536):put a m b = a - bAnd .u16 a m + bAnd .u16 b m:=
 bOr_put (k:=.u16) rfl ha.1 ha.2 hb.1 hb.2 hm.1 hm.2
theorem address1_eq (s:Scroll) (h:Good s) (b:Int) (hb:0 ≤ b ∧ b < 256) (hw:s.W = false):sAddress s b = ⟨s.V,s.T % 256 + b % 64 * 256,s.X,true⟩:=by
 unfold sAddress
 rw [right_good s h,if_neg (by rw [hw];decide),hw]
 obtain ⟨_,_,_,_,_,_⟩:=h
 simp (disch:=omega) only [and_u8_63,Int.ediv_one,Int.mul_one,u16_in,shl_u16_8]
 rw [put_eq _ _ _ (by omega) (by omega) (by decide)]
 simp (disch:=omega) only [and_u16_32512]
 simp only [Scroll.mk.injEq,true_and,Bool.not_false,and_true]
 omega
theorem address2_eq (s:Scroll) (h:Good s) (b:Int) (hb:0 ≤ b ∧ b < 256) (hw:s.W = true):sAddress s b = ⟨s.T / 256 * 256 + b,s.T / 256 * 256 + b,s.X,false⟩:=by
 unfold sAddress
 rw [right_good s h,if_pos hw,hw]
 obtain ⟨_,_,_,_,_,_⟩:=h
 simp (disch:=omega) only [u16_in]
 rw [put_eq _ _ _ (by omega) (by omega) (by decide)]
 simp (disch:=omega) only [and_u16_255,Int.ediv_one,Int.mul_one]
 simp only [Scroll.mk.injEq,true_and,Bool.not_true,and_true]
 omega
theorem step_V (s:Scroll) (h:Good s) (far:Bool):(sStep s far).V = (s.V + bif far then 32 else 1) % 32768 ∧ Good (sStep s far):=by
 obtain ⟨_,_,_,_,_,_⟩:=h
 unfold sStep
 cases far
 ·rw [if_neg (by decide)]
  simp (disch:=omega) only [u16_in]
  rw [right_eq _ ⟨by simp only;omega,by simp only;omega,by simp only;omega,by simp only;omega,by simp only;omega,by simp only;omega⟩]
  exact ⟨by simp only [cond_false],⟨by simp only;omega,by simp only;omega,by simp only;omega,by simp only;omega,by simp only;omega,by simp only;omega⟩⟩
 ·rw [if_pos rfl]
  simp (disch:=omega) only [u16_in]
  rw [right_eq _ ⟨by simp only;omega,by simp only;omega,by simp only;omega,by simp only;omega,by simp only;omega,by simp only;omega⟩]
  exact ⟨by simp only [cond_true];omega,⟨by simp only;omega,by simp only;omega,by simp only;omega,by simp only;omega,by simp only;omega,by simp only;omega⟩⟩
theorem and_two {a m:Int} (x y:Nat) (h0:0 ≤ a) (h1:a < 65536) (hm:m = ((x ||| y:Nat):Int)) (hx:x < 65536) (hy:y < 65536) (hd:x &&& y = 0):bAnd .u16 a m = bAnd .u16 a x + bAnd .u16 a y:=by
 obtain ⟨n,rfl⟩:=Int.eq_ofNat_of_zero_le h0
 subst hm
 have hn:n < 2 ^ IntKind.u16.bits:=by show n < 65536;omega
 rw [and_nat (k:=.u16) rfl hn (Nat.or_lt_two_pow (n:=16) hx hy),and_nat (k:=.u16) rfl hn hx,and_nat (k:=.u16) rfl hn hy,Nat.and_or_distrib_left,or_add]
 ·exact Int.natCast_add _ _
 ·have:(n &&& x) &&& (n &&& y) = n &&& (x &&& y):=by
   apply Nat.eq_of_testBit_eq
   intro i
   simp only [Nat.testBit_and]
   cases n.testBit i <;> simp
  rw [this,hd,Nat.and_zero]
theorem and_u16_30720 {a:Int} (h0:0 ≤ a) (h1:a < 65536):bAnd .u16 a 30720 = a / 2048 % 16 * 2048:=by
 have:=bAnd_field (k:=.u16) rfl 11 4 (m:=30720) rfl h0 h1 (by decide)
 simpa using this
theorem and_u16_31712 {a:Int} (h0:0 ≤ a) (h1:a < 65536):bAnd .u16 a 31712 = a / 2048 % 16 * 2048 + a / 32 % 32 * 32:=by
 rw [and_two 30720 992 h0 h1 (by decide) (by decide) (by decide) (by decide)]
 show bAnd .u16 a 30720 + bAnd .u16 a 992 = _
 rw [and_u16_30720 h0 h1,and_u16_992 h0 h1]
theorem and_u16_1055 {a:Int} (h0:0 ≤ a) (h1:a < 65536):bAnd .u16 a 1055 = a / 1024 % 2 * 1024 + a % 32:=by
 rw [and_two 1024 31 h0 h1 (by decide) (by decide) (by decide) (by decide)]
 show bAnd .u16 a 1024 + bAnd .u16 a 31 = _
 rw [and_u16_1024 h0 h1,and_u16_31 h0 h1]
theorem good_of (V T X:Int) (W:Bool) (h1:0 ≤ V ∧ V < 32768) (h2:0 ≤ T ∧ T < 32768) (h3:0 ≤ X ∧ X < 8):Good ⟨V,T,X,W⟩:=⟨h1.1,h1.2,h2.1,h2.2,h3.1,h3.2⟩
theorem control_eq (s:Scroll) (h:Good s) (b:Int) (hb:0 ≤ b ∧ b < 256):sControl s b = ⟨s.V,s.T - s.T / 1024 % 4 * 1024 + b % 4 * 1024,s.X,s.W⟩:=by
 unfold sControl
 rw [right_good s h]
 obtain ⟨_,_,_,_,_,_⟩:=h
 simp (disch:=omega) only [u16_in,shl_u16_10]
 have e:u16.wrap (b * 1024) = b % 64 * 1024:=by rw [IntKind.wrap_u16];omega
 rw [e,put_eq _ _ _ (by omega) (by omega) (by decide)]
 simp (disch:=omega) only [and_u16_3072]
 simp only [Scroll.mk.injEq,true_and,and_true]
 omega
theorem offset1_eq (s:Scroll) (h:Good s) (b:Int) (hb:0 ≤ b ∧ b < 256) (hw:s.W = false):sOffset s b = ⟨s.V,s.T / 32 * 32 + b / 8,b % 8,true⟩:=by
 unfold sOffset
 rw [right_good s h,if_neg (by rw [hw];decide),hw]
 obtain ⟨_,_,_,_,_,_⟩:=h
 simp (disch:=omega) only [u16_in,shr_u16_3,and_u8_7,Int.ediv_one,Int.mul_one]
 rw [put_eq _ _ _ (by omega) (by omega) (by decide)]
 simp (disch:=omega) only [and_u16_31,Int.ediv_one,Int.mul_one]
 simp only [Scroll.mk.injEq,true_and,Bool.not_false,and_true]
 omega
theorem offset2_eq (s:Scroll) (h:Good s) (b:Int) (hb:0 ≤ b ∧ b < 256) (hw:s.W = true):sOffset s b = ⟨s.V,s.T % 32 + b / 8 * 32 + s.T / 1024 % 4 * 1024 + b % 8 * 4096,s.X,false⟩:=by
 unfold sOffset
 rw [right_good s h,if_pos hw,hw]
 obtain ⟨_,_,_,_,_,_⟩:=h
 simp (disch:=omega) only [u16_in,shr_u16_3,shl_u16_5,shl_u16_12]
 have e:u16.wrap (b * 4096) = b % 16 * 4096:=by rw [IntKind.wrap_u16];omega
 rw [e,put_eq s.T _ _ (by omega) (by omega) (by decide)]
 simp (disch:=omega) only [and_u16_992]
 rw [put_eq _ _ _ (by omega) (by omega) (by decide)]
 simp (disch:=omega) only [and_u16_28672]
 simp only [Scroll.mk.injEq,true_and,Bool.not_true,and_true]
 omega
def at_ (c l a d r:Int):Int:=c + 32 * l + 1024 * a + 2048 * d + 4096 * r
structure Parts (c l a d r:Int):Prop where
 c0:0 ≤ c
 c1:c < 32
 l0:0 ≤ l
 l1:l < 32
 a0:0 ≤ a
 a1:a < 2
 d0:0 ≤ d
 d1:d < 2
 r0:0 ≤ r
 r1:r < 8
theorem at_b {c l a d r:Int} (h:Parts c l a d r):0 ≤ at_ c l a d r ∧ at_ c l a d r < 32768:=by
 obtain ⟨_,_,_,_,_,_,_,_,_,_⟩:=h
 unfold at_;omega
theorem at_c {c l a d r:Int} (h:Parts c l a d r):at_ c l a d r % 32 = c:=by
 obtain ⟨_,_,_,_,_,_,_,_,_,_⟩:=h
 unfold at_;omega
theorem at_l {c l a d r:Int} (h:Parts c l a d r):at_ c l a d r / 32 % 32 = l:=by
 obtain ⟨_,_,_,_,_,_,_,_,_,_⟩:=h
 unfold at_;omega
theorem at_a {c l a d r:Int} (h:Parts c l a d r):at_ c l a d r / 1024 % 2 = a:=by
 obtain ⟨_,_,_,_,_,_,_,_,_,_⟩:=h
 unfold at_;omega
theorem at_d {c l a d r:Int} (h:Parts c l a d r):at_ c l a d r / 2048 % 2 = d:=by
 obtain ⟨_,_,_,_,_,_,_,_,_,_⟩:=h
 unfold at_;omega
theorem at_r {c l a d r:Int} (h:Parts c l a d r):at_ c l a d r / 4096 = r:=by
 obtain ⟨_,_,_,_,_,_,_,_,_,_⟩:=h
 unfold at_;omega
theorem at_dr {c l a d r:Int} (h:Parts c l a d r):at_ c l a d r / 2048 % 16 = d + 2 * r:=by
 obtain ⟨_,_,_,_,_,_,_,_,_,_⟩:=h
 unfold at_;omega
theorem of_parts (V:Int) (h0:0 ≤ V) (h1:V < 32768):∃ c l a d r,Parts c l a d r ∧ V = at_ c l a d r:=
 ⟨V % 32,V / 32 % 32,V / 1024 % 2,V / 2048 % 2,V / 4096,⟨by omega,by omega,by omega,by omega,by omega,by omega,by omega,by omega,by omega,by omega⟩,by unfold at_;omega⟩
theorem good_at {c l a d r T X:Int} {W:Bool} (h:Parts c l a d r) (hT:0 ≤ T ∧ T < 32768) (hX:0 ≤ X ∧ X < 8):Good ⟨at_ c l a d r,T,X,W⟩:=good_of _ _ _ _ (at_b h) hT hX
theorem line_at {c l a d r c' l' a' d' r' X:Int} {W:Bool} (h:Parts c l a d r) (h':Parts c' l' a' d' r') (hX:0 ≤ X ∧ X < 8):sLine ⟨at_ c l a d r,at_ c' l' a' d' r',X,W⟩ = ⟨at_ c' l a' d r,at_ c' l' a' d' r',X,W⟩:=by
 have hb:=at_b h
 have hb':=at_b h'
 unfold sLine
 rw [right_good _ (good_at h hb' hX),put_eq _ _ _ (by simp only;omega) (by simp only;omega) (by decide)]
 simp (disch:=omega) only [and_u16_1055,Int.ediv_one,Int.mul_one]
 rw [at_a h,at_c h,at_a h',at_c h']
 simp only [Scroll.mk.injEq,true_and,and_true]
 unfold at_;omega
theorem top_at {c l a d r c' l' a' d' r' X:Int} {W:Bool} (h:Parts c l a d r) (h':Parts c' l' a' d' r') (hX:0 ≤ X ∧ X < 8):sTop ⟨at_ c l a d r,at_ c' l' a' d' r',X,W⟩ = ⟨at_ c l' a d' r',at_ c' l' a' d' r',X,W⟩:=by
 have hb:=at_b h
 have hb':=at_b h'
 unfold sTop
 rw [right_good _ (good_at h hb' hX),put_eq _ _ _ (by simp only;omega) (by simp only;omega) (by decide)]
 simp (disch:=omega) only [and_u16_31712]
 rw [at_l h,at_dr h,at_l h',at_dr h']
 simp only [Scroll.mk.injEq,true_and,and_true]
 unfold at_;omega
theorem right_at {c l a d r T X:Int} {W:Bool} (h:Parts c l a d r) (hT:0 ≤ T ∧ T < 32768) (hX:0 ≤ X ∧ X < 8):∃ c' a',Parts c' l a' d r ∧ sRight ⟨at_ c l a d r,T,X,W⟩ = ⟨at_ c' l a' d r,T,X,W⟩ ∧ c' + 32 * a' = (c + 32 * a + 1) % 64:=by
 have hb:=at_b h
 unfold sRight
 rw [right_good _ (good_at h hT hX)]
 rw [bAndNot_eq (k:=.u16) rfl (by simp only;omega) (Int.lt_of_lt_of_le (b:=32768) (by simp only;omega) (by decide)) (by decide) (by decide)]
 simp (disch:=omega) only [and_u16_31,Int.ediv_one,Int.mul_one,beq_iff_eq]
 rw [at_c h]
 obtain ⟨_,_,_,_,_,_,_,_,_,_⟩:=h
 have h2:(at_ c l a d r - c) / 1024 % 2 = a:=by unfold at_;omega
 have h3:0 ≤ at_ c l a d r - c ∧ at_ c l a d r - c < 65536:=by unfold at_ at *;omega
 rw [xor_u16_1024 h3.1 h3.2,h2]
 by_cases hc:c = 31
 ·rw [if_pos hc]
  refine ⟨0,1 - a,⟨by omega,by omega,by omega,by omega,by omega,by omega,by omega,by omega,by omega,by omega⟩,?_,by omega⟩
  simp only [Scroll.mk.injEq,true_and,and_true]
  unfold at_;omega
 ·rw [if_neg hc]
  refine ⟨c + 1,a,⟨by omega,by omega,by omega,by omega,by omega,by omega,by omega,by omega,by omega,by omega⟩,?_,by omega⟩
  simp (disch:=omega) only [u16_in]
  simp only [Scroll.mk.injEq,true_and,and_true]
  unfold at_;omega
end Go.Proofs.Ytgnhhnmpeklciaa
namespace Go.Proofs.Ytgnhhnmpeklciaa
open Go VX IntWalk
open Go.IntKind (i64 u8 u16)
def pl (v:Int):Place:=⟨v % 32,v / 32 % 32,v / 1024 % 2,v / 2048 % 2,v / 4096 % 8⟩
theorem rOf_pl (n:Int) (h0:0 ≤ n) (h1:n < 32768):rOf n = pl n:=rOf_eq n h0 h1
theorem rBits_pl (v:Int) (h0:0 ≤ v) (h1:v < 32768):rBits (pl v) = v:=by
 unfold rBits pl
 simp only
 rw [w64 (x:=32 * _) (by omega) (by omega),w64 (x:=v % 32 + _) (by omega) (by omega),w64 (x:=1024 * _) (by omega) (by omega),w64 (x:=_ + 1024 * _) (by omega) (by omega),w64 (x:=2048 * _) (by omega) (by omega),w64 (x:=_ + 2048 * _) (by omega) (by omega),w64 (x:=4096 * _) (by omega) (by omega),w64 (by omega) (by omega)]
 omega
structure Sc (s:Scroll) (q:RScroll):Prop where
 good:Good s
 V:q.V = pl s.V
 T:q.T = pl s.T
 X:q.X = s.X
 W:q.W = s.W
theorem Sc.eq {s:Scroll} {q:RScroll} (h:Sc s q):q = ⟨pl s.V,pl s.T,s.X,s.W⟩:=by
 obtain ⟨V,T,X,W⟩:=q
 have h1:=h.V;have h2:=h.T;have h3:=h.X;have h4:=h.W
 simp only at h1 h2 h3 h4
 rw [h1,h2,h3,h4]
theorem sc_of {V T X:Int} {W:Bool} (h1:0 ≤ V ∧ V < 32768) (h2:0 ≤ T ∧ T < 32768) (h3:0 ≤ X ∧ X < 8):Sc ⟨V,T,X,W⟩ ⟨pl V,pl T,X,W⟩:=⟨good_of _ _ _ _ h1 h2 h3,rfl,rfl,rfl,rfl⟩
theorem Place.ext' {a b:Place} (h1:a.Column = b.Column) (h2:a.Line = b.Line) (h3:a.Across = b.Across) (h4:a.Down = b.Down) (h5:a.Row = b.Row):a = b:=by
 cases a;cases b;simp only at h1 h2 h3 h4 h5;rw [h1,h2,h3,h4,h5]
section
variable {s:Scroll} {q:RScroll} (h:Sc s q) {b:Int} (w:rng 256 b)
include h
theorem sc_bounds:(0 ≤ s.V ∧ s.V < 32768) ∧ (0 ≤ s.T ∧ s.T < 32768) ∧ (0 ≤ s.X ∧ s.X < 8):=⟨⟨h.good.v0,h.good.v1⟩,⟨h.good.t0,h.good.t1⟩,⟨h.good.x0,h.good.x1⟩⟩
theorem sc_step (far:Bool):Sc (sStep s far) (rStep q far):=by
 obtain ⟨h1,h2,h3⟩:=sc_bounds h
 obtain ⟨e,g⟩:=step_V s h.good far
 have e2:sStep s far = ⟨(s.V + bif far then 32 else 1) % 32768,s.T,s.X,s.W⟩:=by
  have hT:(sStep s far).T = s.T ∧ (sStep s far).X = s.X ∧ (sStep s far).W = s.W:=by
   unfold sStep
   cases far
   ·rw [if_neg (by decide),u16_in _ (by omega),right_eq _ ⟨by simp only;omega,by simp only;omega,by simp only;omega,by simp only;omega,by simp only;omega,by simp only;omega⟩]
    exact ⟨by simp only;omega,by simp only;omega,rfl⟩
   ·rw [if_pos rfl,u16_in (s.V + 1) (by omega),u16_in _ (by omega),right_eq _ ⟨by simp only;omega,by simp only;omega,by simp only;omega,by simp only;omega,by simp only;omega,by simp only;omega⟩]
    exact ⟨by simp only;omega,by simp only;omega,rfl⟩
  obtain ⟨t1,t2,t3⟩:=hT
  generalize sStep s far = z at *
  obtain ⟨zV,zT,zX,zW⟩:=z
  simp only at *
  rw [e,t1,t2,t3]
 rw [e2,h.eq]
 unfold rStep
 simp only [rBits_pl s.V h1.1 h1.2]
 cases far
 ·rw [if_neg (by decide),w64 (by omega) (by omega),tm_e 32768 (by omega),rOf_pl _ (by omega) (by omega)]
  exact sc_of (by simp only [cond_false];omega) h2 h3
 ·rw [if_pos rfl,w64 (by omega) (by omega),tm_e 32768 (by omega),rOf_pl _ (by omega) (by omega)]
  exact sc_of (by simp only [cond_true];omega) h2 h3
include w
theorem sc_control:Sc (sControl s b) (rControl q b):=by
 obtain ⟨h1,h2,h3⟩:=sc_bounds h
 obtain ⟨w0,w1⟩:=w
 have w1:b < 256:=w1
 rw [control_eq s h.good b ⟨w0,w1⟩,h.eq]
 unfold rControl
 rw [tm_e 2 w0,td_e 2 w0,w64 (by omega) (by omega),tm_e 2 (by omega)]
 refine ⟨good_of _ _ _ _ h1 (by omega) h3,rfl,Place.ext' ?_ ?_ ?_ ?_ ?_,rfl,rfl⟩ <;> simp only [pl] <;> omega
theorem sc_offset:Sc (sOffset s b) (rOffset q b):=by
 obtain ⟨h1,h2,h3⟩:=sc_bounds h
 obtain ⟨w0,w1⟩:=w
 have w1:b < 256:=w1
 rw [h.eq]
 unfold rOffset
 rw [td_e 8 w0,tm_e 8 w0,w64 (by omega) (by omega)]
 cases hW:s.W
 ·rw [if_neg (by show ¬ false = true;decide),offset1_eq s h.good b ⟨w0,w1⟩ hW]
  refine ⟨good_of _ _ _ _ h1 (by omega) (by omega),rfl,Place.ext' ?_ ?_ ?_ ?_ ?_,rfl,rfl⟩ <;> simp only [pl] <;> omega
 ·rw [if_pos rfl,offset2_eq s h.good b ⟨w0,w1⟩ hW]
  have hp:Parts (s.T % 32) (b / 8) (s.T / 1024 % 2) (s.T / 2048 % 2) (b % 8):=by constructor <;> omega
  have e:s.T % 32 + b / 8 * 32 + s.T / 1024 % 4 * 1024 + b % 8 * 4096 = at_ (s.T % 32) (b / 8) (s.T / 1024 % 2) (s.T / 2048 % 2) (b % 8):=by unfold at_;omega
  rw [e]
  refine ⟨good_of _ _ _ _ h1 (at_b hp) h3,rfl,Place.ext' ?_ ?_ ?_ ?_ ?_,rfl,rfl⟩ <;> simp only [pl]
  ·rw [at_c hp]
  ·rw [at_l hp]
  ·rw [at_a hp]
  ·rw [at_d hp]
  ·rw [at_r hp];omega
theorem sc_address:Sc (sAddress s b) (rAddress q b):=by
 obtain ⟨h1,h2,h3⟩:=sc_bounds h
 obtain ⟨w0,w1⟩:=w
 have w1:b < 256:=w1
 rw [h.eq]
 unfold rAddress
 simp only [rBits_pl s.T h2.1 h2.2]
 cases hW:s.W
 ·rw [if_neg (by show ¬ false = true;decide),address1_eq s h.good b ⟨w0,w1⟩ hW,tm_e 256 h2.1,tm_e 64 w0,w64 (x:=b % 64 * 256) (by omega) (by omega),w64 (by omega) (by omega),rOf_pl _ (by omega) (by omega)]
  exact sc_of h1 (by omega) h3
 ·rw [if_pos rfl,address2_eq s h.good b ⟨w0,w1⟩ hW,td_e 256 h2.1,w64 (x:=s.T / 256) (by omega) (by omega),w64 (x:=s.T / 256 * 256) (by omega) (by omega),w64 (by omega) (by omega),rOf_pl _ (by omega) (by omega)]
  exact sc_of (by omega) (by omega) h3
end
theorem mirror_same {a:Int} (u:Bool) (h0:0 ≤ a) (h1:a < 65536):rMirror a u = mirror a u:=by
 rw [rMirror_eq u h0 h1,mirror_eq a u h0 h1]
 cases u
 ·show a % 1024 + 1024 * (a / 2048 % 2) = a % 1024 + a / 2048 % 2 * 1024;omega
 ·rfl
theorem colour_same {a:Int} (h0:0 ≤ a) (h1:a < 65536):rColour a = colour a:=by
 have h:=(colours_plain a h0 h1).1
 have hc:=colour_lt a
 rw [w64 (by omega) (by omega),w64 (by omega) (by omega)] at h
 exact h.symm
end Go.Proofs.Ytgnhhnmpeklciaa
namespace Go.Proofs.Ytgnhhnmpeklciaa
open Go VX
end Go.Proofs.Ytgnhhnmpeklciaa
namespace Go.Proofs.Ytgnhhnmpeklciaa
open Go VX
open Go.IntKind (i64 u8 u16)
structure Man where
 X:Int
 Look:Int
 First:Bool
 Dots:Nat → Int
 Full:Bool
def Man.enc (s:Man):Value:=.agg ⟨[.int .i64 s.X,.int .i64 s.Look,.bool s.First,.func (.yield 1) ⟨[.int .i64 (s.Dots 0),.int .i64 (s.Dots 1),.int .i64 (s.Dots 2),.int .i64 (s.Dots 3),.int .i64 (s.Dots 4),.int .i64 (s.Dots 5),.int .i64 (s.Dots 6),.int .i64 (s.Dots 7)]⟩ ⟨[.bool true]⟩]⟩
def Man.blk (s:Man):Blk:=⟨[.one (.int .i64 s.X),.one (.int .i64 s.Look),.one (.bool s.First),.one (.func (.yield 1) ⟨[.int .i64 (s.Dots 0),.int .i64 (s.Dots 1),.int .i64 (s.Dots 2),.int .i64 (s.Dots 3),.int .i64 (s.Dots 4),.int .i64 (s.Dots 5),.int .i64 (s.Dots 6),.int .i64 (s.Dots 7)]⟩ ⟨[.bool s.Full]⟩)],119,false⟩
def Man.cells (s:Man):List Value:=[.int .i64 s.X,.int .i64 s.Look,.bool s.First,.func (.yield 1) ⟨[.int .i64 (s.Dots 0),.int .i64 (s.Dots 1),.int .i64 (s.Dots 2),.int .i64 (s.Dots 3),.int .i64 (s.Dots 4),.int .i64 (s.Dots 5),.int .i64 (s.Dots 6),.int .i64 (s.Dots 7)]⟩ ⟨[.bool true]⟩]
def Man.nil:Man:=⟨0,0,false,fun _ => 0,false⟩
abbrev mB (l:List Man) (b:Bool):Blk:=⟨[rowsL Man.cells Man.nil 4 l],119,b⟩
theorem Man_snoc (L:List Man) (x:Man):addSegs [rowsL Man.cells Man.nil 4 L] (Man.cells x) = [rowsL Man.cells Man.nil 4 (L ++ [x])]:=rowsL_snoc L x rfl
structure RPic where
 At:Int
 S:RScroll
 Control:Int
 Mask:Int
 Blank:Bool
 Hit:Bool
 Many:Bool
 Waits:Int
 Bus:Int
 Upright:Bool
 Line:Int
 Dot:Int
 Begun:Int
 Done:Int
def RPic.bl (s:RPic) (v0:Value) (v1:Value) (v2:Value) (v3:Value) (ro:Bool):Blk:=⟨[.one v0,.one v1,.one (.int .i64 s.At),.one (.int .i64 s.S.V.Column),.one (.int .i64 s.S.V.Line),.one (.int .i64 s.S.V.Across),.one (.int .i64 s.S.V.Down),.one (.int .i64 s.S.V.Row),.one (.int .i64 s.S.T.Column),.one (.int .i64 s.S.T.Line),.one (.int .i64 s.S.T.Across),.one (.int .i64 s.S.T.Down),.one (.int .i64 s.S.T.Row),.one (.int .i64 s.S.X),.one (.bool s.S.W),.one (.int .i64 s.Control),.one (.int .i64 s.Mask),.one (.bool s.Blank),.one (.bool s.Hit),.one (.bool s.Many),.one (.int .i64 s.Waits),.one (.int .i64 s.Bus),.one (.bool s.Upright),.one (.int .i64 s.Line),.one (.int .i64 s.Dot),.one (.int .i64 s.Begun),.one (.int .i64 s.Done),.one v2,.one v3],59,ro⟩
def rWhere (r:RPic) (rM:Nat → Int) (rN:Nat → Int) (rS:Nat → Int) (rC:List Man) (a:Int):Int:=
 if (decide ((Int.tmod a 16384) < 8192)) = true then
  (Int.tmod a 16384)
 else
  if (decide ((Int.tmod a 16384) < 16128)) = true then
   (i64.wrap (8192 + (rMirror (Int.tmod a 16384) r.Upright)))
  else
   (i64.wrap (16128 + (rColour (Int.tmod a 16384))))
theorem rWhere_ok (r:RPic) (rM:Nat → Int) (rN:Nat → Int) (rS:Nat → Int) (rC:List Man) (a:Int):FnSpec Try.prog 45 1005 [pt 1000,.int .i64 a] [(1000,(RPic.bl r (sl 1001 16384 1) (sl 1002 256 1) (sl 1004 (List.length rC) 4) (sl 1003 61440 1) true)),(1001,iB 16384 rM true),(1002,iB 256 rN true),(1003,iB 61440 rS true),(1004,mB rC true)] (.int .i64 (rWhere r rM rN rS rC a)) []:=by
 unfold rWhere
 rcases bt (decide ((Int.tmod a 16384) < 8192)) with c1 | c1
 ·rw [if_pos c1]
  exact fn_of_x hG hM Try.func45 (by kernel_rfl) (by kernel_rfl) 400 [.yes] (J (by decide:((16384:Int) ≠ 0)) (J c1 trivial)) (by kernel_rfl)
 ·rw [if_neg (nt c1)]
  rcases bt (decide ((Int.tmod a 16384) < 16128)) with c2 | c2
  ·rw [if_pos c2]
   exact fn_of_x hG hM Try.func45 (by kernel_rfl) (by kernel_rfl) 400 [.no,.yes,.call [] [] 1000 (.int .i64 (rMirror (Int.tmod a 16384) r.Upright)) []] (J (by decide:((16384:Int) ≠ 0)) (J c1 (J c2 (J (rMirror_ok (Int.tmod a 16384) r.Upright) trivial)))) (by kernel_rfl)
  ·rw [if_neg (nt c2)]
   exact fn_of_x hG hM Try.func45 (by kernel_rfl) (by kernel_rfl) 400 [.no,.no,.call [] [] 1000 (.int .i64 (rColour (Int.tmod a 16384))) []] (J (by decide:((16384:Int) ≠ 0)) (J c1 (J c2 (J (rColour_ok (Int.tmod a 16384)) trivial)))) (by kernel_rfl)
theorem rWhere_eq (r:RPic) (rM:Nat → Int) (rN:Nat → Int) (rS:Nat → Int) (rC:List Man) (a:Int) (ha:0 ≤ a):rWhere r rM rN rS rC a = if a % 16384 < 8192 then a % 16384 else if a % 16384 < 16128 then 8192 + rMirror (a % 16384) r.Upright else 16128 + rColour (a % 16384):=by
 have h1:=rMirror_eq (a:=a % 16384) r.Upright (by omega) (by omega)
 have h2:=rColour_eq (a:=a % 16384) (by omega)
 unfold rWhere
 rw [tm_e 16384 ha,w64 (x:=8192 + _) (by rw [h1];split <;> omega) (by rw [h1];split <;> omega),w64 (x:=16128 + _) (by rw [h2];split <;> omega) (by rw [h2];split <;> omega)]
 simp only [decide_eq_true_eq]
theorem rWhere_lt (r:RPic) (rM:Nat → Int) (rN:Nat → Int) (rS:Nat → Int) (rC:List Man) (a:Int) (ha:0 ≤ a):0 ≤ rWhere r rM rN rS rC a ∧ rWhere r rM rN rS rC a < ((16384:Nat):Int):=by
 have h1:=rMirror_eq (a:=a % 16384) r.Upright (by omega) (by omega)
 have h2:=rColour_eq (a:=a % 16384) (by omega)
 rw [rWhere_eq _ _ _ _ _ _ ha]
 split
 ·omega
 ·split
  ·rw [h1];split <;> omega
  ·rw [h2];split <;> omega
def rPeek (r:RPic) (rM:Nat → Int) (rN:Nat → Int) (rS:Nat → Int) (rC:List Man) (a:Int):Int:=
 (i64.wrap (rM (Int.toNat (rWhere r rM rN rS rC a))))
theorem rPeek_ok (r:RPic) (rM:Nat → Int) (rN:Nat → Int) (rS:Nat → Int) (rC:List Man) (a:Int) (ha:0 ≤ a):FnSpec Try.prog 20 1005 [pt 1000,.int .i64 a] [(1000,(RPic.bl r (sl 1001 16384 1) (sl 1002 256 1) (sl 1004 (List.length rC) 4) (sl 1003 61440 1) true)),(1001,iB 16384 rM true),(1002,iB 256 rN true),(1003,iB 61440 rS true),(1004,mB rC true)] (.int .i64 (rPeek r rM rN rS rC a)) []:=by
 unfold rPeek
 exact fn_of_x hG hM Try.func20 (by kernel_rfl) (by kernel_rfl) 400 [.call [(1000,1000),(1001,1001),(1002,1002),(1003,1003),(1004,1004)] [] 1005 (.int .i64 (rWhere r rM rN rS rC a)) [],.sym] (J (rWhere_ok r rM rN rS rC a) (J (rWhere_lt r rM rN rS rC a ha) (J (show (Int.toNat (rWhere r rM rN rS rC a)) < 16384 from by have q_:=rWhere_lt r rM rN rS rC a ha;omega) trivial))) (by kernel_rfl)
def rPoke (r:RPic) (rM:Nat → Int) (rN:Nat → Int) (rS:Nat → Int) (rC:List Man) (a:Int) (b:Int):(Nat → Int):=
 if (decide ((Int.tmod a 16384) ≥ 16128)) = true then
  (upd rM (Int.toNat (rWhere r rM rN rS rC a)) (u8.wrap (Int.tmod b 64)))
 else
  (upd rM (Int.toNat (rWhere r rM rN rS rC a)) (u8.wrap b))
theorem rPoke_ok (r:RPic) (rM:Nat → Int) (rN:Nat → Int) (rS:Nat → Int) (rC:List Man) (a:Int) (b:Int) (ha:0 ≤ a):FnSpec Try.prog 30 1005 [pt 1000,.int .i64 a,.int .i64 b] [(1000,(RPic.bl r (sl 1001 16384 1) (sl 1002 256 1) (sl 1004 (List.length rC) 4) (sl 1003 61440 1) false)),(1001,iB 16384 rM false),(1002,iB 256 rN false),(1003,iB 61440 rS false),(1004,mB rC false)] (.tuple ⟨[]⟩) [(1000,(RPic.bl r (sl 1001 16384 1) (sl 1002 256 1) (sl 1004 (List.length rC) 4) (sl 1003 61440 1) false)),(1001,iB 16384 (rPoke r rM rN rS rC a b) false),(1002,iB 256 rN false),(1003,iB 61440 rS false),(1004,mB rC false)]:=by
 unfold rPoke
 rcases bt (decide ((Int.tmod a 16384) ≥ 16128)) with c1 | c1
 ·rw [if_pos c1]
  exact fn_of_x hG hM Try.func30 (by kernel_rfl) (by kernel_rfl) 400 [.yes,.callr [(1000,1000),(1001,1001),(1002,1002),(1003,1003),(1004,1004)] [1000,1001,1002,1003,1004] [] 1005 (.int .i64 (rWhere r rM rN rS rC a)) [],.sym] (J (by decide:((16384:Int) ≠ 0)) (J c1 (J (by decide:((64:Int) ≠ 0)) (J (rWhere_ok r rM rN rS rC a) (J (rWhere_lt r rM rN rS rC a ha) (J (show (Int.toNat (rWhere r rM rN rS rC a)) < 16384 from by have q_:=rWhere_lt r rM rN rS rC a ha;omega) trivial)))))) (by kernel_rfl)
 ·rw [if_neg (nt c1)]
  exact fn_of_x hG hM Try.func30 (by kernel_rfl) (by kernel_rfl) 400 [.no,.callr [(1000,1000),(1001,1001),(1002,1002),(1003,1003),(1004,1004)] [1000,1001,1002,1003,1004] [] 1005 (.int .i64 (rWhere r rM rN rS rC a)) [],.sym] (J (by decide:((16384:Int) ≠ 0)) (J c1 (J (rWhere_ok r rM rN rS rC a) (J (rWhere_lt r rM rN rS rC a ha) (J (show (Int.toNat (rWhere r rM rN rS rC a)) < 16384 from by have q_:=rWhere_lt r rM rN rS rC a ha;omega) trivial))))) (by kernel_rfl)
end Go.Proofs.Ytgnhhnmpeklciaa
namespace Go.Proofs.Ytgnhhnmpeklciaa
open Go VX
open Go.IntKind (i64 u8 u16)
theorem at_lt {x:Int} (h:0 ≤ x ∧ x < ((256:Nat):Int)):Int.toNat x < 256:=by omega
theorem noughts_all (k:IntKind) (C:Nat):Noughts k C [.ints k C (fun _ => 0)]:=by
 refine ⟨by simp [segsSize,Seg.size],fun o v h => ?_⟩
 have e:segsGet? [.ints k C (fun _ => 0)] o = (bif Nat.blt o C then (bif Nat.blt o C then some (Value.int k 0) else none) else none):=rfl
 rw [e] at h
 cases hb:Nat.blt o C with
 | false => rw [hb] at h;simp at h
 | true =>
  rw [hb] at h
  simp only [cond_true,Option.some.injEq] at h
  exact ⟨by rw [Nat.blt_eq] at hb;exact hb,h.symm⟩
def rZero:RPic:={ At:=0,S:={ V:=⟨0,0,0,0,0⟩,T:=⟨0,0,0,0,0⟩,X:=0,W:=false },Control:=0,Mask:=0,Blank:=false,Hit:=false,Many:=false,Waits:=0,Bus:=0,Upright:=false,Line:=0,Dot:=0,Begun:=1,Done:=0 }
theorem rnew_ok:FnSpec Try.prog 15 1000 [] [] (pt 1003) [(1000,iB 16384 (fun _ => 0) false),(1001,iB 256 (fun _ => 0) false),(1002,iB 61440 (fun _ => 0) false),(1003,RPic.bl rZero (sl 1000 16384 1) (sl 1001 256 1) (.slice none 0 0) (sl 1002 61440 1) false)]:=by
 exact fn_of_x hG hM Try.func15 (by kernel_rfl) (by kernel_rfl) 400 [.cut 16384 16384,.list [.ints .u8 16384 (fun _ => 0)],.cut 256 256,.list [.ints .u8 256 (fun _ => 0)],.cut 61440 61440,.list [.ints .u8 61440 (fun _ => 0)]]
  (J (Eq.refl (16384:Int)) (J (Eq.refl (16384:Int)) (J (noughts_all .u8 16384) (J (Eq.refl (256:Int)) (J (Eq.refl (256:Int)) (J (noughts_all .u8 256) (J (Eq.refl (61440:Int)) (J (Eq.refl (61440:Int)) (J (noughts_all .u8 61440) trivial))))))))) (by kernel_rfl)
def rPut (r:RPic) (rM:Nat → Int) (rN:Nat → Int) (rS:Nat → Int) (rC:List Man) (reg:Int) (b:Int):RPic × (Nat → Int) × (Nat → Int):=
 if ((Int.tmod reg 8) == 0) = true then
  (({ r with S:=(rControl r.S b),Control:=b,Bus:=b }:RPic),rM,rN)
 else
  if ((Int.tmod reg 8) == 1) = true then
   (({ r with Mask:=b,Bus:=b }:RPic),rM,rN)
  else
   if ((Int.tmod reg 8) == 3) = true then
    (({ r with At:=b,Bus:=b }:RPic),rM,rN)
   else
    if ((Int.tmod reg 8) == 4) = true then
     (({ r with At:=(Int.tmod (i64.wrap (r.At + 1)) 256),Bus:=b }:RPic),rM,(upd rN (Int.toNat r.At) (u8.wrap b)))
    else
     if ((Int.tmod reg 8) == 5) = true then
      (({ r with S:=(rOffset r.S b),Bus:=b }:RPic),rM,rN)
     else
      if ((Int.tmod reg 8) == 6) = true then
       (({ r with S:=(rAddress r.S b),Bus:=b }:RPic),rM,rN)
      else
       if ((Int.tmod reg 8) == 7) = true then
        (({ ({ r with Bus:=b }:RPic) with S:=(rStep (({ r with Bus:=b }:RPic).S) (rBit (({ r with Bus:=b }:RPic).Control) 4)) }:RPic),(rPoke ({ r with Bus:=b }:RPic) rM rN rS rC (rBits r.S.V) b),rN)
       else
        (({ r with Bus:=b }:RPic),rM,rN)
theorem rPut_ok (r:RPic) (rM:Nat → Int) (rN:Nat → Int) (rS:Nat → Int) (rC:List Man) (reg:Int) (b:Int) (hA:0 ≤ r.At ∧ r.At < ((256:Nat):Int)) (hV:0 ≤ rBits r.S.V):FnSpec Try.prog 37 1005 [pt 1000,.int .i64 reg,.int .i64 b] [(1000,(RPic.bl r (sl 1001 16384 1) (sl 1002 256 1) (sl 1004 (List.length rC) 4) (sl 1003 61440 1) false)),(1001,iB 16384 rM false),(1002,iB 256 rN false),(1003,iB 61440 rS false),(1004,mB rC false)] (.tuple ⟨[]⟩) [(1000,(RPic.bl ((rPut r rM rN rS rC reg b).1) (sl 1001 16384 1) (sl 1002 256 1) (sl 1004 (List.length rC) 4) (sl 1003 61440 1) false)),(1001,⟨[.ints .u8 16384 ((rPut r rM rN rS rC reg b).2.1)],5,false⟩),(1002,⟨[.ints .u8 256 ((rPut r rM rN rS rC reg b).2.2)],5,false⟩),(1003,iB 61440 rS false),(1004,mB rC false)]:=by
 unfold rPut
 rcases bt ((Int.tmod reg 8) == 0) with c1 | c1
 ·rw [if_pos c1]
  exact fn_of_x hG hM Try.func37 (by kernel_rfl) (by kernel_rfl) 400 [.yes,.call [] [] 1000 (RScroll.enc (rControl r.S b)) []] (J (by decide:((8:Int) ≠ 0)) (J c1 (J (rControl_ok r.S b) trivial))) (by kernel_rfl)
 ·rw [if_neg (nt c1)]
  rcases bt ((Int.tmod reg 8) == 1) with c2 | c2
  ·rw [if_pos c2]
   exact fn_of_x hG hM Try.func37 (by kernel_rfl) (by kernel_rfl) 400 [.no,.yes] (J (by decide:((8:Int) ≠ 0)) (J c1 (J c2 trivial))) (by kernel_rfl)
  ·rw [if_neg (nt c2)]
   rcases bt ((Int.tmod reg 8) == 3) with c3 | c3
   ·rw [if_pos c3]
    exact fn_of_x hG hM Try.func37 (by kernel_rfl) (by kernel_rfl) 400 [.no,.no,.yes] (J (by decide:((8:Int) ≠ 0)) (J c1 (J c2 (J c3 trivial)))) (by kernel_rfl)
   ·rw [if_neg (nt c3)]
    rcases bt ((Int.tmod reg 8) == 4) with c4 | c4
    ·rw [if_pos c4]
     exact fn_of_x hG hM Try.func37 (by kernel_rfl) (by kernel_rfl) 400 [.no,.no,.no,.yes,.sym] (J (by decide:((8:Int) ≠ 0)) (J c1 (J c2 (J c3 (J c4 (J hA (J (show (Int.toNat r.At) < 256 from at_lt hA) (J (by decide:((256:Int) ≠ 0)) trivial)))))))) (by kernel_rfl)
    ·rw [if_neg (nt c4)]
     rcases bt ((Int.tmod reg 8) == 5) with c5 | c5
     ·rw [if_pos c5]
      exact fn_of_x hG hM Try.func37 (by kernel_rfl) (by kernel_rfl) 400 [.no,.no,.no,.no,.yes,.call [] [] 1000 (RScroll.enc (rOffset r.S b)) []] (J (by decide:((8:Int) ≠ 0)) (J c1 (J c2 (J c3 (J c4 (J c5 (J (rOffset_ok r.S b) trivial))))))) (by kernel_rfl)
     ·rw [if_neg (nt c5)]
      rcases bt ((Int.tmod reg 8) == 6) with c6 | c6
      ·rw [if_pos c6]
       exact fn_of_x hG hM Try.func37 (by kernel_rfl) (by kernel_rfl) 400 [.no,.no,.no,.no,.no,.yes,.call [] [] 1000 (RScroll.enc (rAddress r.S b)) []] (J (by decide:((8:Int) ≠ 0)) (J c1 (J c2 (J c3 (J c4 (J c5 (J c6 (J (rAddress_ok r.S b) trivial)))))))) (by kernel_rfl)
      ·rw [if_neg (nt c6)]
       rcases bt ((Int.tmod reg 8) == 7) with c7 | c7
       ·rw [if_pos c7]
        exact fn_of_x hG hM Try.func37 (by kernel_rfl) (by kernel_rfl) 400 [.no,.no,.no,.no,.no,.no,.yes,.call [] [] 1000 (.int .i64 (rBits r.S.V)) [],.call [(1000,1000),(1001,1001),(1002,1002),(1003,1003),(1004,1004)] [] 1005 (.tuple ⟨[]⟩) [(1000,(RPic.bl ({ r with Bus:=b }:RPic) (sl 1001 16384 1) (sl 1002 256 1) (sl 1004 (List.length rC) 4) (sl 1003 61440 1) false)),(1001,⟨[.ints .u8 16384 (rPoke ({ r with Bus:=b }:RPic) rM rN rS rC (rBits r.S.V) b)],5,false⟩),(1002,iB 256 rN false),(1003,iB 61440 rS false),(1004,mB rC false)],.call [] [] 1000 (.bool (rBit (({ r with Bus:=b }:RPic).Control) 4)) [],.call [] [] 1000 (RScroll.enc (rStep (({ r with Bus:=b }:RPic).S) (rBit (({ r with Bus:=b }:RPic).Control) 4))) []] (J (by decide:((8:Int) ≠ 0)) (J c1 (J c2 (J c3 (J c4 (J c5 (J c6 (J c7 (J (rBits_ok r.S.V) (J (rPoke_ok ({ r with Bus:=b }:RPic) rM rN rS rC (rBits r.S.V) b (show 0 ≤ (rBits r.S.V) from hV)) (J (rBit_ok (({ r with Bus:=b }:RPic).Control) 4 (by decide:(4:Int) ≠ 0)) (J (rStep_ok (({ r with Bus:=b }:RPic).S) (rBit (({ r with Bus:=b }:RPic).Control) 4)) trivial)))))))))))) (by kernel_rfl)
       ·rw [if_neg (nt c7)]
        exact fn_of_x hG hM Try.func37 (by kernel_rfl) (by kernel_rfl) 400 [.no,.no,.no,.no,.no,.no,.no] (J (by decide:((8:Int) ≠ 0)) (J c1 (J c2 (J c3 (J c4 (J c5 (J c6 (J c7 trivial)))))))) (by kernel_rfl)
end Go.Proofs.Ytgnhhnmpeklciaa
namespace Go.Proofs.Ytgnhhnmpeklciaa.VX
open Go
theorem fn_freeze {P:Program} {g:FuncId} {n0 i:Nat} {A:List Value} {H:Heap} {B:Blk} {l:List Value} {m:Nat} {v:Value} (hv:v = .slice (some ⟨i,0,some 0⟩) m 1 ∨ v = .slice (some ⟨i,0,none⟩) m 1) (f:FnSpec P g n0 A H v [(i,B)]) (hi:n0 ≤ i) (hro:B.ro = false) (hm:0 < m) (hl:l.length = m)
  (hsol:l.all solid = true) (hc:∀ (j:Nat) (u:Value),l[j]? = some u → segsGet? B.segs j = some u):FnSpec P g n0 A H (.func (.yield 1) ⟨l⟩ ⟨[.bool true]⟩) []:=by
 refine ⟨f.enters,fun μ w rargs hg hn ha hr => ?_⟩
 refine (f.runs μ w rargs hg hn ha hr).mono fun e w' he => ?_
 obtain ⟨μ',rv,⟨hle,hlow⟩,hrep,hvr,rfl,hk⟩:=he
 have hX0:∃ b cap',μ' i = some b ∧ rv = .slice (some ⟨b,0,none⟩) m cap' ∧ m ≤ cap':=by
  generalize hX:rv = X at hvr
  rcases hv with rfl | rfl
  ·cases hvr with
   | sliceE _ _ _ _ _ _ _ => omega
   | sliceS hb _ _ _ _ cap' hcap hz => exact ⟨_,_,hb,by simp,hcap⟩
  ·cases hvr with
   | slice hb _ _ _ cap' hcap hz => exact ⟨_,_,hb,rfl,hcap⟩
 obtain ⟨b,cap',hb,hX,hcap⟩:=hX0
 have hlk:lk [(i,B)] i = some B:=by simp [lk]
 have hbz:B.size ≠ 0 ∨ μ' i ≠ none:=.inr (by rw [hb];exact fun h => nomatch h)
 obtain ⟨b',hb',cs,t,fr,hh,hrw,hcs⟩:=hrep.blk i B hlk hbz
 rw [hb] at hb'
 obtain rfl:b = b':=by simpa using hb'
 have hnofz:=hrep.nofz i B b hlk hro hb
 let μ2:Mu:=⟨fun j => if j = i then none else μ' j,μ'.sz,fun c => if c = b then some cs else μ'.fz c⟩
 have hfz:∀ c ds,μ.fz c = some ds → μ2.fz c = some ds:=by
  intro c ds h
  have h2:=hle.fzs c ds h
  have hcb:c ≠ b:=by rintro rfl;rw [hnofz] at h2;cases h2
  show (if c = b then some cs else μ'.fz c) = _
  rw [if_neg hcb];exact h2
 have hnm:∀ j,j ≠ i → μ2 j = μ' j:=fun j hj => by show (if j = i then none else μ' j) = _;rw [if_neg hj]
 have hle2:μ.le μ2:=⟨fun j c h => by
  have hj:j ≠ i:=by rintro rfl;rw [hn _ hi] at h;cases h
  rw [hnm j hj];exact hle.nms j c h,fun j c h => hle.szs j c h,hfz⟩
 have hfb:μ2.fz b = some cs:=by show (if b = b then some cs else μ'.fz b) = _;rw [if_pos rfl]
 refine ⟨μ2,_,⟨hle2,fun j hj => by rw [hnm j (by omega)];exact hlow j hj⟩,?_,?_,rfl,?_⟩
 ·refine ⟨fun j C h => by simp [lk] at h,fun j k C D c h => by simp [lk] at h,fun j c h => ?_,fun j C c h => by simp [lk] at h,fun c ds h => ?_,fun j C c h => by simp [lk] at h⟩
  ·by_cases hj:j = i
   ·subst hj;have:μ2 j = none:=by show (if j = j then none else μ' j) = none;rw [if_pos rfl]
    rw [this] at h;cases h
   ·rw [hnm j hj] at h;exact hrep.bound j c h
  ·have h':(if c = b then some cs else μ'.fz c) = some ds:=h
   by_cases hcb:c = b
   ·subst hcb
    rw [if_pos rfl] at h'
    obtain rfl:cs = ds:=by simpa using h'
    exact ⟨t,fr,hh⟩
   ·rw [if_neg hcb] at h';exact hrep.frz c ds h'
 ·refine .lst 1 l true hsol ⟨_,_,_,hX⟩ fun _ => .inr (.inr ⟨by omega,b,0,m,cap',cs,hX,hcap,by omega,hfb,fun j u hu => ?_⟩)
  obtain ⟨y,hy,hvy⟩:=hcs j u (hc j u hu)
  have:y = u:=VRel.eq_of_solid (by
   rw [List.all_eq_true] at hsol
   exact hsol u (List.mem_of_getElem? hu)) hvy
  subst this
  simpa using hy
 ·refine ⟨hk.os,hk.tape,hk.output,hk.size,hk.same,fun j C c h => by simp [lk] at h,fun c hc' => hk.ksz c hc',hfz,fun c ds h => ?_⟩
  have h':(if c = b then some cs else μ'.fz c) = some ds:=h
  by_cases hcb:c = b
  ·subst hcb
   rcases Nat.lt_or_ge c w.heap.size with hlt | hge
   ·obtain ⟨i0,B0,e1,e2,e3⟩:=hk.old i B c hlk hb hlt
    exact .inr (.inl ⟨i0,B0,e1,e3 hro,e2⟩)
   ·exact .inr (.inr hge)
  ·rw [if_neg hcb] at h';exact hk.nfz c ds h'
end Go.Proofs.Ytgnhhnmpeklciaa.VX
namespace Go.Proofs.Ytgnhhnmpeklciaa
open Go VX
open Go.IntKind (i64 u8 u16)
def dotD:Nat → Int
 | 0 => 128
 | 1 => 64
 | 2 => 32
 | 3 => 16
 | 4 => 8
 | 5 => 4
 | 6 => 2
 | _ => 1
def rNum (low high:Int) (j:Nat):Int:=i64.wrap (Int.tmod (i64.wrap (Int.tdiv low (dotD j))) 2 + i64.wrap (2 * Int.tmod (i64.wrap (Int.tdiv high (dotD j))) 2))
theorem rNum_ok (low high:Int):FnSpec Try.prog 86 1000 [.int .i64 low,.int .i64 high] [] (.func (.yield 1) ⟨[.int .i64 (rNum low high 0),.int .i64 (rNum low high 1),.int .i64 (rNum low high 2),.int .i64 (rNum low high 3),.int .i64 (rNum low high 4),.int .i64 (rNum low high 5),.int .i64 (rNum low high 6),.int .i64 (rNum low high 7)]⟩ ⟨[.bool true]⟩) []:=
 fn_freeze (i:=1015) (B:=⟨[.one (.int .i64 (rNum low high 0)),.one (.int .i64 (rNum low high 1)),.one (.int .i64 (rNum low high 2)),.one (.int .i64 (rNum low high 3)),.one (.int .i64 (rNum low high 4)),.one (.int .i64 (rNum low high 5)),.one (.int .i64 (rNum low high 6)),.one (.int .i64 (rNum low high 7))],3,false⟩) (m:=8) (.inr rfl)
  (fn_of_x hG hM Try.func86 (by kernel_rfl) (by kernel_rfl) 400 [.unroll,.yes,.unroll,.yes,.unroll,.yes,.unroll,.yes,.unroll,.yes,.unroll,.yes,.unroll,.yes,.unroll,.yes,.unroll,.no] (J T1 (J (by decide:((128:Int) ≠ 0)) (J (by decide:((2:Int) ≠ 0)) (J (by decide:((128:Int) ≠ 0)) (J (by decide:((2:Int) ≠ 0)) (J (by decide:1 ≤ 1048576) (J (by decide:((2:Int) ≠ 0)) (J T1 (J (by decide:((64:Int) ≠ 0)) (J (by decide:((2:Int) ≠ 0)) (J (by decide:((64:Int) ≠ 0)) (J (by decide:((2:Int) ≠ 0)) (J (by decide:2 ≤ 1048576) (J (Eq.refl (1:Nat)) (J (by decide:((2:Int) ≠ 0)) (J T1 (J (by decide:((32:Int) ≠ 0)) (J (by decide:((2:Int) ≠ 0)) (J (by decide:((32:Int) ≠ 0)) (J (by decide:((2:Int) ≠ 0)) (J (by decide:3 ≤ 1048576) (J (Eq.refl (2:Nat)) (J (by decide:((2:Int) ≠ 0)) (J T1 (J (by decide:((16:Int) ≠ 0)) (J (by decide:((2:Int) ≠ 0)) (J (by decide:((16:Int) ≠ 0)) (J (by decide:((2:Int) ≠ 0)) (J (by decide:4 ≤ 1048576) (J (Eq.refl (3:Nat)) (J (by decide:((2:Int) ≠ 0)) (J T1 (J (by decide:((8:Int) ≠ 0)) (J (by decide:((2:Int) ≠ 0)) (J (by decide:((8:Int) ≠ 0)) (J (by decide:((2:Int) ≠ 0)) (J (by decide:5 ≤ 1048576) (J (Eq.refl (4:Nat)) (J (by decide:((2:Int) ≠ 0)) (J T1 (J (by decide:((4:Int) ≠ 0)) (J (by decide:((2:Int) ≠ 0)) (J (by decide:((4:Int) ≠ 0)) (J (by decide:((2:Int) ≠ 0)) (J (by decide:6 ≤ 1048576) (J (Eq.refl (5:Nat)) (J (by decide:((2:Int) ≠ 0)) (J T1 (J (by decide:((2:Int) ≠ 0)) (J (by decide:((2:Int) ≠ 0)) (J (by decide:((2:Int) ≠ 0)) (J (by decide:((2:Int) ≠ 0)) (J (by decide:7 ≤ 1048576) (J (Eq.refl (6:Nat)) (J (by decide:((2:Int) ≠ 0)) (J T1 (J (by decide:((1:Int) ≠ 0)) (J (by decide:((2:Int) ≠ 0)) (J (by decide:((1:Int) ≠ 0)) (J (by decide:((2:Int) ≠ 0)) (J (by decide:8 ≤ 1048576) (J (Eq.refl (7:Nat)) (J (by decide:((2:Int) ≠ 0)) (J T0 trivial)))))))))))))))))))))))))))))))))))))))))))))))))))))))))))))))) (by kernel_rfl))
  (by decide) rfl (by decide) rfl rfl (fun j u h => by
   match j with
   | 0 | 1 | 2 | 3 | 4 | 5 | 6 | 7 => exact h
   | n + 8 => simp at h)
def at8 (f:Nat → Int) (i:Nat):Int:=List.getD ([f 0,f 1,f 2,f 3,f 4,f 5,f 6,f 7]:List Int) i 0
theorem at8_eq (f:Nat → Int) {i:Nat} (h:i < 8):at8 f i = f i:=by
 match i,h with
 | 0,_ | 1,_ | 2,_ | 3,_ | 4,_ | 5,_ | 6,_ | 7,_ => rfl
def rev8 (f:Nat → Int) (i:Nat):Int:=List.getD ([f 7,f 6,f 5,f 4,f 3,f 2,f 1,f 0]:List Int) i 0
theorem rev8_eq (f:Nat → Int) {i:Nat} (h:i < 8):rev8 f i = f (7 - i):=by
 match i,h with
 | 0,_ | 1,_ | 2,_ | 3,_ | 4,_ | 5,_ | 6,_ | 7,_ => rfl
end Go.Proofs.Ytgnhhnmpeklciaa
namespace Go.Proofs.Ytgnhhnmpeklciaa
open Go VX
open Go.IntKind (i64 u8 u16)
theorem lt_nat {x:Int} {n:Nat} (h:0 ≤ x ∧ x < (n:Int)):Int.toNat x < n:=by omega
def qTJ1 (x:Int) (xd:Place):Int × Place:=
 if (decide (x > 7)) = true then
  ((i64.wrap (x - 8)),(rRight ({ V:=xd,T:=({ Column:=0,Line:=0,Across:=0,Down:=0,Row:=0 }:Place),X:=0,W:=false }:RScroll)).V)
 else
  (x,xd)
def qTJ1_T (x:Int) (xd:Place):Tm:=[(0,pt 1000),(2,.int .i64 x),(4,pt 1005),(6,.int .i64 0),(7,.int .i64 0),(14,.bool (decide (x > 7)))]
def qTJ1_H (x:Int) (xd:Place):Heap:=[(1005,Place.blk xd)]
def qTJ1_T1 (x:Int) (xd:Place) (r_:Int × Place):Tm:=[(0,pt 1000),(2,.int .i64 r_.1),(4,pt 1005),(6,.int .i64 0),(7,.int .i64 0)]
def qTJ1_H1 (x:Int) (xd:Place) (r_:Int × Place):Heap:=[(1005,Place.blk r_.2)]
theorem qTJ1_p1 (x:Int) (xd:Place) (d1:(decide (x > 7)) = true):Runs Try.prog 74 (bodyOf Try.f59 [1,0,1]) (qTJ1_T x xd) (qTJ1_H x xd) 1006 .normal (qTJ1_T1 x xd ((i64.wrap (x - 8)),(rRight ({ V:=xd,T:=({ Column:=0,Line:=0,Across:=0,Down:=0,Row:=0 }:Place),X:=0,W:=false }:RScroll)).V)) (qTJ1_H1 x xd ((i64.wrap (x - 8)),(rRight ({ V:=xd,T:=({ Column:=0,Line:=0,Across:=0,Down:=0,Row:=0 }:Place),X:=0,W:=false }:RScroll)).V)) 1006:=by
 exact runs_of_x hG hM 400 [.yes,.call [] [] 1000 (RScroll.enc (rRight ({ V:=xd,T:=({ Column:=0,Line:=0,Across:=0,Down:=0,Row:=0 }:Place),X:=0,W:=false }:RScroll))) []] (J d1 (J (rRight_ok ({ V:=xd,T:=({ Column:=0,Line:=0,Across:=0,Down:=0,Row:=0 }:Place),X:=0,W:=false }:RScroll)) trivial)) (by kernel_rfl)
theorem qTJ1_p2 (x:Int) (xd:Place) (d1:(decide (x > 7)) = false):Runs Try.prog 74 (bodyOf Try.f59 [1,0,1]) (qTJ1_T x xd) (qTJ1_H x xd) 1006 .normal (qTJ1_T1 x xd (x,xd)) (qTJ1_H1 x xd (x,xd)) 1006:=by
 exact runs_of_x hG hM 400 [.no] (J d1 trivial) (by kernel_rfl)
theorem qTJ1_runs (x:Int) (xd:Place):Runs Try.prog 74 (bodyOf Try.f59 [1,0,1]) (qTJ1_T x xd) (qTJ1_H x xd) 1006 .normal (qTJ1_T1 x xd (qTJ1 x xd)) (qTJ1_H1 x xd (qTJ1 x xd)) 1006:=by
 rcases bt (decide (x > 7)) with d1 | d1
 ·
  rw [show qTJ1 x xd = ((i64.wrap (x - 8)),(rRight ({ V:=xd,T:=({ Column:=0,Line:=0,Across:=0,Down:=0,Row:=0 }:Place),X:=0,W:=false }:RScroll)).V) from by unfold qTJ1;rw [if_pos d1]]
  exact qTJ1_p1 x xd d1
 ·
  rw [show qTJ1 x xd = (x,xd) from by unfold qTJ1;rw [if_neg (nt d1)]]
  exact qTJ1_p2 x xd d1
def qTJ2 (r:RPic) (v:Place) (x:Int) (xd:Int):Int:=
 if (rBit r.Control 16) = true then
  (i64.wrap (xd + 4096))
 else
  xd
def qTJ2_T (r:RPic) (v:Place) (x:Int) (xd:Int):Tm:=[(0,pt 1000),(2,.int .i64 ((qTJ1 x v).1)),(4,pt 1005),(6,.int .i64 0),(7,.int .i64 0),(8,.int .i64 xd),(33,.bool (rBit r.Control 16))]
def qTJ2_H (r:RPic) (v:Place) (x:Int) (xd:Int):Heap:=[]
def qTJ2_T1 (r:RPic) (v:Place) (x:Int) (xd:Int) (r_:Int):Tm:=[(0,pt 1000),(2,.int .i64 ((qTJ1 x v).1)),(4,pt 1005),(6,.int .i64 0),(7,.int .i64 0),(8,.int .i64 r_)]
def qTJ2_H1 (r:RPic) (v:Place) (x:Int) (xd:Int) (r_:Int):Heap:=[]
theorem qTJ2_p1 (r:RPic) (v:Place) (x:Int) (xd:Int) (d1:(rBit r.Control 16) = true):Runs Try.prog 74 (bodyOf Try.f59 [1,1,1,0,1]) (qTJ2_T r v x xd) (qTJ2_H r v x xd) 1006 .normal (qTJ2_T1 r v x xd (i64.wrap (xd + 4096))) (qTJ2_H1 r v x xd (i64.wrap (xd + 4096))) 1006:=by
 exact runs_of_x hG hM 400 [.yes] (J d1 trivial) (by kernel_rfl)
theorem qTJ2_p2 (r:RPic) (v:Place) (x:Int) (xd:Int) (d1:(rBit r.Control 16) = false):Runs Try.prog 74 (bodyOf Try.f59 [1,1,1,0,1]) (qTJ2_T r v x xd) (qTJ2_H r v x xd) 1006 .normal (qTJ2_T1 r v x xd xd) (qTJ2_H1 r v x xd xd) 1006:=by
 exact runs_of_x hG hM 400 [.no] (J d1 trivial) (by kernel_rfl)
theorem qTJ2_runs (r:RPic) (v:Place) (x:Int) (xd:Int):Runs Try.prog 74 (bodyOf Try.f59 [1,1,1,0,1]) (qTJ2_T r v x xd) (qTJ2_H r v x xd) 1006 .normal (qTJ2_T1 r v x xd (qTJ2 r v x xd)) (qTJ2_H1 r v x xd (qTJ2 r v x xd)) 1006:=by
 rcases bt (rBit r.Control 16) with d1 | d1
 ·
  rw [show qTJ2 r v x xd = (i64.wrap (xd + 4096)) from by unfold qTJ2;rw [if_pos d1]]
  exact qTJ2_p1 r v x xd d1
 ·
  rw [show qTJ2 r v x xd = xd from by unfold qTJ2;rw [if_neg (nt d1)]]
  exact qTJ2_p2 r v x xd d1
def qTL3 (r:RPic) (rM:Nat → Int) (rN:Nat → Int) (rS:Nat → Int) (rC:List Man) (v:Place) (x:Int) (xd:Int × Int):(Int × Int) ⊕ (Int × Int):=
 if (decide (xd.1 < (rShade ((qTJ1 x v).2)).2)) = true then
  .inl ((i64.wrap (xd.1 + 1)),(i64.wrap (Int.tdiv xd.2 2)))
 else
  .inr (xd.1,xd.2)
def qTL3_T (r:RPic) (rM:Nat → Int) (rN:Nat → Int) (rS:Nat → Int) (rC:List Man) (v:Place) (x:Int) (xd:Int × Int):Tm:=[(0,pt 1000),(2,.int .i64 ((qTJ1 x v).1)),(6,.int .i64 0),(7,.int .i64 0),(8,.int .i64 (qTJ2 r v x (i64.wrap ((i64.wrap (16 * (rPeek r rM rN rS rC (rName ((qTJ1 x v).2))))) + ((qTJ1 x v).2).Row)))),(10,.int .i64 ((rShade ((qTJ1 x v).2)).2)),(11,.int .i64 xd.2),(12,.int .i64 xd.1)]
def qTL3_H (r:RPic) (rM:Nat → Int) (rN:Nat → Int) (rS:Nat → Int) (rC:List Man) (v:Place) (x:Int) (xd:Int × Int):Heap:=[]
def qTL3_T1 (r:RPic) (rM:Nat → Int) (rN:Nat → Int) (rS:Nat → Int) (rC:List Man) (v:Place) (x:Int) (y_:Int × Int):Tm:=qTL3_T r rM rN rS rC v x y_
def qTL3_H1 (r:RPic) (rM:Nat → Int) (rN:Nat → Int) (rS:Nat → Int) (rC:List Man) (v:Place) (x:Int) (y_:Int × Int):Heap:=qTL3_H r rM rN rS rC v x y_
def qTL3_ex (_:Int × Int):Ex:=.exit 0
theorem qTL3_p1 (r:RPic) (rM:Nat → Int) (rN:Nat → Int) (rS:Nat → Int) (rC:List Man) (v:Place) (x:Int) (xd:Int × Int) (d1:(decide (xd.1 < (rShade ((qTJ1 x v).2)).2)) = true):Runs Try.prog 74 (bodyOf Try.f59 [1,1,1,1,1,1,0,1,0,0]) (qTL3_T r rM rN rS rC v x xd) (qTL3_H r rM rN rS rC v x xd) 1006 .normal (qTL3_T r rM rN rS rC v x ((i64.wrap (xd.1 + 1)),(i64.wrap (Int.tdiv xd.2 2)))) (qTL3_H r rM rN rS rC v x ((i64.wrap (xd.1 + 1)),(i64.wrap (Int.tdiv xd.2 2)))) 1006:=by
 exact runs_of_x hG hM 400 [.yes] (J d1 (J (by decide:((2:Int) ≠ 0)) trivial)) (by kernel_rfl)
theorem qTL3_p2 (r:RPic) (rM:Nat → Int) (rN:Nat → Int) (rS:Nat → Int) (rC:List Man) (v:Place) (x:Int) (xd:Int × Int) (d1:(decide (xd.1 < (rShade ((qTJ1 x v).2)).2)) = false):Runs Try.prog 74 (bodyOf Try.f59 [1,1,1,1,1,1,0,1,0,0]) (qTL3_T r rM rN rS rC v x xd) (qTL3_H r rM rN rS rC v x xd) 1006 (.exit 0) (qTL3_T1 r rM rN rS rC v x (xd.1,xd.2)) (qTL3_H1 r rM rN rS rC v x (xd.1,xd.2)) 1006:=by
 exact runs_of_x hG hM 400 [.no] (J d1 trivial) (by kernel_rfl)
theorem qTL3_runs (r:RPic) (rM:Nat → Int) (rN:Nat → Int) (rS:Nat → Int) (rC:List Man) (v:Place) (x:Int) (k_:Nat) (x_:Int × Int) (y_:Int × Int) (h_:iter (qTL3 r rM rN rS rC v x) k_ x_ = some y_):Runs Try.prog 74 (.block 0 (.loop (bodyOf Try.f59 [1,1,1,1,1,1,0,1,0,0]))) (qTL3_T r rM rN rS rC v x x_) (qTL3_H r rM rN rS rC v x x_) 1006 (outOf 0 (qTL3_ex y_)) (qTL3_T1 r rM rN rS rC v x y_) (qTL3_H1 r rM rN rS rC v x y_) 1006:=by
 refine block_iter (qTL3 r rM rN rS rC v x) (qTL3_T r rM rN rS rC v x) (qTL3_H r rM rN rS rC v x) qTL3_ex (qTL3_T1 r rM rN rS rC v x) (qTL3_H1 r rM rN rS rC v x) ?_ ?_ ?_ k_ x_ y_ h_
 ·intro r hr;cases hr
 ·intro xd y_ hx
  unfold qTL3 at hx
  rcases bt (decide (xd.1 < (rShade ((qTJ1 x v).2)).2)) with d1 | d1
  ·rw [if_pos d1] at hx
   cases hx;exact qTL3_p1 r rM rN rS rC v x xd d1
  ·rw [if_neg (nt d1)] at hx
   cases hx
 ·intro xd y_ hx
  unfold qTL3 at hx
  rcases bt (decide (xd.1 < (rShade ((qTJ1 x v).2)).2)) with d1 | d1
  ·rw [if_pos d1] at hx
   cases hx
  ·rw [if_neg (nt d1)] at hx
   cases hx;exact qTL3_p2 r rM rN rS rC v x xd d1
abbrev NCk0 (r:RPic) (v:Place) (x:Int) (rM rN rS:Nat → Int) (rC:List Man):=(qTJ2 r v x (i64.wrap ((i64.wrap (16 * (rPeek r rM rN rS rC (rName ((qTJ1 x v).2))))) + ((qTJ1 x v).2).Row)))
abbrev NCk1 (rM:Nat → Int) (r:RPic) (v:Place) (x:Int) (rN rS:Nat → Int) (rC:List Man):=(i64.wrap (rM (Int.toNat (i64.wrap ((NCk0 r v x rM rN rS rC) + 8)))))
theorem rTile_p1 (r:RPic) (rM:Nat → Int) (rN:Nat → Int) (rS:Nat → Int) (rC:List Man) (v:Place) (x:Int) (w1c:0 ≤ (rName ((qTJ1 x v).2))) (w2c:0 ≤ ((rShade ((qTJ1 x v).2)).1)) (m3:Nat) (r3:Int × Int) (l3:iter (qTL3 r rM rN rS rC v x) m3 (0,(rPeek r rM rN rS rC ((rShade ((qTJ1 x v).2)).1))) = some r3) (w3c:0 ≤ (qTJ2 r v x (i64.wrap ((i64.wrap (16 * (rPeek r rM rN rS rC (rName ((qTJ1 x v).2))))) + ((qTJ1 x v).2).Row))) ∧ (qTJ2 r v x (i64.wrap ((i64.wrap (16 * (rPeek r rM rN rS rC (rName ((qTJ1 x v).2))))) + ((qTJ1 x v).2).Row))) < ((16384:Nat):Int)) (w4c:0 ≤ (i64.wrap ((qTJ2 r v x (i64.wrap ((i64.wrap (16 * (rPeek r rM rN rS rC (rName ((qTJ1 x v).2))))) + ((qTJ1 x v).2).Row))) + 8)) ∧ (i64.wrap ((qTJ2 r v x (i64.wrap ((i64.wrap (16 * (rPeek r rM rN rS rC (rName ((qTJ1 x v).2))))) + ((qTJ1 x v).2).Row))) + 8)) < ((16384:Nat):Int)) (w5c:0 ≤ (qTJ1 x v).1 ∧ (qTJ1 x v).1 < ((8:Nat):Int)):FnSpec Try.prog 59 1005 [pt 1000,Place.enc v,.int .i64 x] [(1000,(RPic.bl r (sl 1001 16384 1) (sl 1002 256 1) (sl 1004 (List.length rC) 4) (sl 1003 61440 1) true)),(1001,iB 16384 rM true),(1002,iB 256 rN true),(1003,iB 61440 rS true),(1004,mB rC true)] (.tuple ⟨[.int .i64 (((at8 (rNum (i64.wrap (rM (Int.toNat (qTJ2 r v x (i64.wrap ((i64.wrap (16 * (rPeek r rM rN rS rC (rName ((qTJ1 x v).2))))) + ((qTJ1 x v).2).Row)))))) (i64.wrap (rM (Int.toNat (i64.wrap ((qTJ2 r v x (i64.wrap ((i64.wrap (16 * (rPeek r rM rN rS rC (rName ((qTJ1 x v).2))))) + ((qTJ1 x v).2).Row))) + 8)))))) (Int.toNat ((qTJ1 x v).1))),(Int.tmod r3.2 4)).1),.int .i64 (((at8 (rNum (i64.wrap (rM (Int.toNat (qTJ2 r v x (i64.wrap ((i64.wrap (16 * (rPeek r rM rN rS rC (rName ((qTJ1 x v).2))))) + ((qTJ1 x v).2).Row)))))) (i64.wrap (rM (Int.toNat (i64.wrap ((qTJ2 r v x (i64.wrap ((i64.wrap (16 * (rPeek r rM rN rS rC (rName ((qTJ1 x v).2))))) + ((qTJ1 x v).2).Row))) + 8)))))) (Int.toNat ((qTJ1 x v).1))),(Int.tmod r3.2 4)).2)]⟩) []:=by
 exact fn_of_x hG hM Try.func59 (by kernel_rfl) (by kernel_rfl) 400 [.segk 2 0 [0,2,4,6,7,14] [1005] .normal (qTJ1_T1 x v (qTJ1 x v)) (qTJ1_H1 x v (qTJ1 x v)) 1006,.call [] [] 1000 (.int .i64 (rName ((qTJ1 x v).2))) [],.call [(1000,1000),(1001,1001),(1002,1002),(1003,1003),(1004,1004)] [] 1005 (.int .i64 (rPeek r rM rN rS rC (rName ((qTJ1 x v).2)))) [],.call [] [] 1000 (.bool (rBit r.Control 16)) [],.segk 2 0 [0,2,4,6,7,8,33] [] .normal (qTJ2_T1 r v x (i64.wrap ((i64.wrap (16 * (rPeek r rM rN rS rC (rName ((qTJ1 x v).2))))) + ((qTJ1 x v).2).Row)) (NCk0 r v x rM rN rS rC)) (qTJ2_H1 r v x (i64.wrap ((i64.wrap (16 * (rPeek r rM rN rS rC (rName ((qTJ1 x v).2))))) + ((qTJ1 x v).2).Row)) (NCk0 r v x rM rN rS rC)) 1006,.call [] [] 1000 (.tuple ⟨[.int .i64 ((rShade ((qTJ1 x v).2)).1),.int .i64 ((rShade ((qTJ1 x v).2)).2)]⟩) [],.call [(1000,1000),(1001,1001),(1002,1002),(1003,1003),(1004,1004)] [] 1005 (.int .i64 (rPeek r rM rN rS rC ((rShade ((qTJ1 x v).2)).1))) [],.segk 1 0 [0,2,6,7,8,10,11,12] [] .normal (qTL3_T1 r rM rN rS rC v x r3) (qTL3_H1 r rM rN rS rC v x r3) 1006,.sym,.sym,.call [] [] 1000 (.func (.yield 1) ⟨[.int .i64 (rNum (i64.wrap (rM (Int.toNat (NCk0 r v x rM rN rS rC)))) (NCk1 rM r v x rN rS rC) 0),.int .i64 (rNum (i64.wrap (rM (Int.toNat (NCk0 r v x rM rN rS rC)))) (NCk1 rM r v x rN rS rC) 1),.int .i64 (rNum (i64.wrap (rM (Int.toNat (NCk0 r v x rM rN rS rC)))) (NCk1 rM r v x rN rS rC) 2),.int .i64 (rNum (i64.wrap (rM (Int.toNat (NCk0 r v x rM rN rS rC)))) (NCk1 rM r v x rN rS rC) 3),.int .i64 (rNum (i64.wrap (rM (Int.toNat (NCk0 r v x rM rN rS rC)))) (NCk1 rM r v x rN rS rC) 4),.int .i64 (rNum (i64.wrap (rM (Int.toNat (NCk0 r v x rM rN rS rC)))) (NCk1 rM r v x rN rS rC) 5),.int .i64 (rNum (i64.wrap (rM (Int.toNat (NCk0 r v x rM rN rS rC)))) (NCk1 rM r v x rN rS rC) 6),.int .i64 (rNum (i64.wrap (rM (Int.toNat (NCk0 r v x rM rN rS rC)))) (NCk1 rM r v x rN rS rC) 7)]⟩ ⟨[.bool true]⟩) [],.sym] (J (qTJ1_runs x v) (J (rName_ok ((qTJ1 x v).2)) (J (rPeek_ok r rM rN rS rC (rName ((qTJ1 x v).2)) w1c) (J (rBit_ok r.Control 16 (by decide:(16:Int) ≠ 0)) (J (qTJ2_runs r v x (i64.wrap ((i64.wrap (16 * (rPeek r rM rN rS rC (rName ((qTJ1 x v).2))))) + ((qTJ1 x v).2).Row))) (J (rShade_ok ((qTJ1 x v).2)) (J (rPeek_ok r rM rN rS rC ((rShade ((qTJ1 x v).2)).1) w2c) (J (qTL3_runs r rM rN rS rC v x m3 (0,(rPeek r rM rN rS rC ((rShade ((qTJ1 x v).2)).1))) r3 l3) (J w3c (J (lt_nat w3c) (J w4c (J (lt_nat w4c) (J (rNum_ok (i64.wrap (rM (Int.toNat (NCk0 r v x rM rN rS rC)))) (NCk1 rM r v x rN rS rC)) (J T1 (J w5c (J (by decide:((4:Int) ≠ 0)) trivial)))))))))))))))) (by kernel_rfl)
end Go.Proofs.Ytgnhhnmpeklciaa
namespace Go.Proofs.Ytgnhhnmpeklciaa
open Go VX IntWalk
open Go.IntKind (i64 u8 u16)
structure Same (p:Pic) (r:RPic) (M N:Nat → Int):Prop where
 ok:Pic.ok p
 low:∀ j,j < 32 → p.colours j < 64
 tiles:∀ j,j < 8192 → M j = p.tiles j
 names:∀ j,j < 2048 → M (8192 + j) = p.names j
 colours:∀ j,j < 32 → M (16128 + j) = p.colours j
 men:∀ j,j < 256 → N j = p.men j
 man:r.At = p.man
 sc:Sc p.scroll r.S
 control:r.Control = p.control
 mask:r.Mask = p.mask
 flags:p.flags = (if r.Blank then 128 else 0) + (if r.Hit then 64 else 0) + (if r.Many then 32 else 0)
 waits:r.Waits = p.waits
 bus:r.Bus = p.bus
 upright:r.Upright = p.upright
theorem rw256 {x:Int} (w:rng 256 x):i64.wrap x = x:=w64 (by have:=w.1;omega) (by have:=w.2;have:x < 256:=this;omega)
theorem u8w {x:Int} (w:rng 256 x):u8.wrap x = x:=by rw [IntKind.wrap_u8];have h1:=w.1;have h2:x < 256:=w.2;omega
theorem mask_at {a:Int} (h0:0 ≤ a) (h1:a < 65536):bAnd .u16 a 16383 = a % 16384:=by
 have:=and_u16_16383 h0 h1;omega
section
variable {p:Pic} {r:RPic} {M N:Nat → Int} (h:Same p r M N)
include h
theorem mem_same (a:Int) (h0:0 ≤ a) (h1:a < 65536) (L:List Sprite) (S:Nat → Int) (C:List Man):M (Int.toNat (rWhere r M N S C a)) = pPeek p L a:=by
 rw [rWhere_eq _ _ _ _ _ _ h0]
 unfold pPeek
 rw [mask_at h0 h1]
 by_cases c1:a % 16384 < 8192
 ·rw [if_pos c1,if_pos (decide_eq_true c1)]
  exact h.tiles _ (by omega)
 ·rw [if_neg c1,if_neg (show ¬ (decide (a % 16384 < 8192)) = true by simpa using c1)]
  by_cases c2:a % 16384 < 16128
  ·have hm:=mirror_lt (a % 16384) p.upright
   rw [if_pos c2,if_pos (decide_eq_true c2),mirror_same _ (by omega) (by omega),h.upright]
   rw [show Int.toNat (8192 + mirror (a % 16384) p.upright) = 8192 + Int.toNat (mirror (a % 16384) p.upright) by omega]
   exact h.names _ (by omega)
  ·have hm:=colour_lt (a % 16384)
   rw [if_neg c2,if_neg (show ¬ (decide (a % 16384 < 16128)) = true by simpa using c2),colour_same (by omega) (by omega)]
   rw [show Int.toNat (16128 + colour (a % 16384)) = 16128 + Int.toNat (colour (a % 16384)) by omega]
   exact h.colours _ (by omega)
theorem peek_rng (a:Int) (L:List Sprite):rng 256 (pPeek p L a):=by
 unfold pPeek
 split
 ·exact h.ok.tiles _
 ·split
  ·exact h.ok.names _
  ·exact h.ok.colours _
theorem peek_same (a:Int) (h0:0 ≤ a) (h1:a < 65536) (L:List Sprite) (S:Nat → Int) (C:List Man):rPeek r M N S C a = pPeek p L a:=by
 unfold rPeek
 rw [mem_same h a h0 h1 L S C,rw256 (peek_rng h a L)]
theorem poke_same (a b:Int) (h0:0 ≤ a) (h1:a < 65536) (wb:rng 256 b) (L:List Sprite) (S:Nat → Int) (C:List Man):Same (pPoke p L a b) r (rPoke r M N S C a b) N:=by
 have hok:=pPoke_w p L a b h.ok ⟨h0,h1⟩ wb
 have b0:=wb.1
 have b1:b < 256:=wb.2
 have e63:bAnd .u8 b 63 = b % 64:=by have:=and_u8_63 b0 b1;omega
 have eP:rPoke r M N S C a b = upd M (Int.toNat (rWhere r M N S C a)) (if a % 16384 ≥ 16128 then b % 64 else b):=by
  unfold rPoke
  rw [tm_e 16384 h0,tm_e 64 b0]
  by_cases c:a % 16384 ≥ 16128
  ·rw [if_pos (decide_eq_true c),if_pos c,u8w ⟨by omega,by show b % 64 < 256;omega⟩]
  ·rw [if_neg (by simpa using c),if_neg c,u8w wb]
 have hm:=mirror_lt (a % 16384) p.upright
 have hc:=colour_lt (a % 16384)
 have up:∀ (f:Nat → Int) (i j:Nat) (x:Int),upd f i x j = if j = i then x else f j:=by
  intro f i j x;unfold upd
  by_cases e:j = i
  ·subst e;simp
  ·rw [if_neg e]
   cases hq:Nat.beq j i
   ·rfl
   ·exact absurd (Nat.eq_of_beq_eq_true hq) e
 rw [eP]
 rw [rWhere_eq _ _ _ _ _ _ h0,mirror_same _ (by omega) (by omega),colour_same (by omega) (by omega),h.upright]
 unfold pPoke at hok ⊢
 rw [mask_at h0 h1,e63] at hok ⊢
 by_cases c1:a % 16384 < 8192
 ·rw [if_neg (show ¬ (decide (a % 16384 ≥ 16128)) = true by simp;omega),if_pos (decide_eq_true c1)] at hok ⊢
  rw [if_pos c1,if_neg (by omega)]
  exact ⟨hok,h.low,fun j hj => by rw [up];show _ = upd _ _ _ j;rw [up,h.tiles j hj],fun j hj => by rw [up,if_neg (by omega)];exact h.names j hj,fun j hj => by rw [up,if_neg (by omega)];exact h.colours j hj,h.men,h.man,h.sc,h.control,h.mask,h.flags,h.waits,h.bus,h.upright⟩
 ·by_cases c2:a % 16384 < 16128
  ·rw [if_neg (show ¬ (decide (a % 16384 ≥ 16128)) = true by simp;omega),if_neg (show ¬ (decide (a % 16384 < 8192)) = true by simpa using c1),if_pos (decide_eq_true c2)] at hok ⊢
   rw [if_neg c1,if_pos c2,if_neg (by omega),show Int.toNat (8192 + mirror (a % 16384) p.upright) = 8192 + Int.toNat (mirror (a % 16384) p.upright) by omega]
   exact ⟨hok,h.low,fun j hj => by rw [up,if_neg (by omega)];exact h.tiles j hj,fun j hj => by rw [up];show _ = upd _ _ _ j;rw [up,h.names j hj];simp only [Nat.add_left_cancel_iff],fun j hj => by rw [up,if_neg (by omega)];exact h.colours j hj,h.men,h.man,h.sc,h.control,h.mask,h.flags,h.waits,h.bus,h.upright⟩
  ·rw [if_pos (show (decide (a % 16384 ≥ 16128)) = true by simp;omega),if_neg (show ¬ (decide (a % 16384 < 8192)) = true by simpa using c1),if_neg (show ¬ (decide (a % 16384 < 16128)) = true by simpa using c2)] at hok ⊢
   rw [if_neg c1,if_neg c2,if_pos (by omega),show Int.toNat (16128 + colour (a % 16384)) = 16128 + Int.toNat (colour (a % 16384)) by omega]
   exact ⟨hok,fun j hj => by show upd _ _ _ j < 64;rw [up];split;omega;exact h.low j hj,fun j hj => by rw [up,if_neg (by omega)];exact h.tiles j hj,fun j hj => by rw [up,if_neg (by omega)];exact h.names j hj,fun j hj => by rw [up];show _ = upd _ _ _ j;rw [up,h.colours j hj];simp only [Nat.add_left_cancel_iff],h.men,h.man,h.sc,h.control,h.mask,h.flags,h.waits,h.bus,h.upright⟩
theorem bits_same:rBits r.S.V = p.scroll.V:=by rw [h.sc.V];exact rBits_pl _ h.sc.good.v0 h.sc.good.v1
theorem far_same:rBit r.Control 4 = ((bAnd .u8 p.control 4:Int) != 0):=by
 have w0:=h.ok.control.1
 have w1:p.control < 256:=h.ok.control.2
 have e:bAnd .u8 p.control 4 = p.control / 4 % 2 * 4:=by
  have:=bAnd_field (k:=.u8) rfl 2 1 (a:=p.control) (m:=4) rfl w0 w1 (by decide);simpa using this
 unfold rBit
 rw [h.control,e,td_e 4 w0,w64 (by omega) (by omega),tm_e 2 (by omega)]
 rcases (show p.control / 4 % 2 = 0 ∨ p.control / 4 % 2 = 1 by omega) with c | c <;> rw [c] <;> rfl
theorem with_bus {b:Int} (wb:rng 256 b):Same ({ p with bus:=b }:Pic) ({ r with Bus:=b }:RPic) M N:=
 ⟨⟨h.ok.tiles,h.ok.names,h.ok.colours,h.ok.men,h.ok.man,h.ok.scroll,h.ok.control,h.ok.mask,h.ok.flags,h.ok.waits,wb,h.ok.screen⟩,h.low,h.tiles,h.names,h.colours,h.men,h.man,h.sc,h.control,h.mask,h.flags,h.waits,rfl,h.upright⟩
theorem with_scroll {s:Scroll} {q:RScroll} (hs:Sc s q):Same ({ p with scroll:=s }:Pic) ({ r with S:=q }:RPic) M N:=
 ⟨⟨h.ok.tiles,h.ok.names,h.ok.colours,h.ok.men,h.ok.man,⟨⟨hs.good.v0,by show s.V < 65536;have:=hs.good.v1;omega⟩,⟨hs.good.t0,by show s.T < 65536;have:=hs.good.t1;omega⟩,⟨hs.good.x0,by show s.X < 256;have:=hs.good.x1;omega⟩⟩,h.ok.control,h.ok.mask,h.ok.flags,h.ok.waits,h.ok.bus,h.ok.screen⟩,h.low,h.tiles,h.names,h.colours,h.men,h.man,hs,h.control,h.mask,h.flags,h.waits,h.bus,h.upright⟩
theorem put_same (reg b:Int) (wr:rng 256 reg) (wb:rng 256 b) (L:List Sprite) (S:Nat → Int) (C:List Man):Same (pPut p L reg b) (rPut r M N S C reg b).1 (rPut r M N S C reg b).2.1 (rPut r M N S C reg b).2.2:=by
 have hb:=with_bus h wb
 have w0:=wr.1
 unfold pPut rPut
 by_cases c0:((Int.tmod reg 8:Int) == 0) = true
 ·rw [if_pos c0,if_pos c0]
  have q:=with_scroll hb (sc_control h.sc wb)
  exact ⟨⟨q.ok.tiles,q.ok.names,q.ok.colours,q.ok.men,q.ok.man,q.ok.scroll,wb,q.ok.mask,q.ok.flags,q.ok.waits,q.ok.bus,q.ok.screen⟩,q.low,q.tiles,q.names,q.colours,q.men,q.man,q.sc,rfl,q.mask,q.flags,q.waits,q.bus,q.upright⟩
 rw [if_neg c0,if_neg c0]
 by_cases c1:((Int.tmod reg 8:Int) == 1) = true
 ·rw [if_pos c1,if_pos c1]
  exact ⟨⟨hb.ok.tiles,hb.ok.names,hb.ok.colours,hb.ok.men,hb.ok.man,hb.ok.scroll,hb.ok.control,wb,hb.ok.flags,hb.ok.waits,hb.ok.bus,hb.ok.screen⟩,hb.low,hb.tiles,hb.names,hb.colours,hb.men,hb.man,hb.sc,hb.control,rfl,hb.flags,hb.waits,hb.bus,hb.upright⟩
 rw [if_neg c1,if_neg c1]
 by_cases c3:((Int.tmod reg 8:Int) == 3) = true
 ·rw [if_pos c3,if_pos c3]
  exact ⟨⟨hb.ok.tiles,hb.ok.names,hb.ok.colours,hb.ok.men,wb,hb.ok.scroll,hb.ok.control,hb.ok.mask,hb.ok.flags,hb.ok.waits,hb.ok.bus,hb.ok.screen⟩,hb.low,hb.tiles,hb.names,hb.colours,hb.men,rfl,hb.sc,hb.control,hb.mask,hb.flags,hb.waits,hb.bus,hb.upright⟩
 rw [if_neg c3,if_neg c3]
 by_cases c4:((Int.tmod reg 8:Int) == 4) = true
 ·rw [if_pos c4,if_pos c4]
  have m0:=h.ok.man.1
  have m1:p.man < 256:=h.ok.man.2
  refine ⟨⟨hb.ok.tiles,hb.ok.names,hb.ok.colours,fun j => ?_,rng_wrap_u8 _,hb.ok.scroll,hb.ok.control,hb.ok.mask,hb.ok.flags,hb.ok.waits,hb.ok.bus,hb.ok.screen⟩,hb.low,hb.tiles,hb.names,hb.colours,fun j hj => ?_,?_,hb.sc,hb.control,hb.mask,hb.flags,hb.waits,hb.bus,hb.upright⟩
  ·show rng 256 (upd _ _ _ j);unfold upd;cases Nat.beq j _
   ·exact h.ok.men j
   ·exact wb
  ·show upd N (Int.toNat r.At) (u8.wrap b) j = upd p.men (Int.toNat p.man) b j
   unfold upd;rw [h.man,u8w wb,h.men j hj]
  ·show Int.tmod (i64.wrap (r.At + 1)) 256 = u8.wrap (p.man + 1)
   rw [h.man,w64 (by omega) (by omega),tm_e 256 (by omega),IntKind.wrap_u8]
 rw [if_neg c4,if_neg c4]
 by_cases c5:((Int.tmod reg 8:Int) == 5) = true
 ·rw [if_pos c5,if_pos c5];exact with_scroll hb (sc_offset h.sc wb)
 rw [if_neg c5,if_neg c5]
 by_cases c6:((Int.tmod reg 8:Int) == 6) = true
 ·rw [if_pos c6,if_pos c6];exact with_scroll hb (sc_address h.sc wb)
 rw [if_neg c6,if_neg c6]
 by_cases c7:((Int.tmod reg 8:Int) == 7) = true
 ·rw [if_pos c7,if_pos c7]
  have v0:=h.sc.good.v0
  have v1:=h.sc.good.v1
  have q:=poke_same hb p.scroll.V b v0 (by omega) wb L S C
  rw [bits_same h]
  have e1:(pPoke ({ p with bus:=b }:Pic) L p.scroll.V b).scroll = p.scroll ∧ (pPoke ({ p with bus:=b }:Pic) L p.scroll.V b).control = p.control:=by
   unfold pPoke;repeat' split
   all_goals exact ⟨rfl,rfl⟩
  have hs:=sc_step h.sc ((bAnd .u8 p.control 4:Int) != 0)
  have e2:rBit r.Control 4 = ((bAnd .u8 p.control 4:Int) != 0):=far_same h
  have q2:=with_scroll q (s:=sStep (pPoke ({ p with bus:=b }:Pic) L p.scroll.V b).scroll (((bAnd .u8 ((pPoke ({ p with bus:=b }:Pic) L p.scroll.V b).control) 4):Int) != 0)) (q:=rStep r.S (rBit r.Control 4)) (by rw [e1.1,e1.2,e2];exact hs)
  exact q2
 ·rw [if_neg c7,if_neg c7];exact hb
end
end Go.Proofs.Ytgnhhnmpeklciaa
namespace Go.Proofs.Ytgnhhnmpeklciaa
open Go VX
open Go.IntKind (i64 u8 u16)
theorem iter_seq' {S R : Type} {f : S → S ⊕ R} (st : Nat → S) (n : Nat) (r : R) (hf : ∀ k, k < n → f (st k) = .inl (st (k + 1))) (ho : f (st n) = .inr r) : iter f (n + 1) (st 0) = some r := by
  have : ∀ (j k : Nat), k + j = n → iter f (j + 1) (st k) = some r := by
    intro j
    induction j with
    | zero => intro k h; have : k = n := by omega
              subst this; simp [iter, ho]
    | succ j ih => intro k h; rw [iter, hf k (by omega)]; exact ih (k + 1) (by omega)
  exact this n 0 (by omega)
structure PlaceOk (v:Place):Prop where
 c:0 ≤ v.Column ∧ v.Column < 32
 l:0 ≤ v.Line ∧ v.Line < 32
 a:0 ≤ v.Across ∧ v.Across < 2
 d:0 ≤ v.Down ∧ v.Down < 2
 r:0 ≤ v.Row ∧ v.Row < 8
theorem right_place {v:Place} (h:PlaceOk v) (T:Place) (X:Int) (W:Bool):PlaceOk (rRight ({ V:=v,T:=T,X:=X,W:=W }:RScroll)).V:=by
 obtain ⟨hc,hl,ha,hd,hr⟩:=h
 unfold rRight
 simp only
 rw [w64 (by omega) (by omega),w64 (by omega) (by omega)]
 split
 ·exact ⟨⟨Int.le_refl 0,show (0:Int) < 32 by decide⟩,hl,by simp only;omega,hd,hr⟩
 ·rename_i h
  have h':v.Column + 1 ≠ 32:=fun e => h (by rw [e];rfl)
  exact ⟨by simp only;omega,hl,ha,hd,hr⟩
def tilePl (v:Place) (x:Int):Int × Place:=if x > 7 then (x - 8,(rRight ({ V:=v,T:=({ Column:=0,Line:=0,Across:=0,Down:=0,Row:=0 }:Place),X:=0,W:=false }:RScroll)).V) else (x,v)
def tileFrom (c:Int) (n row:Int):Int:=16 * n + row + if rBit c 16 = true then 4096 else 0
def rTileF (r : RPic) (rM : Nat → Int) (rN : Nat → Int) (rS : Nat → Int) (rC : List Man) (v : Place) (x : Int) : Int × Int :=
  (rNum (rM (tileFrom r.Control (rPeek r rM rN rS rC (rName (tilePl v x).2)) (tilePl v x).2.Row).toNat) (rM (tileFrom r.Control (rPeek r rM rN rS rC (rName (tilePl v x).2)) (tilePl v x).2.Row + 8).toNat) (tilePl v x).1.toNat,
   rPeek r rM rN rS rC (rShade (tilePl v x).2).1 / 2 ^ (rShade (tilePl v x).2).2.toNat % 4)
theorem tilePl_ok {v:Place} {x:Int} (h:PlaceOk v) (hx:0 ≤ x ∧ x < 16):PlaceOk (tilePl v x).2 ∧ 0 ≤ (tilePl v x).1 ∧ (tilePl v x).1 < 8:=by
 unfold tilePl
 split
 ·exact ⟨right_place h _ _ _,by simp only;omega,by simp only;omega⟩
 ·exact ⟨h,by simp only;omega,by simp only;omega⟩
theorem j1_eq {v:Place} {x:Int} (hx:0 ≤ x ∧ x < 16):qTJ1 x v = tilePl v x:=by
 unfold qTJ1 tilePl
 rw [w64 (by omega) (by omega)]
 simp only [decide_eq_true_eq]
theorem rPeek_rng {r:RPic} {M N S:Nat → Int} {C:List Man} (w:∀ j,rng 256 (M j)) (a:Int):rng 256 (rPeek r M N S C a):=by
 unfold rPeek;rw [rw256 (w _)];exact w _
theorem from_ok {c n row:Int} (hn:rng 256 n) (hr:0 ≤ row ∧ row < 8):0 ≤ tileFrom c n row ∧ tileFrom c n row + 8 < 16384:=by
 unfold tileFrom;have h1:=hn.1;have h2:n < 256:=hn.2
 split <;> omega
theorem j2_eq {r:RPic} {v:Place} {x n row:Int} (hn:rng 256 n) (hr:0 ≤ row ∧ row < 8):qTJ2 r v x (i64.wrap ((i64.wrap (16 * n)) + row)) = tileFrom r.Control n row:=by
 have h1:=hn.1;have h2:n < 256:=hn.2
 unfold qTJ2 tileFrom
 rw [w64 (x:=16 * n) (by omega) (by omega),w64 (x:=16 * n + row) (by omega) (by omega)]
 split
 ·rw [w64 (by omega) (by omega)]
 ·omega
theorem shade_by {v:Place} (h:PlaceOk v):0 ≤ (rShade v).1 ∧ (rShade v).1 < 16384 ∧ ∃ n:Nat,n ≤ 6 ∧ (rShade v).2 = n:=by
 obtain ⟨hc,hl,ha,hd,hr⟩:=h
 have e:rShade v = (9152 + 1024 * (v.Across + 2 * v.Down) + 8 * (v.Line / 4) + v.Column / 4,v.Column % 4 / 2 * 2 + v.Line % 4 / 2 * 4):=by
  unfold rShade
  simp (disch:=omega) only [tm_e,td_e,w64]
 rw [e]
 refine ⟨by simp only;omega,by simp only;omega,(v.Column % 4 / 2 * 2 + v.Line % 4 / 2 * 4).toNat,by omega,by simp only;omega⟩
theorem name_in {v:Place} (h:PlaceOk v):0 ≤ rName v ∧ rName v < 16384:=by
 obtain ⟨hc,hl,ha,hd,hr⟩:=h
 have e:rName v = 8192 + v.Column + 32 * v.Line + 1024 * v.Across + 2048 * v.Down:=by
  unfold rName
  simp (disch:=omega) only [w64]
 omega
theorem halves (r:RPic) (rM:Nat → Int) (rN:Nat → Int) (rS:Nat → Int) (rC:List Man) (v:Place) (x:Int) (n:Nat) (hn:n ≤ 6) (hs:(rShade (qTJ1 x v).2).2 = n) (s:Int) (h0:0 ≤ s) (h1:s < 256) :
  iter (qTL3 r rM rN rS rC v x) (n + 1) (0,s) = some ((n:Int),s / 2 ^ n):=by
 have:=iter_seq' (f:=qTL3 r rM rN rS rC v x) (fun k => ((k:Int),s / 2 ^ k)) n ((n:Int),s / 2 ^ n) (fun k hk => by
  unfold qTL3
  rw [hs,if_pos (by simp only [decide_eq_true_eq];omega)]
  have hp:0 < (2:Int) ^ k:=Int.pow_pos (by decide)
  have hq0:0 ≤ s / 2 ^ k:=Int.ediv_nonneg h0 (Int.le_of_lt hp)
  have hq1:s / 2 ^ k ≤ s:=Int.ediv_le_self _ h0
  rw [td_e 2 hq0,w64 (x:=(k:Int) + 1) (by omega) (by omega),w64 (by omega) (by omega),Int.pow_succ,Int.ediv_ediv_of_nonneg (Int.le_of_lt hp)]
  rfl) (by
  unfold qTL3
  rw [hs,if_neg (by simp only [decide_eq_true_eq];omega)])
 simpa using this
theorem rTileF_ok (r:RPic) (rM:Nat → Int) (rN:Nat → Int) (rS:Nat → Int) (rC:List Man) (v:Place) (x:Int) (w:∀ j,rng 256 (rM j)) (hv:PlaceOk v) (hx:0 ≤ x ∧ x < 16):FnSpec Try.prog 59 1005 [pt 1000,Place.enc v,.int .i64 x] [(1000,(RPic.bl r (sl 1001 16384 1) (sl 1002 256 1) (sl 1004 (List.length rC) 4) (sl 1003 61440 1) true)),(1001,iB 16384 rM true),(1002,iB 256 rN true),(1003,iB 61440 rS true),(1004,mB rC true)] (.tuple ⟨[.int .i64 ((rTileF r rM rN rS rC v x).1),.int .i64 ((rTileF r rM rN rS rC v x).2)]⟩) []:=by
 obtain ⟨hp,hd0,hd1⟩:=tilePl_ok hv hx
 have hn:=name_in hp
 obtain ⟨hs0,hs1,n,hn6,hsn⟩:=shade_by hp
 have ej:qTJ1 x v = tilePl v x:=j1_eq hx
 have wn:=rPeek_rng (r:=r) (N:=rN) (S:=rS) (C:=rC) w (rName (tilePl v x).2)
 have ws:=rPeek_rng (r:=r) (N:=rN) (S:=rS) (C:=rC) w (rShade (tilePl v x).2).1
 have e2:=j2_eq (r:=r) (v:=v) (x:=x) wn hp.r
 have hf:=from_ok (c:=r.Control) wn hp.r
 have hl:=halves r rM rN rS rC v x n hn6 (by rw [ej];exact hsn) (rPeek r rM rN rS rC (rShade (tilePl v x).2).1) ws.1 ws.2
 have e3:i64.wrap (tileFrom r.Control (rPeek r rM rN rS rC (rName (tilePl v x).2)) (tilePl v x).2.Row + 8) = tileFrom r.Control (rPeek r rM rN rS rC (rName (tilePl v x).2)) (tilePl v x).2.Row + 8:=w64 (by omega) (by omega)
 have hq0:0 ≤ rPeek r rM rN rS rC (rShade (tilePl v x).2).1 / 2 ^ n:=Int.ediv_nonneg ws.1 (Int.le_of_lt (Int.pow_pos (by decide)))
 have p:=rTile_p1 r rM rN rS rC v x (by rw [ej];exact hn.1) (by rw [ej];exact hs0) (n + 1) _ (by rw [ej];exact hl) (by rw [ej,e2];omega) (by rw [ej,e2,e3];omega) (by rw [ej];exact ⟨hd0,hd1⟩)
 rw [ej,e2,e3,rw256 (w _),rw256 (w _),at8_eq _ (by omega),tm_e 4 hq0] at p
 have e:rTileF r rM rN rS rC v x = _:=rfl
 unfold rTileF
 rw [hsn]
 exact p
end Go.Proofs.Ytgnhhnmpeklciaa
namespace Go.Proofs.Ytgnhhnmpeklciaa
open Go VX IntWalk
theorem pl_at {c l a d r:Int} (h:Parts c l a d r):pl (at_ c l a d r) = ⟨c,l,a,d,r⟩:=by
 have h4:=at_r h
 obtain ⟨_,_,_,_,_,_,_,_,_,_⟩:=id h
 exact Place.ext' (by simp only [pl];exact at_c h) (by simp only [pl];exact at_l h) (by simp only [pl];exact at_a h) (by simp only [pl];exact at_d h) (by simp only [pl];omega)
theorem pl_ok (V:Int) (h0:0 ≤ V) (h1:V < 32768):PlaceOk (pl V):=by
 refine ⟨?_,?_,?_,?_,?_⟩ <;> simp only [pl] <;> omega
theorem down_gen {c l a d r T X:Int} {W:Bool} (h:Parts c l a d r) (hT:0 ≤ T ∧ T < 32768) (hX:0 ≤ X ∧ X < 8) :
  sDown ⟨at_ c l a d r,T,X,W⟩ = ⟨if r < 7 then at_ c l a d (r + 1) else if l = 29 then at_ c 0 a (1 - d) 0 else if l = 31 then at_ c 0 a d 0 else at_ c (l + 1) a d 0,T,X,W⟩:=by
 have hb:=at_b h
 unfold sDown
 rw [right_good _ (good_at h hT hX)]
 rw [bAndNot_eq (a:=at_ c l a d r) (m:=28672) (k:=.u16) rfl (by omega) (Int.lt_of_lt_of_le (b:=32768) (by omega) (by decide)) (by decide) (by decide)]
 simp (disch:=omega) only [and_u16_28672]
 have hr8:at_ c l a d r / 4096 % 8 = r:=by
  rw [at_r h];obtain ⟨_,_,_,_,_,_,_,_,_,_⟩:=h;omega
 rw [hr8]
 obtain ⟨_,_,_,_,_,_,_,_,_,_⟩:=h
 have e:at_ c l a d r - r * 4096 = c + 32 * l + 1024 * a + 2048 * d:=by unfold at_;omega
 rw [e]
 have el:(c + 32 * l + 1024 * a + 2048 * d) / 32 % 32 = l:=by omega
 rw [bAndNot_eq (k:=.u16) rfl (by omega) (Int.lt_of_lt_of_le (b:=32768) (by omega) (by decide)) (by decide) (by decide)]
 simp (disch:=omega) only [and_u16_992,beq_iff_eq,bne_iff_ne,ne_eq]
 rw [el]
 have ed:(c + 32 * l + 1024 * a + 2048 * d - l * 32) / 2048 % 2 = d:=by omega
 rw [xor_u16_2048 (by omega) (by omega),ed]
 by_cases h7:r < 7
 ·rw [if_pos (by omega),if_pos h7]
  simp (disch:=omega) only [u16_in]
  simp only [Scroll.mk.injEq,true_and,and_true]
  unfold at_;omega
 ·rw [if_neg (by omega),if_neg h7]
  by_cases h29:l = 29
  ·rw [if_pos (by omega),if_pos h29]
   simp only [Scroll.mk.injEq,true_and,and_true]
   unfold at_;omega
  ·rw [if_neg (by omega),if_neg h29]
   by_cases h31:l = 31
   ·rw [if_pos (by omega),if_pos h31]
    simp only [Scroll.mk.injEq,true_and,and_true]
    unfold at_;omega
   ·rw [if_neg (by omega),if_neg h31]
    simp (disch:=omega) only [u16_in]
    simp only [Scroll.mk.injEq,true_and,and_true]
    unfold at_;omega
section
variable {s:Scroll} {q:RScroll} (h:Sc s q)
include h
theorem sc_right:Sc (sRight s) (rRight q):=by
 obtain ⟨h1,h2,h3⟩:=sc_bounds h
 rw [h.eq]
 obtain ⟨sV,sT,sX,sW⟩:=s
 simp only at h1 h2 h3 ⊢
 obtain ⟨c,l,a,d,r,hp,rfl⟩:=of_parts sV h1.1 h1.2
 obtain ⟨c',a',hp',e,hc⟩:=right_at (T:=sT) (X:=sX) (W:=sW) hp h2 h3
 rw [e,pl_at hp]
 refine ⟨good_at hp' h2 h3,?_,?_,?_,?_⟩
 ·rw [pl_at hp']
  unfold rRight
  obtain ⟨_,_,_,_,_,_,_,_,_,_⟩:=hp
  obtain ⟨_,_,_,_,_,_,_,_,_,_⟩:=hp'
  simp only
  rw [w64 (by omega) (by omega),w64 (by omega) (by omega)]
  by_cases k:c + 1 = 32
  ·rw [if_pos (by rw [k];rfl)]
   exact Place.ext' (by simp only;omega) rfl (by simp only;omega) rfl rfl
  ·rw [if_neg (by simpa using k)]
   exact Place.ext' (by simp only;omega) rfl (by simp only;omega) rfl rfl
 all_goals (unfold rRight;split <;> rfl)
theorem sc_down:Sc (sDown s) (rDown q):=by
 obtain ⟨h1,h2,h3⟩:=sc_bounds h
 rw [h.eq]
 obtain ⟨sV,sT,sX,sW⟩:=s
 simp only at h1 h2 h3 ⊢
 obtain ⟨c,l,a,d,r,hp,rfl⟩:=of_parts sV h1.1 h1.2
 rw [down_gen hp h2 h3,pl_at hp]
 obtain ⟨_,_,_,_,_,_,_,_,_,_⟩:=id hp
 unfold rDown
 simp only
 rw [w64 (x:=r + 1) (by omega) (by omega),w64 (x:=l + 1) (by omega) (by omega),w64 (x:=1 - d) (by omega) (by omega)]
 by_cases k7:r < 7
 ·rw [if_pos k7,if_pos (show (decide (r + 1 < 8)) = true from decide_eq_true (by omega))]
  have hp':Parts c l a d (r + 1):=by constructor <;> omega
  exact ⟨good_at hp' h2 h3,by rw [pl_at hp'],rfl,rfl,rfl⟩
 ·rw [if_neg k7,if_neg (show ¬ (decide (r + 1 < 8)) = true by simp;omega)]
  by_cases k29:l = 29
  ·rw [if_pos k29,if_pos (show (l + 1 == 30) = true by rw [k29];rfl)]
   have hp':Parts c 0 a (1 - d) 0:=by constructor <;> omega
   exact ⟨good_at hp' h2 h3,by rw [pl_at hp'],rfl,rfl,rfl⟩
  ·rw [if_neg k29,if_neg (show ¬ (l + 1 == 30) = true by simp;omega)]
   by_cases k31:l = 31
   ·rw [if_pos k31,if_pos (show (l + 1 == 32) = true by rw [k31];rfl)]
    have hp':Parts c 0 a d 0:=by constructor <;> omega
    exact ⟨good_at hp' h2 h3,by rw [pl_at hp'],rfl,rfl,rfl⟩
   ·rw [if_neg k31,if_neg (show ¬ (l + 1 == 32) = true by simp;omega)]
    have hp':Parts c (l + 1) a d 0:=by constructor <;> omega
    exact ⟨good_at hp' h2 h3,by rw [pl_at hp'],rfl,rfl,rfl⟩
theorem sc_line:Sc (sLine s) (rLine q):=by
 obtain ⟨h1,h2,h3⟩:=sc_bounds h
 rw [h.eq]
 obtain ⟨sV,sT,sX,sW⟩:=s
 simp only at h1 h2 h3 ⊢
 obtain ⟨c,l,a,d,r,hp,rfl⟩:=of_parts sV h1.1 h1.2
 obtain ⟨c',l',a',d',r',hp',rfl⟩:=of_parts sT h2.1 h2.2
 rw [line_at hp hp' h3,pl_at hp,pl_at hp']
 obtain ⟨_,_,_,_,_,_,_,_,_,_⟩:=id hp
 obtain ⟨_,_,_,_,_,_,_,_,_,_⟩:=id hp'
 have hp2:Parts c' l a' d r:=by constructor <;> omega
 exact ⟨good_at hp2 h2 h3,by rw [pl_at hp2];rfl,by rw [pl_at hp'];rfl,rfl,rfl⟩
theorem sc_top:Sc (sTop s) (rTop q):=by
 obtain ⟨h1,h2,h3⟩:=sc_bounds h
 rw [h.eq]
 obtain ⟨sV,sT,sX,sW⟩:=s
 simp only at h1 h2 h3 ⊢
 obtain ⟨c,l,a,d,r,hp,rfl⟩:=of_parts sV h1.1 h1.2
 obtain ⟨c',l',a',d',r',hp',rfl⟩:=of_parts sT h2.1 h2.2
 rw [top_at hp hp' h3,pl_at hp,pl_at hp']
 obtain ⟨_,_,_,_,_,_,_,_,_,_⟩:=id hp
 obtain ⟨_,_,_,_,_,_,_,_,_,_⟩:=id hp'
 have hp2:Parts c l' a d' r':=by constructor <;> omega
 exact ⟨good_at hp2 h2 h3,by rw [pl_at hp2];rfl,by rw [pl_at hp'];rfl,rfl,rfl⟩
theorem sc_name:rName q.V = sName s:=by
 obtain ⟨h1,h2,h3⟩:=sc_bounds h
 rw [h.V,sName_eq s h1.1 (by omega),rName_eq _ (by simp only [pl];omega) (by simp only [pl];omega) (by simp only [pl];omega) (by simp only [pl];omega)]
 simp only [pl];omega
theorem sc_shade:rShade q.V = sShade s:=by
 obtain ⟨h1,h2,h3⟩:=sc_bounds h
 rw [h.V,sShade_eq s h1.1 (by omega),rShade_eq _ (by simp only [pl];omega) (by simp only [pl];omega) (by simp only [pl];omega) (by simp only [pl];omega)]
 simp only [pl]
 exact Prod.ext (by simp only;omega) (by simp only;omega)
theorem sc_place:PlaceOk q.V:=by
 obtain ⟨h1,h2,h3⟩:=sc_bounds h
 rw [h.V];exact pl_ok _ h1.1 h1.2
end
end Go.Proofs.Ytgnhhnmpeklciaa
namespace Go.Proofs.Ytgnhhnmpeklciaa.VX
open Go
inductive VW:Value → Value → Prop
 | refl (v:Value):VW v v
 | nil (z:Nat) (l:List Value) (hs:l.all solid = true):VW (.slice none 0 0) (.func (.yield z) ⟨l⟩ ⟨[.bool false]⟩)
theorem VW.rel {μ:Mu} {v v' r:Value} (h:VW v v') (hr:VRel μ v r):VRel μ v' r:=by
 cases h with
 | refl => exact hr
 | nil z l hs =>
  have e:=VRel.eq_of_scalar (v:=.slice none 0 0) rfl hr
  subst e
  exact .lst z l false hs ⟨none,0,0,rfl⟩ (fun h => by cases h)
inductive SW:List Seg → List Seg → Prop
 | nil:SW [] []
 | cons (s:Seg) {a b:List Seg} (h:SW a b):SW (s :: a) (s :: b)
 | one {v v':Value} (hv:VW v v') {a b:List Seg} (h:SW a b):SW (.one v :: a) (.one v' :: b)
theorem SW.refl:∀ l:List Seg,SW l l
 | [] => .nil
 | s :: l => .cons s (SW.refl l)
theorem SW.size {a b:List Seg} (h:SW a b):segsSize a = segsSize b:=by
 induction h with
 | nil => rfl
 | cons s h ih => simp only [segsSize,ih]
 | one hv h ih => simp only [segsSize,Seg.size,ih]
theorem SW.get {a b:List Seg} (h:SW a b):∀ (o:Nat) (u:Value),segsGet? b o = some u → ∃ v,segsGet? a o = some v ∧ VW v u:=by
 induction h with
 | nil => intro o u e;cases e
 | cons s h ih =>
  intro o u e
  simp only [segsGet?] at e ⊢
  cases c:Nat.blt o s.size <;> rw [c] at e
  ·exact ih _ _ e
  ·exact ⟨u,e,.refl u⟩
 | one hv h ih =>
  rename_i v v' a b
  intro o u e
  simp only [segsGet?,Seg.size] at e ⊢
  cases c:Nat.blt o 1 <;> rw [c] at e
  ·exact ih _ _ e
  ·simp only [cond_true,Seg.get?] at e ⊢
   cases d:Nat.beq o 0 <;> rw [d] at e
   ·cases e
   ·simp only [cond_true,Option.some.injEq] at e ⊢
    subst e
    exact ⟨v,rfl,hv⟩
inductive HW:Heap → Heap → Prop
 | nil:HW [] []
 | cons (i:Nat) {B B':Blk} (hs:SW B.segs B'.segs) (ht:B.ty = B'.ty) (hr:B.ro = B'.ro) {a b:Heap} (h:HW a b):HW ((i,B) :: a) ((i,B') :: b)
theorem HW.refl:∀ h:Heap,HW h h
 | [] => .nil
 | (i,B) :: r => .cons i (SW.refl _) rfl rfl (HW.refl r)
theorem HW.lk {a b:Heap} (h:HW a b):∀ (i:Nat) (B':Blk),VX.lk b i = some B' → ∃ B,VX.lk a i = some B ∧ SW B.segs B'.segs ∧ B.ty = B'.ty ∧ B.ro = B'.ro:=by
 induction h with
 | nil => intro i B' e;cases e
 | cons j hs ht hr h ih =>
  intro i B' e
  simp only [VX.lk] at e ⊢
  cases c:Nat.beq i j <;> rw [c] at e
  ·exact ih i B' e
  ·simp only [cond_true,Option.some.injEq] at e ⊢
   subst e
   exact ⟨_,rfl,hs,ht,hr⟩
end Go.Proofs.Ytgnhhnmpeklciaa.VX
namespace Go.Proofs.Ytgnhhnmpeklciaa.VX
open Go
theorem HW.rep {μ:Mu} {H H2:Heap} {w:World} (hw:HW H H2) (rep:Rep μ (VX.lk H) w):Rep μ (VX.lk H2) w:=by
 refine ⟨?_,?_,rep.bound,?_,rep.frz,?_⟩
 ·intro i B' hB' hne
  obtain ⟨B,hB,hs,ht,hro⟩:=hw.lk i B' hB'
  obtain ⟨b,hb,cs,t,fr,ho,h1,h2⟩:=rep.blk i B hB (by unfold Blk.size at hne ⊢;rw [hs.size];exact hne)
  refine ⟨b,hb,cs,t,fr,ho,fun h => ?_,fun off u hu => ?_⟩
  ·obtain ⟨q1,q2,q3⟩:=h1 (hro.trans h)
   exact ⟨q1.trans ht,q2,by unfold Blk.size;rw [← hs.size];exact q3⟩
  ·obtain ⟨x,hx,vw⟩:=hs.get off u hu
   obtain ⟨r,hr1,hr2⟩:=h2 off x hx
   exact ⟨r,hr1,vw.rel hr2⟩
 ·intro i j A' B' b hA' hB' hi hj hij
  obtain ⟨A,hA,_,_,hra⟩:=hw.lk i A' hA'
  obtain ⟨B,hB,_,_,hrb⟩:=hw.lk j B' hB'
  obtain ⟨q1,q2⟩:=rep.apart i j A B b hA hB hi hj hij
  exact ⟨hra.symm.trans q1,hrb.symm.trans q2⟩
 ·intro i B' b hB' hro hb
  obtain ⟨B,hB,_,_,hr2⟩:=hw.lk i B' hB'
  exact rep.size i B b hB (hr2.trans hro) hb
 ·intro i B' b hB' hro hb
  obtain ⟨B,hB,_,_,hr2⟩:=hw.lk i B' hB'
  exact rep.nofz i B b hB (hr2.trans hro) hb
theorem HW.own {μ:Mu} {H H2:Heap} (hw:HW H H2) {b:Nat} (h:Own μ (VX.lk H2) b):Own μ (VX.lk H) b:=by
 obtain ⟨i,B',hB',hro,hm⟩:=h
 obtain ⟨B,hB,_,_,hr2⟩:=hw.lk i B' hB'
 exact ⟨i,B,hB,hr2.trans hro,hm⟩
theorem Runs.preW {P:Program} {N:Nat} {c:Code} {T T':Tm} {H H2 H':Heap} {n n':Nat} {e:Ex} (hw:HW H H2) (r:Runs P N c T H2 n e T' H' n'):Runs P N c T H n e T' H' n':=by
 refine ⟨r.1,fun μ a w hg ht hr hd hf Q hQ => r.2 μ a w hg ht (hw.rep hr) hd hf Q fun μ' a' w' hle hs hf' ht' hr' hd' hk => hQ μ' a' w' hle hs hf' ht' hr' hd' ?_⟩
 refine ⟨hk.os,hk.tape,hk.output,hk.size,fun b hb ho => hk.same b hb fun h => ho (hw.own h),?_,hk.ksz,hk.kfz,?_⟩
 ·intro i B b hB hb hlt
  obtain ⟨i0,B0,h0,m0,r0⟩:=hk.old i B b hB hb hlt
  obtain ⟨B1,h1,_,_,hr2⟩:=hw.lk i0 B0 h0
  exact ⟨i0,B1,h1,m0,fun h => hr2.trans (r0 h)⟩
 ·intro b cs h
  rcases hk.nfz b cs h with h | h | h
  ·exact .inl h
  ·exact .inr (.inl (hw.own h))
  ·exact .inr (.inr h)
end Go.Proofs.Ytgnhhnmpeklciaa.VX
namespace Go.Proofs.Ytgnhhnmpeklciaa
open Go VX
open Go.IntKind (i64 u8 u16)
def qDJ1 (r:RPic) (rC:List Man) (x:Int):Bool:=
 if (rBit r.Mask 8) = true then
  if (decide (x > 7)) = true then
   true
  else
   (rBit r.Mask 2)
 else
  false
def qDJ1_T (r:RPic) (rC:List Man) (x:Int):Tm:=[(0,pt 1000),(1,.int .i64 x),(4,.int .i64 0),(5,.int .i64 0),(6,.int .i64 0),(7,pt 1005)]
def qDJ1_H (r:RPic) (rC:List Man) (x:Int):Heap:=[(1000,⟨[.one (sl 1001 16384 1),.one (sl 1002 256 1),.one (.int .i64 r.At),.one (.int .i64 r.S.V.Column),.one (.int .i64 r.S.V.Line),.one (.int .i64 r.S.V.Across),.one (.int .i64 r.S.V.Down),.one (.int .i64 r.S.V.Row),.one (.int .i64 r.S.T.Column),.one (.int .i64 r.S.T.Line),.one (.int .i64 r.S.T.Across),.one (.int .i64 r.S.T.Down),.one (.int .i64 r.S.T.Row),.one (.int .i64 r.S.X),.one (.bool r.S.W),.one (.int .i64 r.Control),.one (.int .i64 r.Mask),.one (.bool r.Blank),.one (.bool r.Hit),.one (.bool r.Many),.one (.int .i64 r.Waits),.one (.int .i64 r.Bus),.one (.bool r.Upright),.one (.int .i64 r.Line),.one (.int .i64 r.Dot),.one (.int .i64 r.Begun),.one (.int .i64 r.Done),.one (sl 1004 (List.length rC) 4),.one (sl 1003 61440 1)],59,false⟩)]
def qDJ1_T1 (r:RPic) (rC:List Man) (x:Int) (r_:Bool):Tm:=[(0,pt 1000),(1,.int .i64 x),(4,.int .i64 0),(5,.int .i64 0),(6,.int .i64 0),(7,pt 1005),(28,.bool r_)]
def qDJ1_H1 (r:RPic) (rC:List Man) (x:Int) (r_:Bool):Heap:=[(1000,⟨[.one (sl 1001 16384 1),.one (sl 1002 256 1),.one (.int .i64 r.At),.one (.int .i64 r.S.V.Column),.one (.int .i64 r.S.V.Line),.one (.int .i64 r.S.V.Across),.one (.int .i64 r.S.V.Down),.one (.int .i64 r.S.V.Row),.one (.int .i64 r.S.T.Column),.one (.int .i64 r.S.T.Line),.one (.int .i64 r.S.T.Across),.one (.int .i64 r.S.T.Down),.one (.int .i64 r.S.T.Row),.one (.int .i64 r.S.X),.one (.bool r.S.W),.one (.int .i64 r.Control),.one (.int .i64 r.Mask),.one (.bool r.Blank),.one (.bool r.Hit),.one (.bool r.Many),.one (.int .i64 r.Waits),.one (.int .i64 r.Bus),.one (.bool r.Upright),.one (.int .i64 r.Line),.one (.int .i64 r.Dot),.one (.int .i64 r.Begun),.one (.int .i64 r.Done),.one (sl 1004 (List.length rC) 4),.one (sl 1003 61440 1)],59,false⟩)]
theorem qDJ1_p1 (r:RPic) (rC:List Man) (x:Int) (d1:(rBit r.Mask 8) = true) (d2:(decide (x > 7)) = true):Runs Try.prog 179 (bodyOf Try.f78 [1,1,0,0]) (qDJ1_T r rC x) (qDJ1_H r rC x) 1006 .normal (qDJ1_T1 r rC x true) (qDJ1_H1 r rC x true) 1006:=by
 exact runs_of_x hG hM 400 [.call [] [] 1000 (.bool (rBit r.Mask 8)) [],.yes,.yes,.yes,.yes,.yes,.yes,.yes,.yes,.yes,.yes,.yes] (J (rBit_ok r.Mask 8 (by decide:(8:Int) ≠ 0)) (J d1 (J d1 (J d1 (J d2 (J d2 (J d2 (J d2 (J d2 (J d1 (J d2 (J d1 trivial)))))))))))) (by kernel_rfl)
theorem qDJ1_p2 (r:RPic) (rC:List Man) (x:Int) (d1:(rBit r.Mask 8) = true) (d2:(decide (x > 7)) = false):Runs Try.prog 179 (bodyOf Try.f78 [1,1,0,0]) (qDJ1_T r rC x) (qDJ1_H r rC x) 1006 .normal (qDJ1_T1 r rC x (rBit r.Mask 2)) (qDJ1_H1 r rC x (rBit r.Mask 2)) 1006:=by
 exact runs_of_x hG hM 400 [.call [] [] 1000 (.bool (rBit r.Mask 8)) [],.yes,.yes,.yes,.no,.no,.no,.no,.no,.call [] [] 1000 (.bool (rBit r.Mask 2)) [],.yes,.no,.yes] (J (rBit_ok r.Mask 8 (by decide:(8:Int) ≠ 0)) (J d1 (J d1 (J d1 (J d2 (J d2 (J d2 (J d2 (J d2 (J (rBit_ok r.Mask 2 (by decide:(2:Int) ≠ 0)) (J d1 (J d2 (J d1 trivial))))))))))))) (by kernel_rfl)
theorem qDJ1_p3 (r:RPic) (rC:List Man) (x:Int) (d1:(rBit r.Mask 8) = false):Runs Try.prog 179 (bodyOf Try.f78 [1,1,0,0]) (qDJ1_T r rC x) (qDJ1_H r rC x) 1006 .normal (qDJ1_T1 r rC x false) (qDJ1_H1 r rC x false) 1006:=by
 exact runs_of_x hG hM 400 [.call [] [] 1000 (.bool (rBit r.Mask 8)) [],.no,.no,.no,.no,.no] (J (rBit_ok r.Mask 8 (by decide:(8:Int) ≠ 0)) (J d1 (J d1 (J d1 (J d1 (J d1 trivial)))))) (by kernel_rfl)
theorem qDJ1_runs (r:RPic) (rC:List Man) (x:Int):Runs Try.prog 179 (bodyOf Try.f78 [1,1,0,0]) (qDJ1_T r rC x) (qDJ1_H r rC x) 1006 .normal (qDJ1_T1 r rC x (qDJ1 r rC x)) (qDJ1_H1 r rC x (qDJ1 r rC x)) 1006:=by
 rcases bt (rBit r.Mask 8) with d1 | d1
 ·
  rcases bt (decide (x > 7)) with d2 | d2
  ·
   rw [show qDJ1 r rC x = true from by unfold qDJ1;rw [if_pos d1,if_pos d2]]
   exact qDJ1_p1 r rC x d1 d2
  ·
   rw [show qDJ1 r rC x = (rBit r.Mask 2) from by unfold qDJ1;rw [if_pos d1,if_neg (nt d2)]]
   exact qDJ1_p2 r rC x d1 d2
 ·
  rw [show qDJ1 r rC x = false from by unfold qDJ1;rw [if_neg (nt d1)]]
  exact qDJ1_p3 r rC x d1
def qDJ2 (r:RPic) (rM:Nat → Int) (rN:Nat → Int) (rS:Nat → Int) (rC:List Man) (x:Int):Int × Int:=
 if (qDJ1 r rC x) = true then
  ((rTileF r rM rN rS rC r.S.V (i64.wrap ((Int.tmod x 8) + r.S.X))).1,(rTileF r rM rN rS rC r.S.V (i64.wrap ((Int.tmod x 8) + r.S.X))).2)
 else
  (0,0)
def qDJ2_T (r:RPic) (rM:Nat → Int) (rN:Nat → Int) (rS:Nat → Int) (rC:List Man) (x:Int):Tm:=[(0,pt 1000),(1,.int .i64 x),(4,.int .i64 0),(5,.int .i64 0),(6,.int .i64 0),(7,pt 1005),(28,.bool (qDJ1 r rC x))]
def qDJ2_H (r:RPic) (rM:Nat → Int) (rN:Nat → Int) (rS:Nat → Int) (rC:List Man) (x:Int):Heap:=[(1000,⟨[.one (sl 1001 16384 1),.one (sl 1002 256 1),.one (.int .i64 r.At),.one (.int .i64 r.S.V.Column),.one (.int .i64 r.S.V.Line),.one (.int .i64 r.S.V.Across),.one (.int .i64 r.S.V.Down),.one (.int .i64 r.S.V.Row),.one (.int .i64 r.S.T.Column),.one (.int .i64 r.S.T.Line),.one (.int .i64 r.S.T.Across),.one (.int .i64 r.S.T.Down),.one (.int .i64 r.S.T.Row),.one (.int .i64 r.S.X),.one (.bool r.S.W),.one (.int .i64 r.Control),.one (.int .i64 r.Mask),.one (.bool r.Blank),.one (.bool r.Hit),.one (.bool r.Many),.one (.int .i64 r.Waits),.one (.int .i64 r.Bus),.one (.bool r.Upright),.one (.int .i64 r.Line),.one (.int .i64 r.Dot),.one (.int .i64 r.Begun),.one (.int .i64 r.Done),.one (sl 1004 (List.length rC) 4),.one (sl 1003 61440 1)],59,false⟩),(1001,iB 16384 rM false),(1002,iB 256 rN false),(1003,iB 61440 rS false),(1004,mB rC false)]
def qDJ2_T1 (r:RPic) (rM:Nat → Int) (rN:Nat → Int) (rS:Nat → Int) (rC:List Man) (x:Int) (r_:Int × Int):Tm:=[(0,pt 1000),(1,.int .i64 x),(4,.int .i64 r_.1),(5,.int .i64 r_.2),(6,.int .i64 0),(7,pt 1005)]
def qDJ2_H1 (r:RPic) (rM:Nat → Int) (rN:Nat → Int) (rS:Nat → Int) (rC:List Man) (x:Int) (r_:Int × Int):Heap:=[(1000,⟨[.one (sl 1001 16384 1),.one (sl 1002 256 1),.one (.int .i64 r.At),.one (.int .i64 r.S.V.Column),.one (.int .i64 r.S.V.Line),.one (.int .i64 r.S.V.Across),.one (.int .i64 r.S.V.Down),.one (.int .i64 r.S.V.Row),.one (.int .i64 r.S.T.Column),.one (.int .i64 r.S.T.Line),.one (.int .i64 r.S.T.Across),.one (.int .i64 r.S.T.Down),.one (.int .i64 r.S.T.Row),.one (.int .i64 r.S.X),.one (.bool r.S.W),.one (.int .i64 r.Control),.one (.int .i64 r.Mask),.one (.bool r.Blank),.one (.bool r.Hit),.one (.bool r.Many),.one (.int .i64 r.Waits),.one (.int .i64 r.Bus),.one (.bool r.Upright),.one (.int .i64 r.Line),.one (.int .i64 r.Dot),.one (.int .i64 r.Begun),.one (.int .i64 r.Done),.one (sl 1004 (List.length rC) 4),.one (sl 1003 61440 1)],59,false⟩),(1001,iB 16384 rM false),(1002,iB 256 rN false),(1003,iB 61440 rS false),(1004,mB rC false)]
theorem qDJ2_p1 (r:RPic) (rM:Nat → Int) (rN:Nat → Int) (rS:Nat → Int) (rC:List Man) (x:Int) (v1d:∀ j,rng 256 (rM j)) (v2d:PlaceOk r.S.V) (v3d:0 ≤ (i64.wrap ((Int.tmod x 8) + r.S.X)) ∧ (i64.wrap ((Int.tmod x 8) + r.S.X)) < 16) (d1:(qDJ1 r rC x) = true):Runs Try.prog 179 (bodyOf Try.f78 [1,1,0,1]) (qDJ2_T r rM rN rS rC x) (qDJ2_H r rM rN rS rC x) 1006 .normal (qDJ2_T1 r rM rN rS rC x ((rTileF r rM rN rS rC r.S.V (i64.wrap ((Int.tmod x 8) + r.S.X))).1,(rTileF r rM rN rS rC r.S.V (i64.wrap ((Int.tmod x 8) + r.S.X))).2)) (qDJ2_H1 r rM rN rS rC x ((rTileF r rM rN rS rC r.S.V (i64.wrap ((Int.tmod x 8) + r.S.X))).1,(rTileF r rM rN rS rC r.S.V (i64.wrap ((Int.tmod x 8) + r.S.X))).2)) 1006:=by
 exact runs_of_x hG hM 400 [.yes,.callr [(1000,1000),(1001,1001),(1002,1002),(1003,1003),(1004,1004)] [1000,1001,1002,1003,1004] [] 1005 (.tuple ⟨[.int .i64 ((rTileF r rM rN rS rC r.S.V (i64.wrap ((Int.tmod x 8) + r.S.X))).1),.int .i64 ((rTileF r rM rN rS rC r.S.V (i64.wrap ((Int.tmod x 8) + r.S.X))).2)]⟩) []] (J d1 (J (by decide:((8:Int) ≠ 0)) (J (rTileF_ok r rM rN rS rC r.S.V (i64.wrap ((Int.tmod x 8) + r.S.X)) v1d v2d v3d) trivial))) (by kernel_rfl)
theorem qDJ2_p2 (r:RPic) (rM:Nat → Int) (rN:Nat → Int) (rS:Nat → Int) (rC:List Man) (x:Int) (v1d:∀ j,rng 256 (rM j)) (v2d:PlaceOk r.S.V) (v3d:0 ≤ (i64.wrap ((Int.tmod x 8) + r.S.X)) ∧ (i64.wrap ((Int.tmod x 8) + r.S.X)) < 16) (d1:(qDJ1 r rC x) = false):Runs Try.prog 179 (bodyOf Try.f78 [1,1,0,1]) (qDJ2_T r rM rN rS rC x) (qDJ2_H r rM rN rS rC x) 1006 .normal (qDJ2_T1 r rM rN rS rC x (0,0)) (qDJ2_H1 r rM rN rS rC x (0,0)) 1006:=by
 exact runs_of_x hG hM 400 [.no] (J d1 trivial) (by kernel_rfl)
theorem qDJ2_runs (r:RPic) (rM:Nat → Int) (rN:Nat → Int) (rS:Nat → Int) (rC:List Man) (x:Int) (v1d:∀ j,rng 256 (rM j)) (v2d:PlaceOk r.S.V) (v3d:0 ≤ (i64.wrap ((Int.tmod x 8) + r.S.X)) ∧ (i64.wrap ((Int.tmod x 8) + r.S.X)) < 16):Runs Try.prog 179 (bodyOf Try.f78 [1,1,0,1]) (qDJ2_T r rM rN rS rC x) (qDJ2_H r rM rN rS rC x) 1006 .normal (qDJ2_T1 r rM rN rS rC x (qDJ2 r rM rN rS rC x)) (qDJ2_H1 r rM rN rS rC x (qDJ2 r rM rN rS rC x)) 1006:=by
 rcases bt (qDJ1 r rC x) with d1 | d1
 ·
  rw [show qDJ2 r rM rN rS rC x = ((rTileF r rM rN rS rC r.S.V (i64.wrap ((Int.tmod x 8) + r.S.X))).1,(rTileF r rM rN rS rC r.S.V (i64.wrap ((Int.tmod x 8) + r.S.X))).2) from by unfold qDJ2;rw [if_pos d1]]
  exact qDJ2_p1 r rM rN rS rC x v1d v2d v3d d1
 ·
  rw [show qDJ2 r rM rN rS rC x = (0,0) from by unfold qDJ2;rw [if_neg (nt d1)]]
  exact qDJ2_p2 r rM rN rS rC x v1d v2d v3d d1
def qDJ3 (r:RPic) (rC:List Man) (x:Int) (xd:Int × Int):Bool:=
 if (rBit r.Mask 16) = true then
  if (decide (x > 7)) = true then
   true
  else
   (rBit r.Mask 4)
 else
  false
def qDJ3_T (r:RPic) (rC:List Man) (x:Int) (xd:Int × Int):Tm:=[(0,pt 1000),(1,.int .i64 x),(4,.int .i64 xd.1),(5,.int .i64 xd.2),(6,.int .i64 0),(7,pt 1005)]
def qDJ3_H (r:RPic) (rC:List Man) (x:Int) (xd:Int × Int):Heap:=[(1000,⟨[.one (sl 1001 16384 1),.one (sl 1002 256 1),.one (.int .i64 r.At),.one (.int .i64 r.S.V.Column),.one (.int .i64 r.S.V.Line),.one (.int .i64 r.S.V.Across),.one (.int .i64 r.S.V.Down),.one (.int .i64 r.S.V.Row),.one (.int .i64 r.S.T.Column),.one (.int .i64 r.S.T.Line),.one (.int .i64 r.S.T.Across),.one (.int .i64 r.S.T.Down),.one (.int .i64 r.S.T.Row),.one (.int .i64 r.S.X),.one (.bool r.S.W),.one (.int .i64 r.Control),.one (.int .i64 r.Mask),.one (.bool r.Blank),.one (.bool r.Hit),.one (.bool r.Many),.one (.int .i64 r.Waits),.one (.int .i64 r.Bus),.one (.bool r.Upright),.one (.int .i64 r.Line),.one (.int .i64 r.Dot),.one (.int .i64 r.Begun),.one (.int .i64 r.Done),.one (sl 1004 (List.length rC) 4),.one (sl 1003 61440 1)],59,false⟩)]
def qDJ3_T1 (r:RPic) (rC:List Man) (x:Int) (xd:Int × Int) (r_:Bool):Tm:=[(0,pt 1000),(1,.int .i64 x),(4,.int .i64 xd.1),(5,.int .i64 xd.2),(6,.int .i64 0),(7,pt 1005),(62,.bool r_)]
def qDJ3_H1 (r:RPic) (rC:List Man) (x:Int) (xd:Int × Int) (r_:Bool):Heap:=[(1000,⟨[.one (sl 1001 16384 1),.one (sl 1002 256 1),.one (.int .i64 r.At),.one (.int .i64 r.S.V.Column),.one (.int .i64 r.S.V.Line),.one (.int .i64 r.S.V.Across),.one (.int .i64 r.S.V.Down),.one (.int .i64 r.S.V.Row),.one (.int .i64 r.S.T.Column),.one (.int .i64 r.S.T.Line),.one (.int .i64 r.S.T.Across),.one (.int .i64 r.S.T.Down),.one (.int .i64 r.S.T.Row),.one (.int .i64 r.S.X),.one (.bool r.S.W),.one (.int .i64 r.Control),.one (.int .i64 r.Mask),.one (.bool r.Blank),.one (.bool r.Hit),.one (.bool r.Many),.one (.int .i64 r.Waits),.one (.int .i64 r.Bus),.one (.bool r.Upright),.one (.int .i64 r.Line),.one (.int .i64 r.Dot),.one (.int .i64 r.Begun),.one (.int .i64 r.Done),.one (sl 1004 (List.length rC) 4),.one (sl 1003 61440 1)],59,false⟩)]
theorem qDJ3_p1 (r:RPic) (rC:List Man) (x:Int) (xd:Int × Int) (d1:(rBit r.Mask 16) = true) (d2:(decide (x > 7)) = true):Runs Try.prog 179 (bodyOf Try.f78 [1,1,1,0,0]) (qDJ3_T r rC x xd) (qDJ3_H r rC x xd) 1006 .normal (qDJ3_T1 r rC x xd true) (qDJ3_H1 r rC x xd true) 1006:=by
 exact runs_of_x hG hM 400 [.call [] [] 1000 (.bool (rBit r.Mask 16)) [],.yes,.yes,.yes,.yes,.yes,.yes,.yes,.yes,.yes,.yes,.yes] (J (rBit_ok r.Mask 16 (by decide:(16:Int) ≠ 0)) (J d1 (J d1 (J d1 (J d2 (J d2 (J d2 (J d2 (J d2 (J d1 (J d2 (J d1 trivial)))))))))))) (by kernel_rfl)
theorem qDJ3_p2 (r:RPic) (rC:List Man) (x:Int) (xd:Int × Int) (d1:(rBit r.Mask 16) = true) (d2:(decide (x > 7)) = false):Runs Try.prog 179 (bodyOf Try.f78 [1,1,1,0,0]) (qDJ3_T r rC x xd) (qDJ3_H r rC x xd) 1006 .normal (qDJ3_T1 r rC x xd (rBit r.Mask 4)) (qDJ3_H1 r rC x xd (rBit r.Mask 4)) 1006:=by
 exact runs_of_x hG hM 400 [.call [] [] 1000 (.bool (rBit r.Mask 16)) [],.yes,.yes,.yes,.no,.no,.no,.no,.no,.call [] [] 1000 (.bool (rBit r.Mask 4)) [],.yes,.no,.yes] (J (rBit_ok r.Mask 16 (by decide:(16:Int) ≠ 0)) (J d1 (J d1 (J d1 (J d2 (J d2 (J d2 (J d2 (J d2 (J (rBit_ok r.Mask 4 (by decide:(4:Int) ≠ 0)) (J d1 (J d2 (J d1 trivial))))))))))))) (by kernel_rfl)
theorem qDJ3_p3 (r:RPic) (rC:List Man) (x:Int) (xd:Int × Int) (d1:(rBit r.Mask 16) = false):Runs Try.prog 179 (bodyOf Try.f78 [1,1,1,0,0]) (qDJ3_T r rC x xd) (qDJ3_H r rC x xd) 1006 .normal (qDJ3_T1 r rC x xd false) (qDJ3_H1 r rC x xd false) 1006:=by
 exact runs_of_x hG hM 400 [.call [] [] 1000 (.bool (rBit r.Mask 16)) [],.no,.no,.no,.no,.no] (J (rBit_ok r.Mask 16 (by decide:(16:Int) ≠ 0)) (J d1 (J d1 (J d1 (J d1 (J d1 trivial)))))) (by kernel_rfl)
theorem qDJ3_runs (r:RPic) (rC:List Man) (x:Int) (xd:Int × Int):Runs Try.prog 179 (bodyOf Try.f78 [1,1,1,0,0]) (qDJ3_T r rC x xd) (qDJ3_H r rC x xd) 1006 .normal (qDJ3_T1 r rC x xd (qDJ3 r rC x xd)) (qDJ3_H1 r rC x xd (qDJ3 r rC x xd)) 1006:=by
 rcases bt (rBit r.Mask 16) with d1 | d1
 ·
  rcases bt (decide (x > 7)) with d2 | d2
  ·
   rw [show qDJ3 r rC x xd = true from by unfold qDJ3;rw [if_pos d1,if_pos d2]]
   exact qDJ3_p1 r rC x xd d1 d2
  ·
   rw [show qDJ3 r rC x xd = (rBit r.Mask 4) from by unfold qDJ3;rw [if_pos d1,if_neg (nt d2)]]
   exact qDJ3_p2 r rC x xd d1 d2
 ·
  rw [show qDJ3 r rC x xd = false from by unfold qDJ3;rw [if_neg (nt d1)]]
  exact qDJ3_p3 r rC x xd d1
def qDJ5yyyy (r:RPic) (rM:Nat → Int) (rN:Nat → Int) (rS:Nat → Int) (rC:List Man) (x:Int) (xd:Int × Int × Man) (xe:Man × Int × Bool × Bool):Int × Man:=
 if xe.2.2.2 = true then
  ((at8 ((List.getD rC (Int.toNat xd.1) Man.nil).Dots) (Int.toNat (i64.wrap (x - (List.getD rC (Int.toNat xd.1) Man.nil).X)))),({ (List.getD rC (Int.toNat xd.1) Man.nil) with Full:=true }:Man))
 else
  (xd.2.1,xe.1)
def qDJ5yyyy_T (r : RPic) (rM : Nat → Int) (rN : Nat → Int) (rS : Nat → Int) (rC : List Man) (x : Int) (xd : Int × Int × Man) (xe : Man × Int × Bool × Bool) : Tm := [(0, pt 1000), (1, .int .i64 x), (4, .int .i64 ((qDJ2 r rM rN rS rC x).1)), (5, .int .i64 ((qDJ2 r rM rN rS rC x).2)), (6, .int .i64 xd.2.1), (7, pt 1005), (8, .int .i64 xd.1), (9, pt 1006), (69, .int .i64 xd.1), (70, .bool (decide (xd.1 ≥ 0))), (73, pt 1000), (74, pt 1000), (75, .pointer (some ⟨1000, 27, none⟩)), (76, sl 1004 (List.length rC) 4), (77, .int .i64 xd.1), (78, .pointer (some ⟨1004, (Int.toNat xd.1 * 4), (some 0)⟩)), (79, .agg ⟨[.int .i64 ((List.getD rC (Int.toNat xd.1) Man.nil).X), .int .i64 ((List.getD rC (Int.toNat xd.1) Man.nil).Look), .bool ((List.getD rC (Int.toNat xd.1) Man.nil).First), .func (.yield 1) ⟨[.int .i64 (((List.getD rC (Int.toNat xd.1) Man.nil).Dots) 0), .int .i64 (((List.getD rC (Int.toNat xd.1) Man.nil).Dots) 1), .int .i64 (((List.getD rC (Int.toNat xd.1) Man.nil).Dots) 2), .int .i64 (((List.getD rC (Int.toNat xd.1) Man.nil).Dots) 3), .int .i64 (((List.getD rC (Int.toNat xd.1) Man.nil).Dots) 4), .int .i64 (((List.getD rC (Int.toNat xd.1) Man.nil).Dots) 5), .int .i64 (((List.getD rC (Int.toNat xd.1) Man.nil).Dots) 6), .int .i64 (((List.getD rC (Int.toNat xd.1) Man.nil).Dots) 7)]⟩ ⟨[.bool true]⟩]⟩), (80, .int .i64 x), (81, pt 1006), (82, .int .i64 ((List.getD rC (Int.toNat xd.1) Man.nil).X)), (83, .bool (decide (x ≥ (List.getD rC (Int.toNat xd.1) Man.nil).X))), (84, .bool (decide (x ≥ (List.getD rC (Int.toNat xd.1) Man.nil).X))), (85, .int .i64 x), (86, pt 1006), (87, .int .i64 ((List.getD rC (Int.toNat xd.1) Man.nil).X)), (88, .int .i64 (i64.wrap ((List.getD rC (Int.toNat xd.1) Man.nil).X + 8))), (89, .bool (decide (x < (i64.wrap ((List.getD rC (Int.toNat xd.1) Man.nil).X + 8))))), (90, .bool (decide (x < (i64.wrap ((List.getD rC (Int.toNat xd.1) Man.nil).X + 8))))), (91, .bool (decide (x < (i64.wrap ((List.getD rC (Int.toNat xd.1) Man.nil).X + 8))))), (92, .pointer (some ⟨1006, 3, none⟩)), (93, .func (.yield 1) ⟨[.int .i64 (((List.getD rC (Int.toNat xd.1) Man.nil).Dots) 0), .int .i64 (((List.getD rC (Int.toNat xd.1) Man.nil).Dots) 1), .int .i64 (((List.getD rC (Int.toNat xd.1) Man.nil).Dots) 2), .int .i64 (((List.getD rC (Int.toNat xd.1) Man.nil).Dots) 3), .int .i64 (((List.getD rC (Int.toNat xd.1) Man.nil).Dots) 4), .int .i64 (((List.getD rC (Int.toNat xd.1) Man.nil).Dots) 5), .int .i64 (((List.getD rC (Int.toNat xd.1) Man.nil).Dots) 6), .int .i64 (((List.getD rC (Int.toNat xd.1) Man.nil).Dots) 7)]⟩ ⟨[.bool true]⟩), (94, .int .i64 x), (95, pt 1006), (96, .int .i64 ((List.getD rC (Int.toNat xd.1) Man.nil).X)), (97, .int .i64 (i64.wrap (x - (List.getD rC (Int.toNat xd.1) Man.nil).X))), (98, .func (.method "") ⟨[.int .i64 (at8 ((List.getD rC (Int.toNat xd.1) Man.nil).Dots) (Int.toNat (i64.wrap (x - (List.getD rC (Int.toNat xd.1) Man.nil).X))))]⟩ ⟨[]⟩), (99, .int .i64 xe.2.1), (100, .bool xe.2.2.1), (101, .bool xe.2.2.2)]
def qDJ5yyyy_H (r:RPic) (rM:Nat → Int) (rN:Nat → Int) (rS:Nat → Int) (rC:List Man) (x:Int) (xd:Int × Int × Man) (xe:Man × Int × Bool × Bool):Heap:=[(1005,Man.blk xe.1),(1006,⟨[.one (.int .i64 ((List.getD rC (Int.toNat xd.1) Man.nil).X)),.one (.int .i64 ((List.getD rC (Int.toNat xd.1) Man.nil).Look)),.one (.bool ((List.getD rC (Int.toNat xd.1) Man.nil).First)),.one (.func (.yield 1) ⟨[.int .i64 (((List.getD rC (Int.toNat xd.1) Man.nil).Dots) 0),.int .i64 (((List.getD rC (Int.toNat xd.1) Man.nil).Dots) 1),.int .i64 (((List.getD rC (Int.toNat xd.1) Man.nil).Dots) 2),.int .i64 (((List.getD rC (Int.toNat xd.1) Man.nil).Dots) 3),.int .i64 (((List.getD rC (Int.toNat xd.1) Man.nil).Dots) 4),.int .i64 (((List.getD rC (Int.toNat xd.1) Man.nil).Dots) 5),.int .i64 (((List.getD rC (Int.toNat xd.1) Man.nil).Dots) 6),.int .i64 (((List.getD rC (Int.toNat xd.1) Man.nil).Dots) 7)]⟩ ⟨[.bool true]⟩)],119,false⟩)]
def qDJ5yyyy_T1 (r : RPic) (rM : Nat → Int) (rN : Nat → Int) (rS : Nat → Int) (rC : List Man) (x : Int) (xd : Int × Int × Man) (xe : Man × Int × Bool × Bool) (r_ : Int × Man) : Tm := [(0, pt 1000), (1, .int .i64 x), (4, .int .i64 ((qDJ2 r rM rN rS rC x).1)), (5, .int .i64 ((qDJ2 r rM rN rS rC x).2)), (6, .int .i64 r_.1), (7, pt 1005), (8, .int .i64 xd.1), (9, pt 1006), (69, .int .i64 xd.1), (70, .bool (decide (xd.1 ≥ 0))), (73, pt 1000), (74, pt 1000), (75, .pointer (some ⟨1000, 27, none⟩)), (76, sl 1004 (List.length rC) 4), (77, .int .i64 xd.1), (78, .pointer (some ⟨1004, (Int.toNat xd.1 * 4), (some 0)⟩)), (79, .agg ⟨[.int .i64 ((List.getD rC (Int.toNat xd.1) Man.nil).X), .int .i64 ((List.getD rC (Int.toNat xd.1) Man.nil).Look), .bool ((List.getD rC (Int.toNat xd.1) Man.nil).First), .func (.yield 1) ⟨[.int .i64 (((List.getD rC (Int.toNat xd.1) Man.nil).Dots) 0), .int .i64 (((List.getD rC (Int.toNat xd.1) Man.nil).Dots) 1), .int .i64 (((List.getD rC (Int.toNat xd.1) Man.nil).Dots) 2), .int .i64 (((List.getD rC (Int.toNat xd.1) Man.nil).Dots) 3), .int .i64 (((List.getD rC (Int.toNat xd.1) Man.nil).Dots) 4), .int .i64 (((List.getD rC (Int.toNat xd.1) Man.nil).Dots) 5), .int .i64 (((List.getD rC (Int.toNat xd.1) Man.nil).Dots) 6), .int .i64 (((List.getD rC (Int.toNat xd.1) Man.nil).Dots) 7)]⟩ ⟨[.bool true]⟩]⟩), (80, .int .i64 x), (81, pt 1006), (82, .int .i64 ((List.getD rC (Int.toNat xd.1) Man.nil).X)), (83, .bool (decide (x ≥ (List.getD rC (Int.toNat xd.1) Man.nil).X))), (84, .bool (decide (x ≥ (List.getD rC (Int.toNat xd.1) Man.nil).X))), (85, .int .i64 x), (86, pt 1006), (87, .int .i64 ((List.getD rC (Int.toNat xd.1) Man.nil).X)), (88, .int .i64 (i64.wrap ((List.getD rC (Int.toNat xd.1) Man.nil).X + 8))), (89, .bool (decide (x < (i64.wrap ((List.getD rC (Int.toNat xd.1) Man.nil).X + 8))))), (90, .bool (decide (x < (i64.wrap ((List.getD rC (Int.toNat xd.1) Man.nil).X + 8))))), (91, .bool (decide (x < (i64.wrap ((List.getD rC (Int.toNat xd.1) Man.nil).X + 8))))), (92, .pointer (some ⟨1006, 3, none⟩)), (93, .func (.yield 1) ⟨[.int .i64 (((List.getD rC (Int.toNat xd.1) Man.nil).Dots) 0), .int .i64 (((List.getD rC (Int.toNat xd.1) Man.nil).Dots) 1), .int .i64 (((List.getD rC (Int.toNat xd.1) Man.nil).Dots) 2), .int .i64 (((List.getD rC (Int.toNat xd.1) Man.nil).Dots) 3), .int .i64 (((List.getD rC (Int.toNat xd.1) Man.nil).Dots) 4), .int .i64 (((List.getD rC (Int.toNat xd.1) Man.nil).Dots) 5), .int .i64 (((List.getD rC (Int.toNat xd.1) Man.nil).Dots) 6), .int .i64 (((List.getD rC (Int.toNat xd.1) Man.nil).Dots) 7)]⟩ ⟨[.bool true]⟩), (94, .int .i64 x), (95, pt 1006), (96, .int .i64 ((List.getD rC (Int.toNat xd.1) Man.nil).X)), (97, .int .i64 (i64.wrap (x - (List.getD rC (Int.toNat xd.1) Man.nil).X))), (98, .func (.method "") ⟨[.int .i64 (at8 ((List.getD rC (Int.toNat xd.1) Man.nil).Dots) (Int.toNat (i64.wrap (x - (List.getD rC (Int.toNat xd.1) Man.nil).X))))]⟩ ⟨[]⟩), (99, .int .i64 xe.2.1), (100, .bool xe.2.2.1), (101, .bool xe.2.2.2)]
def qDJ5yyyy_H1 (r:RPic) (rM:Nat → Int) (rN:Nat → Int) (rS:Nat → Int) (rC:List Man) (x:Int) (xd:Int × Int × Man) (xe:Man × Int × Bool × Bool) (r_:Int × Man):Heap:=[(1005,Man.blk r_.2),(1006,⟨[.one (.int .i64 ((List.getD rC (Int.toNat xd.1) Man.nil).X)),.one (.int .i64 ((List.getD rC (Int.toNat xd.1) Man.nil).Look)),.one (.bool ((List.getD rC (Int.toNat xd.1) Man.nil).First)),.one (.func (.yield 1) ⟨[.int .i64 (((List.getD rC (Int.toNat xd.1) Man.nil).Dots) 0),.int .i64 (((List.getD rC (Int.toNat xd.1) Man.nil).Dots) 1),.int .i64 (((List.getD rC (Int.toNat xd.1) Man.nil).Dots) 2),.int .i64 (((List.getD rC (Int.toNat xd.1) Man.nil).Dots) 3),.int .i64 (((List.getD rC (Int.toNat xd.1) Man.nil).Dots) 4),.int .i64 (((List.getD rC (Int.toNat xd.1) Man.nil).Dots) 5),.int .i64 (((List.getD rC (Int.toNat xd.1) Man.nil).Dots) 6),.int .i64 (((List.getD rC (Int.toNat xd.1) Man.nil).Dots) 7)]⟩ ⟨[.bool true]⟩)],119,false⟩)]
theorem qDJ5yyyy_p1 (r:RPic) (rM:Nat → Int) (rN:Nat → Int) (rS:Nat → Int) (rC:List Man) (x:Int) (xd:Int × Int × Man) (xe:Man × Int × Bool × Bool) (w5d:0 ≤ (i64.wrap (x - (List.getD rC (Int.toNat xd.1) Man.nil).X)) ∧ (i64.wrap (x - (List.getD rC (Int.toNat xd.1) Man.nil).X)) < ((8:Nat):Int)) (e1:xe.2.2.2 = true):Runs Try.prog 179 (bodyOf Try.f78 [1,1,1,0,1,0,1,0,0,1,0,0,1,1]) (qDJ5yyyy_T r rM rN rS rC x xd xe) (qDJ5yyyy_H r rM rN rS rC x xd xe) 1007 .normal (qDJ5yyyy_T1 r rM rN rS rC x xd xe ((at8 ((List.getD rC (Int.toNat xd.1) Man.nil).Dots) (Int.toNat (i64.wrap (x - (List.getD rC (Int.toNat xd.1) Man.nil).X)))),({ (List.getD rC (Int.toNat xd.1) Man.nil) with Full:=true }:Man))) (qDJ5yyyy_H1 r rM rN rS rC x xd xe ((at8 ((List.getD rC (Int.toNat xd.1) Man.nil).Dots) (Int.toNat (i64.wrap (x - (List.getD rC (Int.toNat xd.1) Man.nil).X)))),({ (List.getD rC (Int.toNat xd.1) Man.nil) with Full:=true }:Man))) 1007:=by
 exact runs_of_x hG hM 400 [.yes,.sym] (J e1 (J T1 (J w5d trivial))) (by kernel_rfl)
theorem qDJ5yyyy_p2 (r:RPic) (rM:Nat → Int) (rN:Nat → Int) (rS:Nat → Int) (rC:List Man) (x:Int) (xd:Int × Int × Man) (xe:Man × Int × Bool × Bool) (w5d:0 ≤ (i64.wrap (x - (List.getD rC (Int.toNat xd.1) Man.nil).X)) ∧ (i64.wrap (x - (List.getD rC (Int.toNat xd.1) Man.nil).X)) < ((8:Nat):Int)) (e1:xe.2.2.2 = false):Runs Try.prog 179 (bodyOf Try.f78 [1,1,1,0,1,0,1,0,0,1,0,0,1,1]) (qDJ5yyyy_T r rM rN rS rC x xd xe) (qDJ5yyyy_H r rM rN rS rC x xd xe) 1007 .normal (qDJ5yyyy_T1 r rM rN rS rC x xd xe (xd.2.1,xe.1)) (qDJ5yyyy_H1 r rM rN rS rC x xd xe (xd.2.1,xe.1)) 1007:=by
 exact runs_of_x hG hM 400 [.no] (J e1 trivial) (by kernel_rfl)
abbrev NEk0 (rC:List Man) (xd:Int × Int × Man) (x:Int):=(at8 ((List.getD rC (Int.toNat xd.1) Man.nil).Dots) (Int.toNat (i64.wrap (x - (List.getD rC (Int.toNat xd.1) Man.nil).X))))
theorem qDJ5yyyy_runs (r:RPic) (rM:Nat → Int) (rN:Nat → Int) (rS:Nat → Int) (rC:List Man) (x:Int) (xd:Int × Int × Man) (xe:Man × Int × Bool × Bool) (w5d:0 ≤ (i64.wrap (x - (List.getD rC (Int.toNat xd.1) Man.nil).X)) ∧ (i64.wrap (x - (List.getD rC (Int.toNat xd.1) Man.nil).X)) < ((8:Nat):Int)):Runs Try.prog 179 (bodyOf Try.f78 [1,1,1,0,1,0,1,0,0,1,0,0,1,1]) (qDJ5yyyy_T r rM rN rS rC x xd xe) (qDJ5yyyy_H r rM rN rS rC x xd xe) 1007 .normal (qDJ5yyyy_T1 r rM rN rS rC x xd xe (qDJ5yyyy r rM rN rS rC x xd xe)) (qDJ5yyyy_H1 r rM rN rS rC x xd xe (qDJ5yyyy r rM rN rS rC x xd xe)) 1007:=by
 rcases bt xe.2.2.2 with e1 | e1
 ·
  rw [show qDJ5yyyy r rM rN rS rC x xd xe = ((NEk0 rC xd x),({ (List.getD rC (Int.toNat xd.1) Man.nil) with Full:=true }:Man)) from by unfold qDJ5yyyy;rw [if_pos e1]]
  exact qDJ5yyyy_p1 r rM rN rS rC x xd xe w5d e1
 ·
  rw [show qDJ5yyyy r rM rN rS rC x xd xe = (xd.2.1,xe.1) from by unfold qDJ5yyyy;rw [if_neg (nt e1)]]
  exact qDJ5yyyy_p2 r rM rN rS rC x xd xe w5d e1
inductive qDL4y (r:RPic) (rM:Nat → Int) (rN:Nat → Int) (rS:Nat → Int) (rC:List Man) (x:Int) (xd:Int × Int × Man):(Int × Int × Man) ⊕ (Int × Int × Man) → Prop
 | p1 (d1:(decide (xd.1 ≥ 0)) = true) (w4d:0 ≤ xd.1 ∧ xd.1 < (((List.length rC):Nat):Int)) (d2:(decide (x ≥ (List.getD rC (Int.toNat xd.1) Man.nil).X)) = true) (d3:(decide (x < (i64.wrap ((List.getD rC (Int.toNat xd.1) Man.nil).X + 8)))) = true) (w5d:0 ≤ (i64.wrap (x - (List.getD rC (Int.toNat xd.1) Man.nil).X)) ∧ (i64.wrap (x - (List.getD rC (Int.toNat xd.1) Man.nil).X)) < ((8:Nat):Int)):qDL4y r rM rN rS rC x xd (.inl ((i64.wrap (xd.1 - 1)),(qDJ5yyyy r rM rN rS rC x xd (xd.2.2,(at8 ((List.getD rC (Int.toNat xd.1) Man.nil).Dots) (Int.toNat (i64.wrap (x - (List.getD rC (Int.toNat xd.1) Man.nil).X)))),(decide ((at8 ((List.getD rC (Int.toNat xd.1) Man.nil).Dots) (Int.toNat (i64.wrap (x - (List.getD rC (Int.toNat xd.1) Man.nil).X)))) > 0)),(decide ((at8 ((List.getD rC (Int.toNat xd.1) Man.nil).Dots) (Int.toNat (i64.wrap (x - (List.getD rC (Int.toNat xd.1) Man.nil).X)))) > 0)))).1,(qDJ5yyyy r rM rN rS rC x xd (xd.2.2,(at8 ((List.getD rC (Int.toNat xd.1) Man.nil).Dots) (Int.toNat (i64.wrap (x - (List.getD rC (Int.toNat xd.1) Man.nil).X)))),(decide ((at8 ((List.getD rC (Int.toNat xd.1) Man.nil).Dots) (Int.toNat (i64.wrap (x - (List.getD rC (Int.toNat xd.1) Man.nil).X)))) > 0)),(decide ((at8 ((List.getD rC (Int.toNat xd.1) Man.nil).Dots) (Int.toNat (i64.wrap (x - (List.getD rC (Int.toNat xd.1) Man.nil).X)))) > 0)))).2))
 | p2 (d1:(decide (xd.1 ≥ 0)) = true) (w4d:0 ≤ xd.1 ∧ xd.1 < (((List.length rC):Nat):Int)) (d2:(decide (x ≥ (List.getD rC (Int.toNat xd.1) Man.nil).X)) = true) (d3:(decide (x < (i64.wrap ((List.getD rC (Int.toNat xd.1) Man.nil).X + 8)))) = false):qDL4y r rM rN rS rC x xd (.inl ((i64.wrap (xd.1 - 1)),xd.2.1,xd.2.2))
 | p3 (d1:(decide (xd.1 ≥ 0)) = true) (w4d:0 ≤ xd.1 ∧ xd.1 < (((List.length rC):Nat):Int)) (d2:(decide (x ≥ (List.getD rC (Int.toNat xd.1) Man.nil).X)) = false):qDL4y r rM rN rS rC x xd (.inl ((i64.wrap (xd.1 - 1)),xd.2.1,xd.2.2))
 | p4 (d1:(decide (xd.1 ≥ 0)) = false):qDL4y r rM rN rS rC x xd (.inr (xd.1,xd.2.1,xd.2.2))
def qDL4y_T (r:RPic) (rM:Nat → Int) (rN:Nat → Int) (rS:Nat → Int) (rC:List Man) (x:Int) (xd:Int × Int × Man):Tm:=[(0,pt 1000),(1,.int .i64 x),(4,.int .i64 ((qDJ2 r rM rN rS rC x).1)),(5,.int .i64 ((qDJ2 r rM rN rS rC x).2)),(6,.int .i64 xd.2.1),(7,pt 1005),(8,.int .i64 xd.1)]
def qDL4y_H (r:RPic) (rM:Nat → Int) (rN:Nat → Int) (rS:Nat → Int) (rC:List Man) (x:Int) (xd:Int × Int × Man):Heap:=[(1000,(RPic.bl r (sl 1001 16384 1) (sl 1002 256 1) (sl 1004 (List.length rC) 4) (sl 1003 61440 1) false)),(1004,mB rC false),(1005,(Man.blk xd.2.2))]
def qDL4y_T1 (r:RPic) (rM:Nat → Int) (rN:Nat → Int) (rS:Nat → Int) (rC:List Man) (x:Int) (y_:Int × Int × Man):Tm:=qDL4y_T r rM rN rS rC x y_
def qDL4y_H1 (r:RPic) (rM:Nat → Int) (rN:Nat → Int) (rS:Nat → Int) (rC:List Man) (x:Int) (y_:Int × Int × Man):Heap:=qDL4y_H r rM rN rS rC x y_
def qDL4y_ex (_:Int × Int × Man):Ex:=.exit 0
abbrev NEk3 (xd:Int × Int × Man) (rC:List Man) (x:Int):=(xd.2.2,(NEk0 rC xd x),(decide ((NEk0 rC xd x) > 0)),(decide ((NEk0 rC xd x) > 0)))
theorem qDL4y_p1 (r:RPic) (rM:Nat → Int) (rN:Nat → Int) (rS:Nat → Int) (rC:List Man) (x:Int) (xd:Int × Int × Man) (d1:(decide (xd.1 ≥ 0)) = true) (w4d:0 ≤ xd.1 ∧ xd.1 < (((List.length rC):Nat):Int)) (d2:(decide (x ≥ (List.getD rC (Int.toNat xd.1) Man.nil).X)) = true) (d3:(decide (x < (i64.wrap ((List.getD rC (Int.toNat xd.1) Man.nil).X + 8)))) = true) (w5d:0 ≤ (i64.wrap (x - (List.getD rC (Int.toNat xd.1) Man.nil).X)) ∧ (i64.wrap (x - (List.getD rC (Int.toNat xd.1) Man.nil).X)) < ((8:Nat):Int)):Runs Try.prog 179 (bodyOf Try.f78 [1,1,1,0,1,0,1,0,0]) (qDL4y_T r rM rN rS rC x xd) (qDL4y_H r rM rN rS rC x xd) 1006 .normal (qDL4y_T r rM rN rS rC x ((i64.wrap (xd.1 - 1)),(qDJ5yyyy r rM rN rS rC x xd (xd.2.2,(at8 ((List.getD rC (Int.toNat xd.1) Man.nil).Dots) (Int.toNat (i64.wrap (x - (List.getD rC (Int.toNat xd.1) Man.nil).X)))),(decide ((at8 ((List.getD rC (Int.toNat xd.1) Man.nil).Dots) (Int.toNat (i64.wrap (x - (List.getD rC (Int.toNat xd.1) Man.nil).X)))) > 0)),(decide ((at8 ((List.getD rC (Int.toNat xd.1) Man.nil).Dots) (Int.toNat (i64.wrap (x - (List.getD rC (Int.toNat xd.1) Man.nil).X)))) > 0)))).1,(qDJ5yyyy r rM rN rS rC x xd (xd.2.2,(at8 ((List.getD rC (Int.toNat xd.1) Man.nil).Dots) (Int.toNat (i64.wrap (x - (List.getD rC (Int.toNat xd.1) Man.nil).X)))),(decide ((at8 ((List.getD rC (Int.toNat xd.1) Man.nil).Dots) (Int.toNat (i64.wrap (x - (List.getD rC (Int.toNat xd.1) Man.nil).X)))) > 0)),(decide ((at8 ((List.getD rC (Int.toNat xd.1) Man.nil).Dots) (Int.toNat (i64.wrap (x - (List.getD rC (Int.toNat xd.1) Man.nil).X)))) > 0)))).2)) (qDL4y_H r rM rN rS rC x ((i64.wrap (xd.1 - 1)),(qDJ5yyyy r rM rN rS rC x xd (xd.2.2,(at8 ((List.getD rC (Int.toNat xd.1) Man.nil).Dots) (Int.toNat (i64.wrap (x - (List.getD rC (Int.toNat xd.1) Man.nil).X)))),(decide ((at8 ((List.getD rC (Int.toNat xd.1) Man.nil).Dots) (Int.toNat (i64.wrap (x - (List.getD rC (Int.toNat xd.1) Man.nil).X)))) > 0)),(decide ((at8 ((List.getD rC (Int.toNat xd.1) Man.nil).Dots) (Int.toNat (i64.wrap (x - (List.getD rC (Int.toNat xd.1) Man.nil).X)))) > 0)))).1,(qDJ5yyyy r rM rN rS rC x xd (xd.2.2,(at8 ((List.getD rC (Int.toNat xd.1) Man.nil).Dots) (Int.toNat (i64.wrap (x - (List.getD rC (Int.toNat xd.1) Man.nil).X)))),(decide ((at8 ((List.getD rC (Int.toNat xd.1) Man.nil).Dots) (Int.toNat (i64.wrap (x - (List.getD rC (Int.toNat xd.1) Man.nil).X)))) > 0)),(decide ((at8 ((List.getD rC (Int.toNat xd.1) Man.nil).Dots) (Int.toNat (i64.wrap (x - (List.getD rC (Int.toNat xd.1) Man.nil).X)))) > 0)))).2)) 1006:=by
 exact runs_of_x hG hM 400 [.yes,.sym,.row (Int.toNat xd.1) 0,.yes,.yes,.yes,.yes,.yes,.yes,.yes,.yes,.yes,.yes,.yes,.yes,.yes,.sym,.yes,.yes,.yes,.segk 2 0 [0,1,4,5,6,7,8,9,69,70,73,74,75,76,77,78,79,80,81,82,83,84,85,86,87,88,89,90,91,92,93,94,95,96,97,98,99,100,101] [1005,1006] .normal (qDJ5yyyy_T1 r rM rN rS rC x xd (NEk3 xd rC x) (qDJ5yyyy r rM rN rS rC x xd (NEk3 xd rC x))) (qDJ5yyyy_H1 r rM rN rS rC x xd (NEk3 xd rC x) (qDJ5yyyy r rM rN rS rC x xd (NEk3 xd rC x))) 1007] (J d1 (J w4d (J (Eq.refl ((Int.toNat xd.1 * 4):Nat)) (J (lt_nat w4d) (J d2 (J d2 (J d2 (J d2 (J d2 (J d2 (J d3 (J d3 (J d3 (J d3 (J d3 (J d3 (J d3 (J T1 (J w5d (J d3 (J d3 (J d3 (J (qDJ5yyyy_runs r rM rN rS rC x xd (NEk3 xd rC x) w5d) trivial))))))))))))))))))))))) (by kernel_rfl)
theorem qDL4y_p2 (r:RPic) (rM:Nat → Int) (rN:Nat → Int) (rS:Nat → Int) (rC:List Man) (x:Int) (xd:Int × Int × Man) (d1:(decide (xd.1 ≥ 0)) = true) (w4d:0 ≤ xd.1 ∧ xd.1 < (((List.length rC):Nat):Int)) (d2:(decide (x ≥ (List.getD rC (Int.toNat xd.1) Man.nil).X)) = true) (d3:(decide (x < (i64.wrap ((List.getD rC (Int.toNat xd.1) Man.nil).X + 8)))) = false):Runs Try.prog 179 (bodyOf Try.f78 [1,1,1,0,1,0,1,0,0]) (qDL4y_T r rM rN rS rC x xd) (qDL4y_H r rM rN rS rC x xd) 1006 .normal (qDL4y_T r rM rN rS rC x ((i64.wrap (xd.1 - 1)),xd.2.1,xd.2.2)) (qDL4y_H r rM rN rS rC x ((i64.wrap (xd.1 - 1)),xd.2.1,xd.2.2)) 1006:=by
 exact runs_of_x hG hM 400 [.yes,.sym,.row (Int.toNat xd.1) 0,.yes,.yes,.yes,.yes,.yes,.yes,.no,.no,.no,.no,.no,.no,.no,.no,.no,.no,.no] (J d1 (J w4d (J (Eq.refl ((Int.toNat xd.1 * 4):Nat)) (J (lt_nat w4d) (J d2 (J d2 (J d2 (J d2 (J d2 (J d2 (J d3 (J d3 (J d3 (J d3 (J d3 (J d3 (J d3 (J d3 (J d3 (J d3 (J T0 trivial))))))))))))))))))))) (by kernel_rfl)
theorem qDL4y_p3 (r:RPic) (rM:Nat → Int) (rN:Nat → Int) (rS:Nat → Int) (rC:List Man) (x:Int) (xd:Int × Int × Man) (d1:(decide (xd.1 ≥ 0)) = true) (w4d:0 ≤ xd.1 ∧ xd.1 < (((List.length rC):Nat):Int)) (d2:(decide (x ≥ (List.getD rC (Int.toNat xd.1) Man.nil).X)) = false):Runs Try.prog 179 (bodyOf Try.f78 [1,1,1,0,1,0,1,0,0]) (qDL4y_T r rM rN rS rC x xd) (qDL4y_H r rM rN rS rC x xd) 1006 .normal (qDL4y_T r rM rN rS rC x ((i64.wrap (xd.1 - 1)),xd.2.1,xd.2.2)) (qDL4y_H r rM rN rS rC x ((i64.wrap (xd.1 - 1)),xd.2.1,xd.2.2)) 1006:=by
 exact runs_of_x hG hM 400 [.yes,.sym,.row (Int.toNat xd.1) 0,.no,.no,.no,.no,.no,.no,.no,.no,.no,.no,.no,.no,.no,.no,.no,.no,.no] (J d1 (J w4d (J (Eq.refl ((Int.toNat xd.1 * 4):Nat)) (J (lt_nat w4d) (J d2 (J d2 (J d2 (J d2 (J d2 (J d2 (J T0 (J T0 (J T0 (J T0 (J T0 (J T0 (J T0 (J T0 (J T0 (J T0 (J T0 trivial))))))))))))))))))))) (by kernel_rfl)
theorem qDL4y_p4 (r:RPic) (rM:Nat → Int) (rN:Nat → Int) (rS:Nat → Int) (rC:List Man) (x:Int) (xd:Int × Int × Man) (d1:(decide (xd.1 ≥ 0)) = false):Runs Try.prog 179 (bodyOf Try.f78 [1,1,1,0,1,0,1,0,0]) (qDL4y_T r rM rN rS rC x xd) (qDL4y_H r rM rN rS rC x xd) 1006 (.exit 0) (qDL4y_T1 r rM rN rS rC x (xd.1,xd.2.1,xd.2.2)) (qDL4y_H1 r rM rN rS rC x (xd.1,xd.2.1,xd.2.2)) 1006:=by
 exact runs_of_x hG hM 400 [.no] (J d1 trivial) (by kernel_rfl)
theorem qDL4y_runs (r:RPic) (rM:Nat → Int) (rN:Nat → Int) (rS:Nat → Int) (rC:List Man) (x:Int) (x_:Int × Int × Man) (y_:Int × Int × Man) (h_:LoopR (qDL4y r rM rN rS rC x) x_ y_):Runs Try.prog 179 (.block 0 (.loop (bodyOf Try.f78 [1,1,1,0,1,0,1,0,0]))) (qDL4y_T r rM rN rS rC x x_) (qDL4y_H r rM rN rS rC x x_) 1006 (outOf 0 (qDL4y_ex y_)) (qDL4y_T1 r rM rN rS rC x y_) (qDL4y_H1 r rM rN rS rC x y_) 1006:=by
 refine block_loop (qDL4y r rM rN rS rC x) (qDL4y_T r rM rN rS rC x) (qDL4y_H r rM rN rS rC x) qDL4y_ex (qDL4y_T1 r rM rN rS rC x) (qDL4y_H1 r rM rN rS rC x) ?_ ?_ ?_ x_ y_ h_
 ·intro r hr;cases hr
 ·intro xd y_ hx
  cases hx with
  | p1 d1 w4d d2 d3 w5d => exact qDL4y_p1 r rM rN rS rC x xd d1 w4d d2 d3 w5d
  | p2 d1 w4d d2 d3 => exact qDL4y_p2 r rM rN rS rC x xd d1 w4d d2 d3
  | p3 d1 w4d d2 => exact qDL4y_p3 r rM rN rS rC x xd d1 w4d d2
 ·intro xd y_ hx
  cases hx with
  | p4 d1 => exact qDL4y_p4 r rM rN rS rC x xd d1
def qDJ6y (r:RPic) (rM:Nat → Int) (rN:Nat → Int) (rS:Nat → Int) (rC:List Man) (x:Int) (r4:Int × Int × Man):Bool:=
 if (decide (r4.2.1 > 0)) = true then
  if r4.2.2.First = true then
   if (decide (((qDJ2 r rM rN rS rC x).1:Int) > 0)) = true then
    (x != 255)
   else
    false
  else
   false
 else
  false
def qDJ6y_T (r:RPic) (rM:Nat → Int) (rN:Nat → Int) (rS:Nat → Int) (rC:List Man) (x:Int) (r4:Int × Int × Man):Tm:=[(0,pt 1000),(1,.int .i64 x),(4,.int .i64 ((qDJ2 r rM rN rS rC x).1)),(5,.int .i64 ((qDJ2 r rM rN rS rC x).2)),(6,.int .i64 r4.2.1),(7,pt 1005)]
def qDJ6y_H (r:RPic) (rM:Nat → Int) (rN:Nat → Int) (rS:Nat → Int) (rC:List Man) (x:Int) (r4:Int × Int × Man):Heap:=[(1005,⟨[.one (.int .i64 r4.2.2.X),.one (.int .i64 r4.2.2.Look),.one (.bool r4.2.2.First),.one (.func (.yield 1) ⟨[.int .i64 (r4.2.2.Dots 0),.int .i64 (r4.2.2.Dots 1),.int .i64 (r4.2.2.Dots 2),.int .i64 (r4.2.2.Dots 3),.int .i64 (r4.2.2.Dots 4),.int .i64 (r4.2.2.Dots 5),.int .i64 (r4.2.2.Dots 6),.int .i64 (r4.2.2.Dots 7)]⟩ ⟨[.bool r4.2.2.Full]⟩)],119,false⟩)]
def qDJ6y_T1 (r:RPic) (rM:Nat → Int) (rN:Nat → Int) (rS:Nat → Int) (rC:List Man) (x:Int) (r4:Int × Int × Man) (r_:Bool):Tm:=[(0,pt 1000),(1,.int .i64 x),(4,.int .i64 ((qDJ2 r rM rN rS rC x).1)),(5,.int .i64 ((qDJ2 r rM rN rS rC x).2)),(6,.int .i64 r4.2.1),(7,pt 1005),(124,.bool r_)]
def qDJ6y_H1 (r:RPic) (rM:Nat → Int) (rN:Nat → Int) (rS:Nat → Int) (rC:List Man) (x:Int) (r4:Int × Int × Man) (r_:Bool):Heap:=[(1005,⟨[.one (.int .i64 r4.2.2.X),.one (.int .i64 r4.2.2.Look),.one (.bool r4.2.2.First),.one (.func (.yield 1) ⟨[.int .i64 (r4.2.2.Dots 0),.int .i64 (r4.2.2.Dots 1),.int .i64 (r4.2.2.Dots 2),.int .i64 (r4.2.2.Dots 3),.int .i64 (r4.2.2.Dots 4),.int .i64 (r4.2.2.Dots 5),.int .i64 (r4.2.2.Dots 6),.int .i64 (r4.2.2.Dots 7)]⟩ ⟨[.bool r4.2.2.Full]⟩)],119,false⟩)]
theorem qDJ6y_p1 (r:RPic) (rM:Nat → Int) (rN:Nat → Int) (rS:Nat → Int) (rC:List Man) (x:Int) (r4:Int × Int × Man) (d1:(decide (r4.2.1 > 0)) = true) (d2:r4.2.2.First = true) (d3:(decide (((qDJ2 r rM rN rS rC x).1:Int) > 0)) = true):Runs Try.prog 179 (bodyOf Try.f78 [1,1,1,1,0,0]) (qDJ6y_T r rM rN rS rC x r4) (qDJ6y_H r rM rN rS rC x r4) 1006 .normal (qDJ6y_T1 r rM rN rS rC x r4 (x != 255)) (qDJ6y_H1 r rM rN rS rC x r4 (x != 255)) 1006:=by
 exact runs_of_x hG hM 400 [.yes,.yes,.yes,.yes,.yes,.yes,.yes,.yes,.yes] (J d1 (J d1 (J d1 (J d2 (J d2 (J d2 (J d3 (J d3 (J d3 trivial))))))))) (by kernel_rfl)
theorem qDJ6y_p2 (r:RPic) (rM:Nat → Int) (rN:Nat → Int) (rS:Nat → Int) (rC:List Man) (x:Int) (r4:Int × Int × Man) (d1:(decide (r4.2.1 > 0)) = true) (d2:r4.2.2.First = true) (d3:(decide (((qDJ2 r rM rN rS rC x).1:Int) > 0)) = false):Runs Try.prog 179 (bodyOf Try.f78 [1,1,1,1,0,0]) (qDJ6y_T r rM rN rS rC x r4) (qDJ6y_H r rM rN rS rC x r4) 1006 .normal (qDJ6y_T1 r rM rN rS rC x r4 false) (qDJ6y_H1 r rM rN rS rC x r4 false) 1006:=by
 exact runs_of_x hG hM 400 [.yes,.yes,.yes,.yes,.yes,.yes,.no,.no,.no] (J d1 (J d1 (J d1 (J d2 (J d2 (J d2 (J d3 (J d3 (J d3 trivial))))))))) (by kernel_rfl)
theorem qDJ6y_p3 (r:RPic) (rM:Nat → Int) (rN:Nat → Int) (rS:Nat → Int) (rC:List Man) (x:Int) (r4:Int × Int × Man) (d1:(decide (r4.2.1 > 0)) = true) (d2:r4.2.2.First = false):Runs Try.prog 179 (bodyOf Try.f78 [1,1,1,1,0,0]) (qDJ6y_T r rM rN rS rC x r4) (qDJ6y_H r rM rN rS rC x r4) 1006 .normal (qDJ6y_T1 r rM rN rS rC x r4 false) (qDJ6y_H1 r rM rN rS rC x r4 false) 1006:=by
 exact runs_of_x hG hM 400 [.yes,.yes,.yes,.no,.no,.no,.no,.no,.no] (J d1 (J d1 (J d1 (J d2 (J d2 (J d2 (J T0 (J T0 (J T0 trivial))))))))) (by kernel_rfl)
theorem qDJ6y_p4 (r:RPic) (rM:Nat → Int) (rN:Nat → Int) (rS:Nat → Int) (rC:List Man) (x:Int) (r4:Int × Int × Man) (d1:(decide (r4.2.1 > 0)) = false):Runs Try.prog 179 (bodyOf Try.f78 [1,1,1,1,0,0]) (qDJ6y_T r rM rN rS rC x r4) (qDJ6y_H r rM rN rS rC x r4) 1006 .normal (qDJ6y_T1 r rM rN rS rC x r4 false) (qDJ6y_H1 r rM rN rS rC x r4 false) 1006:=by
 exact runs_of_x hG hM 400 [.no,.no,.no,.no,.no,.no,.no,.no,.no] (J d1 (J d1 (J d1 (J T0 (J T0 (J T0 (J T0 (J T0 (J T0 trivial))))))))) (by kernel_rfl)
abbrev NEk4 (r:RPic) (rM rN rS:Nat → Int) (rC:List Man) (x:Int):=(decide (((qDJ2 r rM rN rS rC x).1:Int) > 0))
theorem qDJ6y_runs (r:RPic) (rM:Nat → Int) (rN:Nat → Int) (rS:Nat → Int) (rC:List Man) (x:Int) (r4:Int × Int × Man):Runs Try.prog 179 (bodyOf Try.f78 [1,1,1,1,0,0]) (qDJ6y_T r rM rN rS rC x r4) (qDJ6y_H r rM rN rS rC x r4) 1006 .normal (qDJ6y_T1 r rM rN rS rC x r4 (qDJ6y r rM rN rS rC x r4)) (qDJ6y_H1 r rM rN rS rC x r4 (qDJ6y r rM rN rS rC x r4)) 1006:=by
 rcases bt (decide (r4.2.1 > 0)) with d1 | d1
 ·
  rcases bt r4.2.2.First with d2 | d2
  ·
   rcases bt (NEk4 r rM rN rS rC x) with d3 | d3
   ·
    rw [show qDJ6y r rM rN rS rC x r4 = (x != 255) from by unfold qDJ6y;rw [if_pos d1,if_pos d2,if_pos d3]]
    exact qDJ6y_p1 r rM rN rS rC x r4 d1 d2 d3
   ·
    rw [show qDJ6y r rM rN rS rC x r4 = false from by unfold qDJ6y;rw [if_pos d1,if_pos d2,if_neg (nt d3)]]
    exact qDJ6y_p2 r rM rN rS rC x r4 d1 d2 d3
  ·
   rw [show qDJ6y r rM rN rS rC x r4 = false from by unfold qDJ6y;rw [if_pos d1,if_neg (nt d2)]]
   exact qDJ6y_p3 r rM rN rS rC x r4 d1 d2
 ·
  rw [show qDJ6y r rM rN rS rC x r4 = false from by unfold qDJ6y;rw [if_neg (nt d1)]]
  exact qDJ6y_p4 r rM rN rS rC x r4 d1
def qDJ7y (r:RPic) (rM:Nat → Int) (rN:Nat → Int) (rS:Nat → Int) (rC:List Man) (x:Int) (r4:Int × Int × Man) (xd:Bool × Bool):Bool:=
 if xd.2 = true then
  true
 else
  xd.1
def qDJ7y_T (r:RPic) (rM:Nat → Int) (rN:Nat → Int) (rS:Nat → Int) (rC:List Man) (x:Int) (r4:Int × Int × Man) (xd:Bool × Bool):Tm:=[(0,pt 1000),(1,.int .i64 x),(4,.int .i64 ((qDJ2 r rM rN rS rC x).1)),(5,.int .i64 ((qDJ2 r rM rN rS rC x).2)),(6,.int .i64 r4.2.1),(7,pt 1005),(124,.bool xd.2)]
def qDJ7y_H (r:RPic) (rM:Nat → Int) (rN:Nat → Int) (rS:Nat → Int) (rC:List Man) (x:Int) (r4:Int × Int × Man) (xd:Bool × Bool):Heap:=[(1000,⟨[.one (sl 1001 16384 1),.one (sl 1002 256 1),.one (.int .i64 r.At),.one (.int .i64 r.S.V.Column),.one (.int .i64 r.S.V.Line),.one (.int .i64 r.S.V.Across),.one (.int .i64 r.S.V.Down),.one (.int .i64 r.S.V.Row),.one (.int .i64 r.S.T.Column),.one (.int .i64 r.S.T.Line),.one (.int .i64 r.S.T.Across),.one (.int .i64 r.S.T.Down),.one (.int .i64 r.S.T.Row),.one (.int .i64 r.S.X),.one (.bool r.S.W),.one (.int .i64 r.Control),.one (.int .i64 r.Mask),.one (.bool r.Blank),.one (.bool xd.1),.one (.bool r.Many),.one (.int .i64 r.Waits),.one (.int .i64 r.Bus),.one (.bool r.Upright),.one (.int .i64 r.Line),.one (.int .i64 r.Dot),.one (.int .i64 r.Begun),.one (.int .i64 r.Done),.one (sl 1004 (List.length rC) 4),.one (sl 1003 61440 1)],59,false⟩)]
def qDJ7y_T1 (r:RPic) (rM:Nat → Int) (rN:Nat → Int) (rS:Nat → Int) (rC:List Man) (x:Int) (r4:Int × Int × Man) (xd:Bool × Bool) (r_:Bool):Tm:=[(0,pt 1000),(1,.int .i64 x),(4,.int .i64 ((qDJ2 r rM rN rS rC x).1)),(5,.int .i64 ((qDJ2 r rM rN rS rC x).2)),(6,.int .i64 r4.2.1),(7,pt 1005)]
def qDJ7y_H1 (r:RPic) (rM:Nat → Int) (rN:Nat → Int) (rS:Nat → Int) (rC:List Man) (x:Int) (r4:Int × Int × Man) (xd:Bool × Bool) (r_:Bool):Heap:=[(1000,⟨[.one (sl 1001 16384 1),.one (sl 1002 256 1),.one (.int .i64 r.At),.one (.int .i64 r.S.V.Column),.one (.int .i64 r.S.V.Line),.one (.int .i64 r.S.V.Across),.one (.int .i64 r.S.V.Down),.one (.int .i64 r.S.V.Row),.one (.int .i64 r.S.T.Column),.one (.int .i64 r.S.T.Line),.one (.int .i64 r.S.T.Across),.one (.int .i64 r.S.T.Down),.one (.int .i64 r.S.T.Row),.one (.int .i64 r.S.X),.one (.bool r.S.W),.one (.int .i64 r.Control),.one (.int .i64 r.Mask),.one (.bool r.Blank),.one (.bool r_),.one (.bool r.Many),.one (.int .i64 r.Waits),.one (.int .i64 r.Bus),.one (.bool r.Upright),.one (.int .i64 r.Line),.one (.int .i64 r.Dot),.one (.int .i64 r.Begun),.one (.int .i64 r.Done),.one (sl 1004 (List.length rC) 4),.one (sl 1003 61440 1)],59,false⟩)]
theorem qDJ7y_p1 (r:RPic) (rM:Nat → Int) (rN:Nat → Int) (rS:Nat → Int) (rC:List Man) (x:Int) (r4:Int × Int × Man) (xd:Bool × Bool) (d1:xd.2 = true):Runs Try.prog 179 (bodyOf Try.f78 [1,1,1,1,0,1]) (qDJ7y_T r rM rN rS rC x r4 xd) (qDJ7y_H r rM rN rS rC x r4 xd) 1006 .normal (qDJ7y_T1 r rM rN rS rC x r4 xd true) (qDJ7y_H1 r rM rN rS rC x r4 xd true) 1006:=by
 exact runs_of_x hG hM 400 [.yes] (J d1 trivial) (by kernel_rfl)
theorem qDJ7y_p2 (r:RPic) (rM:Nat → Int) (rN:Nat → Int) (rS:Nat → Int) (rC:List Man) (x:Int) (r4:Int × Int × Man) (xd:Bool × Bool) (d1:xd.2 = false):Runs Try.prog 179 (bodyOf Try.f78 [1,1,1,1,0,1]) (qDJ7y_T r rM rN rS rC x r4 xd) (qDJ7y_H r rM rN rS rC x r4 xd) 1006 .normal (qDJ7y_T1 r rM rN rS rC x r4 xd xd.1) (qDJ7y_H1 r rM rN rS rC x r4 xd xd.1) 1006:=by
 exact runs_of_x hG hM 400 [.no] (J d1 trivial) (by kernel_rfl)
theorem qDJ7y_runs (r:RPic) (rM:Nat → Int) (rN:Nat → Int) (rS:Nat → Int) (rC:List Man) (x:Int) (r4:Int × Int × Man) (xd:Bool × Bool):Runs Try.prog 179 (bodyOf Try.f78 [1,1,1,1,0,1]) (qDJ7y_T r rM rN rS rC x r4 xd) (qDJ7y_H r rM rN rS rC x r4 xd) 1006 .normal (qDJ7y_T1 r rM rN rS rC x r4 xd (qDJ7y r rM rN rS rC x r4 xd)) (qDJ7y_H1 r rM rN rS rC x r4 xd (qDJ7y r rM rN rS rC x r4 xd)) 1006:=by
 rcases bt xd.2 with d1 | d1
 ·
  rw [show qDJ7y r rM rN rS rC x r4 xd = true from by unfold qDJ7y;rw [if_pos d1]]
  exact qDJ7y_p1 r rM rN rS rC x r4 xd d1
 ·
  rw [show qDJ7y r rM rN rS rC x r4 xd = xd.1 from by unfold qDJ7y;rw [if_neg (nt d1)]]
  exact qDJ7y_p2 r rM rN rS rC x r4 xd d1
def qDJ8y (r:RPic) (rM:Nat → Int) (rN:Nat → Int) (rS:Nat → Int) (rC:List Man) (x:Int) (r4:Int × Int × Man):Bool:=
 if (decide (r4.2.1 > 0)) = true then
  if (((qDJ2 r rM rN rS rC x).1:Int) == 0) = true then
   true
  else
   (!(rBit r4.2.2.Look 32))
 else
  false
def qDJ8y_T (r:RPic) (rM:Nat → Int) (rN:Nat → Int) (rS:Nat → Int) (rC:List Man) (x:Int) (r4:Int × Int × Man):Tm:=[(0,pt 1000),(1,.int .i64 x),(4,.int .i64 ((qDJ2 r rM rN rS rC x).1)),(5,.int .i64 ((qDJ2 r rM rN rS rC x).2)),(6,.int .i64 r4.2.1),(7,pt 1005),(10,.int .i64 0)]
def qDJ8y_H (r:RPic) (rM:Nat → Int) (rN:Nat → Int) (rS:Nat → Int) (rC:List Man) (x:Int) (r4:Int × Int × Man):Heap:=[(1005,⟨[.one (.int .i64 r4.2.2.X),.one (.int .i64 r4.2.2.Look),.one (.bool r4.2.2.First),.one (.func (.yield 1) ⟨[.int .i64 (r4.2.2.Dots 0),.int .i64 (r4.2.2.Dots 1),.int .i64 (r4.2.2.Dots 2),.int .i64 (r4.2.2.Dots 3),.int .i64 (r4.2.2.Dots 4),.int .i64 (r4.2.2.Dots 5),.int .i64 (r4.2.2.Dots 6),.int .i64 (r4.2.2.Dots 7)]⟩ ⟨[.bool r4.2.2.Full]⟩)],119,false⟩)]
def qDJ8y_T1 (r:RPic) (rM:Nat → Int) (rN:Nat → Int) (rS:Nat → Int) (rC:List Man) (x:Int) (r4:Int × Int × Man) (r_:Bool):Tm:=[(0,pt 1000),(1,.int .i64 x),(4,.int .i64 ((qDJ2 r rM rN rS rC x).1)),(5,.int .i64 ((qDJ2 r rM rN rS rC x).2)),(6,.int .i64 r4.2.1),(7,pt 1005),(10,.int .i64 0),(139,.bool r_)]
def qDJ8y_H1 (r:RPic) (rM:Nat → Int) (rN:Nat → Int) (rS:Nat → Int) (rC:List Man) (x:Int) (r4:Int × Int × Man) (r_:Bool):Heap:=[(1005,⟨[.one (.int .i64 r4.2.2.X),.one (.int .i64 r4.2.2.Look),.one (.bool r4.2.2.First),.one (.func (.yield 1) ⟨[.int .i64 (r4.2.2.Dots 0),.int .i64 (r4.2.2.Dots 1),.int .i64 (r4.2.2.Dots 2),.int .i64 (r4.2.2.Dots 3),.int .i64 (r4.2.2.Dots 4),.int .i64 (r4.2.2.Dots 5),.int .i64 (r4.2.2.Dots 6),.int .i64 (r4.2.2.Dots 7)]⟩ ⟨[.bool r4.2.2.Full]⟩)],119,false⟩)]
theorem qDJ8y_p1 (r:RPic) (rM:Nat → Int) (rN:Nat → Int) (rS:Nat → Int) (rC:List Man) (x:Int) (r4:Int × Int × Man) (d1:(decide (r4.2.1 > 0)) = true) (d2:(((qDJ2 r rM rN rS rC x).1:Int) == 0) = true):Runs Try.prog 179 (bodyOf Try.f78 [1,1,1,1,1,1,0,0]) (qDJ8y_T r rM rN rS rC x r4) (qDJ8y_H r rM rN rS rC x r4) 1006 .normal (qDJ8y_T1 r rM rN rS rC x r4 true) (qDJ8y_H1 r rM rN rS rC x r4 true) 1006:=by
 exact runs_of_x hG hM 400 [.yes,.yes,.yes,.yes,.yes,.yes,.yes,.yes,.yes,.yes] (J d1 (J d1 (J d1 (J d2 (J d2 (J d2 (J d2 (J d1 (J d2 (J d1 trivial)))))))))) (by kernel_rfl)
theorem qDJ8y_p2 (r:RPic) (rM:Nat → Int) (rN:Nat → Int) (rS:Nat → Int) (rC:List Man) (x:Int) (r4:Int × Int × Man) (d1:(decide (r4.2.1 > 0)) = true) (d2:(((qDJ2 r rM rN rS rC x).1:Int) == 0) = false):Runs Try.prog 179 (bodyOf Try.f78 [1,1,1,1,1,1,0,0]) (qDJ8y_T r rM rN rS rC x r4) (qDJ8y_H r rM rN rS rC x r4) 1006 .normal (qDJ8y_T1 r rM rN rS rC x r4 (!(rBit r4.2.2.Look 32))) (qDJ8y_H1 r rM rN rS rC x r4 (!(rBit r4.2.2.Look 32))) 1006:=by
 exact runs_of_x hG hM 400 [.yes,.yes,.yes,.no,.no,.no,.call [] [] 1000 (.bool (rBit r4.2.2.Look 32)) [],.no,.yes,.no,.yes] (J d1 (J d1 (J d1 (J d2 (J d2 (J d2 (J (rBit_ok r4.2.2.Look 32 (by decide:(32:Int) ≠ 0)) (J d2 (J d1 (J d2 (J d1 trivial))))))))))) (by kernel_rfl)
theorem qDJ8y_p3 (r:RPic) (rM:Nat → Int) (rN:Nat → Int) (rS:Nat → Int) (rC:List Man) (x:Int) (r4:Int × Int × Man) (d1:(decide (r4.2.1 > 0)) = false):Runs Try.prog 179 (bodyOf Try.f78 [1,1,1,1,1,1,0,0]) (qDJ8y_T r rM rN rS rC x r4) (qDJ8y_H r rM rN rS rC x r4) 1006 .normal (qDJ8y_T1 r rM rN rS rC x r4 false) (qDJ8y_H1 r rM rN rS rC x r4 false) 1006:=by
 exact runs_of_x hG hM 400 [.no,.no,.no,.no,.no] (J d1 (J d1 (J d1 (J d1 (J d1 trivial))))) (by kernel_rfl)
theorem qDJ8y_runs (r:RPic) (rM:Nat → Int) (rN:Nat → Int) (rS:Nat → Int) (rC:List Man) (x:Int) (r4:Int × Int × Man):Runs Try.prog 179 (bodyOf Try.f78 [1,1,1,1,1,1,0,0]) (qDJ8y_T r rM rN rS rC x r4) (qDJ8y_H r rM rN rS rC x r4) 1006 .normal (qDJ8y_T1 r rM rN rS rC x r4 (qDJ8y r rM rN rS rC x r4)) (qDJ8y_H1 r rM rN rS rC x r4 (qDJ8y r rM rN rS rC x r4)) 1006:=by
 rcases bt (decide (r4.2.1 > 0)) with d1 | d1
 ·
  rcases bt (((qDJ2 r rM rN rS rC x).1:Int) == 0) with d2 | d2
  ·
   rw [show qDJ8y r rM rN rS rC x r4 = true from by unfold qDJ8y;rw [if_pos d1,if_pos d2]]
   exact qDJ8y_p1 r rM rN rS rC x r4 d1 d2
  ·
   rw [show qDJ8y r rM rN rS rC x r4 = (!(rBit r4.2.2.Look 32)) from by unfold qDJ8y;rw [if_pos d1,if_neg (nt d2)]]
   exact qDJ8y_p2 r rM rN rS rC x r4 d1 d2
 ·
  rw [show qDJ8y r rM rN rS rC x r4 = false from by unfold qDJ8y;rw [if_neg (nt d1)]]
  exact qDJ8y_p3 r rM rN rS rC x r4 d1
def qDJ10yn (r:RPic) (rM:Nat → Int) (rN:Nat → Int) (rS:Nat → Int) (rC:List Man) (x:Int) (xe:Bool):Int:=
 if xe = true then
  (i64.wrap ((i64.wrap (4 * (qDJ2 r rM rN rS rC x).2)) + (qDJ2 r rM rN rS rC x).1))
 else
  0
def qDJ10yn_T (r:RPic) (rM:Nat → Int) (rN:Nat → Int) (rS:Nat → Int) (rC:List Man) (x:Int) (xe:Bool):Tm:=[(0,pt 1000),(1,.int .i64 x),(4,.int .i64 ((qDJ2 r rM rN rS rC x).1)),(5,.int .i64 ((qDJ2 r rM rN rS rC x).2)),(10,.int .i64 0),(148,.bool xe)]
def qDJ10yn_H (r:RPic) (rM:Nat → Int) (rN:Nat → Int) (rS:Nat → Int) (rC:List Man) (x:Int) (xe:Bool):Heap:=[]
def qDJ10yn_T1 (r:RPic) (rM:Nat → Int) (rN:Nat → Int) (rS:Nat → Int) (rC:List Man) (x:Int) (xe:Bool) (r_:Int):Tm:=[(0,pt 1000),(1,.int .i64 x),(10,.int .i64 r_)]
def qDJ10yn_H1 (r:RPic) (rM:Nat → Int) (rN:Nat → Int) (rS:Nat → Int) (rC:List Man) (x:Int) (xe:Bool) (r_:Int):Heap:=[]
theorem qDJ10yn_p1 (r:RPic) (rM:Nat → Int) (rN:Nat → Int) (rS:Nat → Int) (rC:List Man) (x:Int) (xe:Bool) (e1:xe = true):Runs Try.prog 179 (bodyOf Try.f78 [1,1,1,1,1,1,0,1,1,1]) (qDJ10yn_T r rM rN rS rC x xe) (qDJ10yn_H r rM rN rS rC x xe) 1006 .normal (qDJ10yn_T1 r rM rN rS rC x xe (i64.wrap ((i64.wrap (4 * (qDJ2 r rM rN rS rC x).2)) + (qDJ2 r rM rN rS rC x).1))) (qDJ10yn_H1 r rM rN rS rC x xe (i64.wrap ((i64.wrap (4 * (qDJ2 r rM rN rS rC x).2)) + (qDJ2 r rM rN rS rC x).1))) 1006:=by
 exact runs_of_x hG hM 400 [.yes] (J e1 trivial) (by kernel_rfl)
theorem qDJ10yn_p2 (r:RPic) (rM:Nat → Int) (rN:Nat → Int) (rS:Nat → Int) (rC:List Man) (x:Int) (xe:Bool) (e1:xe = false):Runs Try.prog 179 (bodyOf Try.f78 [1,1,1,1,1,1,0,1,1,1]) (qDJ10yn_T r rM rN rS rC x xe) (qDJ10yn_H r rM rN rS rC x xe) 1006 .normal (qDJ10yn_T1 r rM rN rS rC x xe 0) (qDJ10yn_H1 r rM rN rS rC x xe 0) 1006:=by
 exact runs_of_x hG hM 400 [.no] (J e1 trivial) (by kernel_rfl)
theorem qDJ10yn_runs (r:RPic) (rM:Nat → Int) (rN:Nat → Int) (rS:Nat → Int) (rC:List Man) (x:Int) (xe:Bool):Runs Try.prog 179 (bodyOf Try.f78 [1,1,1,1,1,1,0,1,1,1]) (qDJ10yn_T r rM rN rS rC x xe) (qDJ10yn_H r rM rN rS rC x xe) 1006 .normal (qDJ10yn_T1 r rM rN rS rC x xe (qDJ10yn r rM rN rS rC x xe)) (qDJ10yn_H1 r rM rN rS rC x xe (qDJ10yn r rM rN rS rC x xe)) 1006:=by
 rcases bt xe with e1 | e1
 ·
  rw [show qDJ10yn r rM rN rS rC x xe = (i64.wrap ((i64.wrap (4 * (qDJ2 r rM rN rS rC x).2)) + (qDJ2 r rM rN rS rC x).1)) from by unfold qDJ10yn;rw [if_pos e1]]
  exact qDJ10yn_p1 r rM rN rS rC x xe e1
 ·
  rw [show qDJ10yn r rM rN rS rC x xe = 0 from by unfold qDJ10yn;rw [if_neg (nt e1)]]
  exact qDJ10yn_p2 r rM rN rS rC x xe e1
def qDJ9y (r:RPic) (rM:Nat → Int) (rN:Nat → Int) (rS:Nat → Int) (rC:List Man) (x:Int) (r4:Int × Int × Man) (xd:Bool):Int:=
 if xd = true then
  (i64.wrap ((i64.wrap (16 + (i64.wrap (4 * (Int.tmod r4.2.2.Look 4))))) + r4.2.1))
 else
  (qDJ10yn r rM rN rS rC x (decide (((qDJ2 r rM rN rS rC x).1:Int) > 0)))
def qDJ9y_T (r:RPic) (rM:Nat → Int) (rN:Nat → Int) (rS:Nat → Int) (rC:List Man) (x:Int) (r4:Int × Int × Man) (xd:Bool):Tm:=[(0,pt 1000),(1,.int .i64 x),(4,.int .i64 ((qDJ2 r rM rN rS rC x).1)),(5,.int .i64 ((qDJ2 r rM rN rS rC x).2)),(6,.int .i64 r4.2.1),(7,pt 1005),(10,.int .i64 0),(139,.bool xd)]
def qDJ9y_H (r:RPic) (rM:Nat → Int) (rN:Nat → Int) (rS:Nat → Int) (rC:List Man) (x:Int) (r4:Int × Int × Man) (xd:Bool):Heap:=[(1005,⟨[.one (.int .i64 r4.2.2.X),.one (.int .i64 r4.2.2.Look),.one (.bool r4.2.2.First),.one (.func (.yield 1) ⟨[.int .i64 (r4.2.2.Dots 0),.int .i64 (r4.2.2.Dots 1),.int .i64 (r4.2.2.Dots 2),.int .i64 (r4.2.2.Dots 3),.int .i64 (r4.2.2.Dots 4),.int .i64 (r4.2.2.Dots 5),.int .i64 (r4.2.2.Dots 6),.int .i64 (r4.2.2.Dots 7)]⟩ ⟨[.bool r4.2.2.Full]⟩)],119,false⟩)]
def qDJ9y_T1 (r:RPic) (rM:Nat → Int) (rN:Nat → Int) (rS:Nat → Int) (rC:List Man) (x:Int) (r4:Int × Int × Man) (xd:Bool) (r_:Int):Tm:=[(0,pt 1000),(1,.int .i64 x),(10,.int .i64 r_)]
def qDJ9y_H1 (r:RPic) (rM:Nat → Int) (rN:Nat → Int) (rS:Nat → Int) (rC:List Man) (x:Int) (r4:Int × Int × Man) (xd:Bool) (r_:Int):Heap:=[(1005,⟨[.one (.int .i64 r4.2.2.X),.one (.int .i64 r4.2.2.Look),.one (.bool r4.2.2.First),.one (.func (.yield 1) ⟨[.int .i64 (r4.2.2.Dots 0),.int .i64 (r4.2.2.Dots 1),.int .i64 (r4.2.2.Dots 2),.int .i64 (r4.2.2.Dots 3),.int .i64 (r4.2.2.Dots 4),.int .i64 (r4.2.2.Dots 5),.int .i64 (r4.2.2.Dots 6),.int .i64 (r4.2.2.Dots 7)]⟩ ⟨[.bool r4.2.2.Full]⟩)],119,false⟩)]
theorem qDJ9y_p1 (r:RPic) (rM:Nat → Int) (rN:Nat → Int) (rS:Nat → Int) (rC:List Man) (x:Int) (r4:Int × Int × Man) (xd:Bool) (d1:xd = true):Runs Try.prog 179 (bodyOf Try.f78 [1,1,1,1,1,1,0,1]) (qDJ9y_T r rM rN rS rC x r4 xd) (qDJ9y_H r rM rN rS rC x r4 xd) 1006 .normal (qDJ9y_T1 r rM rN rS rC x r4 xd (i64.wrap ((i64.wrap (16 + (i64.wrap (4 * (Int.tmod r4.2.2.Look 4))))) + r4.2.1))) (qDJ9y_H1 r rM rN rS rC x r4 xd (i64.wrap ((i64.wrap (16 + (i64.wrap (4 * (Int.tmod r4.2.2.Look 4))))) + r4.2.1))) 1006:=by
 exact runs_of_x hG hM 400 [.yes] (J d1 (J (by decide:((4:Int) ≠ 0)) trivial)) (by kernel_rfl)
theorem qDJ9y_p2 (r:RPic) (rM:Nat → Int) (rN:Nat → Int) (rS:Nat → Int) (rC:List Man) (x:Int) (r4:Int × Int × Man) (xd:Bool) (d1:xd = false):Runs Try.prog 179 (bodyOf Try.f78 [1,1,1,1,1,1,0,1]) (qDJ9y_T r rM rN rS rC x r4 xd) (qDJ9y_H r rM rN rS rC x r4 xd) 1006 .normal (qDJ9y_T1 r rM rN rS rC x r4 xd (qDJ10yn r rM rN rS rC x (decide (((qDJ2 r rM rN rS rC x).1:Int) > 0)))) (qDJ9y_H1 r rM rN rS rC x r4 xd (qDJ10yn r rM rN rS rC x (decide (((qDJ2 r rM rN rS rC x).1:Int) > 0)))) 1006:=by
 exact runs_of_x hG hM 400 [.no,.segk 2 0 [0,1,4,5,10,148] [] .normal (qDJ10yn_T1 r rM rN rS rC x (NEk4 r rM rN rS rC x) (qDJ10yn r rM rN rS rC x (NEk4 r rM rN rS rC x))) (qDJ10yn_H1 r rM rN rS rC x (NEk4 r rM rN rS rC x) (qDJ10yn r rM rN rS rC x (NEk4 r rM rN rS rC x))) 1006] (J d1 (J (qDJ10yn_runs r rM rN rS rC x (NEk4 r rM rN rS rC x)) trivial)) (by kernel_rfl)
theorem qDJ9y_runs (r:RPic) (rM:Nat → Int) (rN:Nat → Int) (rS:Nat → Int) (rC:List Man) (x:Int) (r4:Int × Int × Man) (xd:Bool):Runs Try.prog 179 (bodyOf Try.f78 [1,1,1,1,1,1,0,1]) (qDJ9y_T r rM rN rS rC x r4 xd) (qDJ9y_H r rM rN rS rC x r4 xd) 1006 .normal (qDJ9y_T1 r rM rN rS rC x r4 xd (qDJ9y r rM rN rS rC x r4 xd)) (qDJ9y_H1 r rM rN rS rC x r4 xd (qDJ9y r rM rN rS rC x r4 xd)) 1006:=by
 rcases bt xd with d1 | d1
 ·
  rw [show qDJ9y r rM rN rS rC x r4 xd = (i64.wrap ((i64.wrap (16 + (i64.wrap (4 * (Int.tmod r4.2.2.Look 4))))) + r4.2.1)) from by unfold qDJ9y;rw [if_pos d1]]
  exact qDJ9y_p1 r rM rN rS rC x r4 xd d1
 ·
  rw [show qDJ9y r rM rN rS rC x r4 xd = (qDJ10yn r rM rN rS rC x (NEk4 r rM rN rS rC x)) from by unfold qDJ9y;rw [if_neg (nt d1)]]
  exact qDJ9y_p2 r rM rN rS rC x r4 xd d1
def qDJ11y (r:RPic) (x:Int) (xd:Int):Int:=
 if (rBit r.Mask 1) = true then
  (i64.wrap ((i64.wrap (Int.tdiv xd 16)) * 16))
 else
  xd
def qDJ11y_T (r:RPic) (x:Int) (xd:Int):Tm:=[(0,pt 1000),(1,.int .i64 x),(11,.int .i64 xd),(161,.bool (rBit r.Mask 1))]
def qDJ11y_H (r:RPic) (x:Int) (xd:Int):Heap:=[]
def qDJ11y_T1 (r:RPic) (x:Int) (xd:Int) (r_:Int):Tm:=[(0,pt 1000),(1,.int .i64 x),(11,.int .i64 r_)]
def qDJ11y_H1 (r:RPic) (x:Int) (xd:Int) (r_:Int):Heap:=[]
theorem qDJ11y_p1 (r:RPic) (x:Int) (xd:Int) (d1:(rBit r.Mask 1) = true):Runs Try.prog 179 (bodyOf Try.f78 [1,1,1,1,1,1,1,1,0,1]) (qDJ11y_T r x xd) (qDJ11y_H r x xd) 1006 .normal (qDJ11y_T1 r x xd (i64.wrap ((i64.wrap (Int.tdiv xd 16)) * 16))) (qDJ11y_H1 r x xd (i64.wrap ((i64.wrap (Int.tdiv xd 16)) * 16))) 1006:=by
 exact runs_of_x hG hM 400 [.yes] (J d1 (J (by decide:((16:Int) ≠ 0)) trivial)) (by kernel_rfl)
theorem qDJ11y_p2 (r:RPic) (x:Int) (xd:Int) (d1:(rBit r.Mask 1) = false):Runs Try.prog 179 (bodyOf Try.f78 [1,1,1,1,1,1,1,1,0,1]) (qDJ11y_T r x xd) (qDJ11y_H r x xd) 1006 .normal (qDJ11y_T1 r x xd xd) (qDJ11y_H1 r x xd xd) 1006:=by
 exact runs_of_x hG hM 400 [.no] (J d1 trivial) (by kernel_rfl)
theorem qDJ11y_runs (r:RPic) (x:Int) (xd:Int):Runs Try.prog 179 (bodyOf Try.f78 [1,1,1,1,1,1,1,1,0,1]) (qDJ11y_T r x xd) (qDJ11y_H r x xd) 1006 .normal (qDJ11y_T1 r x xd (qDJ11y r x xd)) (qDJ11y_H1 r x xd (qDJ11y r x xd)) 1006:=by
 rcases bt (rBit r.Mask 1) with d1 | d1
 ·
  rw [show qDJ11y r x xd = (i64.wrap ((i64.wrap (Int.tdiv xd 16)) * 16)) from by unfold qDJ11y;rw [if_pos d1]]
  exact qDJ11y_p1 r x xd d1
 ·
  rw [show qDJ11y r x xd = xd from by unfold qDJ11y;rw [if_neg (nt d1)]]
  exact qDJ11y_p2 r x xd d1
def qDJ4n (r:RPic) (rM:Nat → Int) (rN:Nat → Int) (rS:Nat → Int) (rC:List Man) (x:Int) (xd:Bool):Int:=
 if xd = true then
  (i64.wrap ((i64.wrap (4 * (qDJ2 r rM rN rS rC x).2)) + (qDJ2 r rM rN rS rC x).1))
 else
  0
def qDJ4n_T (r:RPic) (rM:Nat → Int) (rN:Nat → Int) (rS:Nat → Int) (rC:List Man) (x:Int) (xd:Bool):Tm:=[(0,pt 1000),(1,.int .i64 x),(4,.int .i64 ((qDJ2 r rM rN rS rC x).1)),(5,.int .i64 ((qDJ2 r rM rN rS rC x).2)),(10,.int .i64 0),(148,.bool xd)]
def qDJ4n_H (r:RPic) (rM:Nat → Int) (rN:Nat → Int) (rS:Nat → Int) (rC:List Man) (x:Int) (xd:Bool):Heap:=[]
def qDJ4n_T1 (r:RPic) (rM:Nat → Int) (rN:Nat → Int) (rS:Nat → Int) (rC:List Man) (x:Int) (xd:Bool) (r_:Int):Tm:=[(0,pt 1000),(1,.int .i64 x),(10,.int .i64 r_)]
def qDJ4n_H1 (r:RPic) (rM:Nat → Int) (rN:Nat → Int) (rS:Nat → Int) (rC:List Man) (x:Int) (xd:Bool) (r_:Int):Heap:=[]
theorem qDJ4n_p1 (r:RPic) (rM:Nat → Int) (rN:Nat → Int) (rS:Nat → Int) (rC:List Man) (x:Int) (xd:Bool) (d1:xd = true):Runs Try.prog 179 (bodyOf Try.f78 [1,1,1,1,1,1,0,1,1,1]) (qDJ4n_T r rM rN rS rC x xd) (qDJ4n_H r rM rN rS rC x xd) 1006 .normal (qDJ4n_T1 r rM rN rS rC x xd (i64.wrap ((i64.wrap (4 * (qDJ2 r rM rN rS rC x).2)) + (qDJ2 r rM rN rS rC x).1))) (qDJ4n_H1 r rM rN rS rC x xd (i64.wrap ((i64.wrap (4 * (qDJ2 r rM rN rS rC x).2)) + (qDJ2 r rM rN rS rC x).1))) 1006:=by
 exact runs_of_x hG hM 400 [.yes] (J d1 trivial) (by kernel_rfl)
theorem qDJ4n_p2 (r:RPic) (rM:Nat → Int) (rN:Nat → Int) (rS:Nat → Int) (rC:List Man) (x:Int) (xd:Bool) (d1:xd = false):Runs Try.prog 179 (bodyOf Try.f78 [1,1,1,1,1,1,0,1,1,1]) (qDJ4n_T r rM rN rS rC x xd) (qDJ4n_H r rM rN rS rC x xd) 1006 .normal (qDJ4n_T1 r rM rN rS rC x xd 0) (qDJ4n_H1 r rM rN rS rC x xd 0) 1006:=by
 exact runs_of_x hG hM 400 [.no] (J d1 trivial) (by kernel_rfl)
theorem qDJ4n_runs (r:RPic) (rM:Nat → Int) (rN:Nat → Int) (rS:Nat → Int) (rC:List Man) (x:Int) (xd:Bool):Runs Try.prog 179 (bodyOf Try.f78 [1,1,1,1,1,1,0,1,1,1]) (qDJ4n_T r rM rN rS rC x xd) (qDJ4n_H r rM rN rS rC x xd) 1006 .normal (qDJ4n_T1 r rM rN rS rC x xd (qDJ4n r rM rN rS rC x xd)) (qDJ4n_H1 r rM rN rS rC x xd (qDJ4n r rM rN rS rC x xd)) 1006:=by
 rcases bt xd with d1 | d1
 ·
  rw [show qDJ4n r rM rN rS rC x xd = (i64.wrap ((i64.wrap (4 * (qDJ2 r rM rN rS rC x).2)) + (qDJ2 r rM rN rS rC x).1)) from by unfold qDJ4n;rw [if_pos d1]]
  exact qDJ4n_p1 r rM rN rS rC x xd d1
 ·
  rw [show qDJ4n r rM rN rS rC x xd = 0 from by unfold qDJ4n;rw [if_neg (nt d1)]]
  exact qDJ4n_p2 r rM rN rS rC x xd d1
abbrev NEk1 (r:RPic) (rM rN rS:Nat → Int) (rC:List Man) (x:Int) (r4:Int × Int × Man):=(rPeek ({ r with Hit:=(qDJ7y r rM rN rS rC x r4 (r.Hit,(qDJ6y r rM rN rS rC x r4))) }:RPic) rM rN rS rC (i64.wrap (16128 + (qDJ9y r rM rN rS rC x r4 (qDJ8y r rM rN rS rC x r4)))))
theorem rDraw_p1 (r:RPic) (rM:Nat → Int) (rN:Nat → Int) (rS:Nat → Int) (rC:List Man) (x:Int) (w1c:∀ j,rng 256 (rM j)) (w2c:PlaceOk r.S.V) (w3c:0 ≤ (i64.wrap ((Int.tmod x 8) + r.S.X)) ∧ (i64.wrap ((Int.tmod x 8) + r.S.X)) < 16) (c1:(qDJ3 r rC x ((qDJ2 r rM rN rS rC x).1,(qDJ2 r rM rN rS rC x).2)) = true) (r4:Int × Int × Man) (l4:LoopR (qDL4y r rM rN rS rC x) ((i64.wrap ((((List.length rC):Nat):Int) - 1)),0,({ X:=0,Look:=0,First:=false,Dots:=(fun _ => 0),Full:=false }:Man)) r4) (w4c:0 ≤ (i64.wrap (16128 + (qDJ9y r rM rN rS rC x r4 (qDJ8y r rM rN rS rC x r4))))) (w5c:0 ≤ (i64.wrap ((i64.wrap (256 * r.Line)) + x)) ∧ (i64.wrap ((i64.wrap (256 * r.Line)) + x)) < ((61440:Nat):Int)):FnSpec Try.prog 78 1005 [pt 1000,.int .i64 x] [(1000,(RPic.bl r (sl 1001 16384 1) (sl 1002 256 1) (sl 1004 (List.length rC) 4) (sl 1003 61440 1) false)),(1001,iB 16384 rM false),(1002,iB 256 rN false),(1003,iB 61440 rS false),(1004,mB rC false)] (.tuple ⟨[]⟩) [(1000,(RPic.bl ((({ r with Hit:=(qDJ7y r rM rN rS rC x r4 (r.Hit,(qDJ6y r rM rN rS rC x r4))) }:RPic),(upd rS (Int.toNat (i64.wrap ((i64.wrap (256 * r.Line)) + x))) (u8.wrap (qDJ11y r x (rPeek ({ r with Hit:=(qDJ7y r rM rN rS rC x r4 (r.Hit,(qDJ6y r rM rN rS rC x r4))) }:RPic) rM rN rS rC (i64.wrap (16128 + (qDJ9y r rM rN rS rC x r4 (qDJ8y r rM rN rS rC x r4))))))))).1) (sl 1001 16384 1) (sl 1002 256 1) (sl 1004 (List.length rC) 4) (sl 1003 61440 1) false)),(1001,iB 16384 rM false),(1002,iB 256 rN false),(1003,⟨[.ints .u8 61440 ((({ r with Hit:=(qDJ7y r rM rN rS rC x r4 (r.Hit,(qDJ6y r rM rN rS rC x r4))) }:RPic),(upd rS (Int.toNat (i64.wrap ((i64.wrap (256 * r.Line)) + x))) (u8.wrap (qDJ11y r x (rPeek ({ r with Hit:=(qDJ7y r rM rN rS rC x r4 (r.Hit,(qDJ6y r rM rN rS rC x r4))) }:RPic) rM rN rS rC (i64.wrap (16128 + (qDJ9y r rM rN rS rC x r4 (qDJ8y r rM rN rS rC x r4))))))))).2)],5,false⟩),(1004,mB rC false)]:=by
 exact fn_of_x hG hM Try.func78 (by kernel_rfl) (by kernel_rfl) 400 [.segk 0 2 [0,1,4,5,6,7] [1000] .normal (qDJ1_T1 r rC x (qDJ1 r rC x)) (qDJ1_H1 r rC x (qDJ1 r rC x)) 1006,.segk 2 0 [0,1,4,5,6,7,28] [1000,1001,1002,1003,1004] .normal (qDJ2_T1 r rM rN rS rC x (qDJ2 r rM rN rS rC x)) (qDJ2_H1 r rM rN rS rC x (qDJ2 r rM rN rS rC x)) 1006,.segk 0 4 [0,1,4,5,6,7] [1000] .normal (qDJ3_T1 r rC x ((qDJ2 r rM rN rS rC x).1,(qDJ2 r rM rN rS rC x).2) (qDJ3 r rC x ((qDJ2 r rM rN rS rC x).1,(qDJ2 r rM rN rS rC x).2))) (qDJ3_H1 r rC x ((qDJ2 r rM rN rS rC x).1,(qDJ2 r rM rN rS rC x).2) (qDJ3 r rC x ((qDJ2 r rM rN rS rC x).1,(qDJ2 r rM rN rS rC x).2))) 1006,.yes,.segk 1 0 [0,1,4,5,6,7,8] [1000,1004,1005] .normal (qDL4y_T1 r rM rN rS rC x r4) (qDL4y_H1 r rM rN rS rC x r4) 1006,.segk 0 11 [0,1,4,5,6,7] [1005] .normal (qDJ6y_T1 r rM rN rS rC x r4 (qDJ6y r rM rN rS rC x r4)) (qDJ6y_H1 r rM rN rS rC x r4 (qDJ6y r rM rN rS rC x r4)) 1006,.segk 2 0 [0,1,4,5,6,7,124] [1000] .normal (qDJ7y_T1 r rM rN rS rC x r4 (r.Hit,(qDJ6y r rM rN rS rC x r4)) (qDJ7y r rM rN rS rC x r4 (r.Hit,(qDJ6y r rM rN rS rC x r4)))) (qDJ7y_H1 r rM rN rS rC x r4 (r.Hit,(qDJ6y r rM rN rS rC x r4)) (qDJ7y r rM rN rS rC x r4 (r.Hit,(qDJ6y r rM rN rS rC x r4)))) 1006,.segk 0 14 [0,1,4,5,6,7,10] [1005] .normal (qDJ8y_T1 r rM rN rS rC x r4 (qDJ8y r rM rN rS rC x r4)) (qDJ8y_H1 r rM rN rS rC x r4 (qDJ8y r rM rN rS rC x r4)) 1006,.segk 2 0 [0,1,4,5,6,7,10,139] [1005] .normal (qDJ9y_T1 r rM rN rS rC x r4 (qDJ8y r rM rN rS rC x r4) (qDJ9y r rM rN rS rC x r4 (qDJ8y r rM rN rS rC x r4))) (qDJ9y_H1 r rM rN rS rC x r4 (qDJ8y r rM rN rS rC x r4) (qDJ9y r rM rN rS rC x r4 (qDJ8y r rM rN rS rC x r4))) 1006,.callr [(1000,1000),(1001,1001),(1002,1002),(1003,1003),(1004,1004)] [1000,1001,1002,1003,1004] [] 1005 (.int .i64 (NEk1 r rM rN rS rC x r4)) [],.call [] [] 1000 (.bool (rBit r.Mask 1)) [],.segk 2 0 [0,1,11,161] [] .normal (qDJ11y_T1 r x (NEk1 r rM rN rS rC x r4) (qDJ11y r x (NEk1 r rM rN rS rC x r4))) (qDJ11y_H1 r x (NEk1 r rM rN rS rC x r4) (qDJ11y r x (NEk1 r rM rN rS rC x r4))) 1006,.sym] (J (qDJ1_runs r rC x) (J (qDJ2_runs r rM rN rS rC x w1c w2c w3c) (J (qDJ3_runs r rC x ((qDJ2 r rM rN rS rC x).1,(qDJ2 r rM rN rS rC x).2)) (J c1 (J (Runs.preW (show HW [(1000,(RPic.bl r (sl 1001 16384 1) (sl 1002 256 1) (sl 1004 (List.length rC) 4) (sl 1003 61440 1) false)),(1004,mB rC false),(1005,⟨[.one (.int .i64 0),.one (.int .i64 0),.one (.bool false),.one (.slice none 0 0)],119,false⟩)] (qDL4y_H r rM rN rS rC x ((i64.wrap ((((List.length rC):Nat):Int) - 1)),0,({ X:=0,Look:=0,First:=false,Dots:=(fun _ => 0),Full:=false }:Man))) from (HW.cons 1000 (SW.refl _) (by exact rfl) (by exact rfl) (HW.cons 1004 (SW.refl _) (by exact rfl) (by exact rfl) (HW.cons 1005 (SW.cons _ (SW.cons _ (SW.cons _ (SW.one (VW.nil 1 _ rfl) SW.nil)))) (by exact rfl) (by exact rfl) HW.nil)))) (qDL4y_runs r rM rN rS rC x ((i64.wrap ((((List.length rC):Nat):Int) - 1)),0,({ X:=0,Look:=0,First:=false,Dots:=(fun _ => 0),Full:=false }:Man)) r4 l4)) (J (qDJ6y_runs r rM rN rS rC x r4) (J (qDJ7y_runs r rM rN rS rC x r4 (r.Hit,(qDJ6y r rM rN rS rC x r4))) (J (qDJ8y_runs r rM rN rS rC x r4) (J (qDJ9y_runs r rM rN rS rC x r4 (qDJ8y r rM rN rS rC x r4)) (J (rPeek_ok ({ r with Hit:=(qDJ7y r rM rN rS rC x r4 (r.Hit,(qDJ6y r rM rN rS rC x r4))) }:RPic) rM rN rS rC (i64.wrap (16128 + (qDJ9y r rM rN rS rC x r4 (qDJ8y r rM rN rS rC x r4)))) w4c) (J (rBit_ok r.Mask 1 (by decide:(1:Int) ≠ 0)) (J (qDJ11y_runs r x (NEk1 r rM rN rS rC x r4)) (J w5c (J (lt_nat w5c) trivial)))))))))))))) (by kernel_rfl)
abbrev NEk2 (r:RPic) (rM rN rS:Nat → Int) (rC:List Man) (x:Int):=(rPeek r rM rN rS rC (i64.wrap (16128 + (qDJ4n r rM rN rS rC x (NEk4 r rM rN rS rC x)))))
theorem rDraw_p2 (r:RPic) (rM:Nat → Int) (rN:Nat → Int) (rS:Nat → Int) (rC:List Man) (x:Int) (w1c:∀ j,rng 256 (rM j)) (w2c:PlaceOk r.S.V) (w3c:0 ≤ (i64.wrap ((Int.tmod x 8) + r.S.X)) ∧ (i64.wrap ((Int.tmod x 8) + r.S.X)) < 16) (c1:(qDJ3 r rC x ((qDJ2 r rM rN rS rC x).1,(qDJ2 r rM rN rS rC x).2)) = false) (w4c:0 ≤ (i64.wrap (16128 + (qDJ4n r rM rN rS rC x (decide (((qDJ2 r rM rN rS rC x).1:Int) > 0)))))) (w5c:0 ≤ (i64.wrap ((i64.wrap (256 * r.Line)) + x)) ∧ (i64.wrap ((i64.wrap (256 * r.Line)) + x)) < ((61440:Nat):Int)):FnSpec Try.prog 78 1005 [pt 1000,.int .i64 x] [(1000,(RPic.bl r (sl 1001 16384 1) (sl 1002 256 1) (sl 1004 (List.length rC) 4) (sl 1003 61440 1) false)),(1001,iB 16384 rM false),(1002,iB 256 rN false),(1003,iB 61440 rS false),(1004,mB rC false)] (.tuple ⟨[]⟩) [(1000,(RPic.bl ((r,(upd rS (Int.toNat (i64.wrap ((i64.wrap (256 * r.Line)) + x))) (u8.wrap (qDJ11y r x (rPeek r rM rN rS rC (i64.wrap (16128 + (qDJ4n r rM rN rS rC x (decide (((qDJ2 r rM rN rS rC x).1:Int) > 0)))))))))).1) (sl 1001 16384 1) (sl 1002 256 1) (sl 1004 (List.length rC) 4) (sl 1003 61440 1) false)),(1001,iB 16384 rM false),(1002,iB 256 rN false),(1003,⟨[.ints .u8 61440 ((r,(upd rS (Int.toNat (i64.wrap ((i64.wrap (256 * r.Line)) + x))) (u8.wrap (qDJ11y r x (rPeek r rM rN rS rC (i64.wrap (16128 + (qDJ4n r rM rN rS rC x (decide (((qDJ2 r rM rN rS rC x).1:Int) > 0)))))))))).2)],5,false⟩),(1004,mB rC false)]:=by
 exact fn_of_x hG hM Try.func78 (by kernel_rfl) (by kernel_rfl) 400 [.segk 0 2 [0,1,4,5,6,7] [1000] .normal (qDJ1_T1 r rC x (qDJ1 r rC x)) (qDJ1_H1 r rC x (qDJ1 r rC x)) 1006,.segk 2 0 [0,1,4,5,6,7,28] [1000,1001,1002,1003,1004] .normal (qDJ2_T1 r rM rN rS rC x (qDJ2 r rM rN rS rC x)) (qDJ2_H1 r rM rN rS rC x (qDJ2 r rM rN rS rC x)) 1006,.segk 0 4 [0,1,4,5,6,7] [1000] .normal (qDJ3_T1 r rC x ((qDJ2 r rM rN rS rC x).1,(qDJ2 r rM rN rS rC x).2) (qDJ3 r rC x ((qDJ2 r rM rN rS rC x).1,(qDJ2 r rM rN rS rC x).2))) (qDJ3_H1 r rC x ((qDJ2 r rM rN rS rC x).1,(qDJ2 r rM rN rS rC x).2) (qDJ3 r rC x ((qDJ2 r rM rN rS rC x).1,(qDJ2 r rM rN rS rC x).2))) 1006,.no,.no,.no,.no,.no,.no,.no,.no,.no,.no,.no,.no,.no,.no,.no,.no,.no,.segk 2 0 [0,1,4,5,10,148] [] .normal (qDJ4n_T1 r rM rN rS rC x (NEk4 r rM rN rS rC x) (qDJ4n r rM rN rS rC x (NEk4 r rM rN rS rC x))) (qDJ4n_H1 r rM rN rS rC x (NEk4 r rM rN rS rC x) (qDJ4n r rM rN rS rC x (NEk4 r rM rN rS rC x))) 1006,.callr [(1000,1000),(1001,1001),(1002,1002),(1003,1003),(1004,1004)] [1000,1001,1002,1003,1004] [] 1005 (.int .i64 (NEk2 r rM rN rS rC x)) [],.call [] [] 1000 (.bool (rBit r.Mask 1)) [],.segk 2 0 [0,1,11,161] [] .normal (qDJ11y_T1 r x (NEk2 r rM rN rS rC x) (qDJ11y r x (NEk2 r rM rN rS rC x))) (qDJ11y_H1 r x (NEk2 r rM rN rS rC x) (qDJ11y r x (NEk2 r rM rN rS rC x))) 1006,.sym] (J (qDJ1_runs r rC x) (J (qDJ2_runs r rM rN rS rC x w1c w2c w3c) (J (qDJ3_runs r rC x ((qDJ2 r rM rN rS rC x).1,(qDJ2 r rM rN rS rC x).2)) (J c1 (J T0 (J T0 (J T0 (J T0 (J T0 (J T0 (J T0 (J T0 (J T0 (J T0 (J T0 (J T0 (J T0 (J T0 (J T0 (J T0 (J (qDJ4n_runs r rM rN rS rC x (NEk4 r rM rN rS rC x)) (J (rPeek_ok r rM rN rS rC (i64.wrap (16128 + (qDJ4n r rM rN rS rC x (NEk4 r rM rN rS rC x)))) w4c) (J (rBit_ok r.Mask 1 (by decide:(1:Int) ≠ 0)) (J (qDJ11y_runs r x (NEk2 r rM rN rS rC x)) (J w5c (J (lt_nat w5c) trivial)))))))))))))))))))))))))) (by kernel_rfl)
end Go.Proofs.Ytgnhhnmpeklciaa
namespace Go.Proofs.Ytgnhhnmpeklciaa
open Go VX
open Go.IntKind (i64 u8 u16)
structure ManOk (c:Man):Prop where
 x:0 ≤ c.X ∧ c.X < 256
 look:0 ≤ c.Look ∧ c.Look < 256
 dots:∀ j,0 ≤ c.Dots j ∧ c.Dots j < 4
def noR:Man:={ X:=0,Look:=0,First:=false,Dots:=(fun _ => 0),Full:=false }
def findR (x:Int):List Man → Int × Man
 | [] => (0,noR)
 | c :: L => if c.X ≤ x ∧ x < c.X + 8 ∧ c.Dots (x - c.X).toNat > 0 then (c.Dots (x - c.X).toNat,{ c with Full:=true }) else findR x L
def tileR (r:RPic) (rM:Nat → Int) (rN:Nat → Int) (rS:Nat → Int) (rC:List Man) (x:Int):Int × Int:=if rBit r.Mask 8 = true ∧ (x > 7 ∨ rBit r.Mask 2 = true) then rTileF r rM rN rS rC r.S.V (x % 8 + r.S.X) else (0,0)
def manR (r:RPic) (C:List Man) (x:Int):Int × Man:=if rBit r.Mask 16 = true ∧ (x > 7 ∨ rBit r.Mask 4 = true) then findR x C else (0,noR)
def atR (t:Int × Int) (s:Int × Man):Int:=if 0 < s.1 ∧ (t.1 = 0 ∨ rBit s.2.Look 32 = false) then 16 + 4 * (s.2.Look % 4) + s.1 else if 0 < t.1 then 4 * t.2 + t.1 else 0
def hitR (b:Bool) (t:Int × Int) (s:Int × Man) (x:Int):Bool:=if 0 < s.1 ∧ s.2.First = true ∧ 0 < t.1 ∧ x ≠ 255 then true else b
def greyR (mask c:Int):Int:=if rBit mask 1 = true then c / 16 * 16 else c
def rDrawF (r : RPic) (rM : Nat → Int) (rN : Nat → Int) (rS : Nat → Int) (rC : List Man) (x : Int) : RPic × (Nat → Int) :=
  ({ r with Hit := hitR r.Hit (tileR r rM rN rS rC x) (manR r rC x) x },
   upd rS (256 * r.Line + x).toNat (greyR r.Mask (rPeek r rM rN rS rC (16128 + atR (tileR r rM rN rS rC x) (manR r rC x)))))
theorem noR_ok:ManOk noR:=⟨⟨by decide,by decide⟩,⟨by decide,by decide⟩,fun _ => ⟨Int.le_refl 0,show (0:Int) < 4 by decide⟩⟩
theorem findR_ok (x:Int):∀ C:List Man,(∀ c ∈ C,ManOk c) → ManOk (findR x C).2 ∧ 0 ≤ (findR x C).1 ∧ (findR x C).1 < 4
 | [],_ => ⟨noR_ok,by show (0:Int) ≤ 0;decide,by show (0:Int) < 4;decide⟩
 | c :: L,h => by
  have hc:=h c (List.mem_cons_self)
  unfold findR
  split
  ·exact ⟨⟨hc.x,hc.look,hc.dots⟩,(hc.dots _).1,(hc.dots _).2⟩
  ·exact findR_ok x L fun d hd => h d (List.mem_cons_of_mem _ hd)
theorem rNum_rng {a b:Int} (h0:0 ≤ a) (h1:0 ≤ b) (ha:a < 256) (hb:b < 256) (j:Nat):0 ≤ rNum a b j ∧ rNum a b j < 4:=by
 have hd:0 < dotD j:=by unfold dotD;split <;> decide
 have q1:0 ≤ a / dotD j:=Int.ediv_nonneg h0 (Int.le_of_lt hd)
 have q2:0 ≤ b / dotD j:=Int.ediv_nonneg h1 (Int.le_of_lt hd)
 have q3:a / dotD j ≤ a:=Int.ediv_le_self _ h0
 have q4:b / dotD j ≤ b:=Int.ediv_le_self _ h1
 unfold rNum
 rw [td_e _ h0,td_e _ h1,w64 (x:=a / dotD j) (by omega) (by omega),w64 (x:=b / dotD j) (by omega) (by omega),tm_e 2 q1,tm_e 2 q2,w64 (x:=2 * _) (by omega) (by omega),w64 (by omega) (by omega)]
 omega
theorem tileF_rng {r:RPic} {M N S:Nat → Int} {C:List Man} (w:∀ j,rng 256 (M j)) (v:Place) (x:Int):(0 ≤ (rTileF r M N S C v x).1 ∧ (rTileF r M N S C v x).1 < 4) ∧ 0 ≤ (rTileF r M N S C v x).2 ∧ (rTileF r M N S C v x).2 < 4:=by
 unfold rTileF
 refine ⟨rNum_rng (w _).1 (w _).1 (w _).2 (w _).2 _,?_,?_⟩
 ·simp only;omega
 ·simp only;omega
theorem tileR_rng {r:RPic} {M N S:Nat → Int} {C:List Man} (w:∀ j,rng 256 (M j)) (x:Int):(0 ≤ (tileR r M N S C x).1 ∧ (tileR r M N S C x).1 < 4) ∧ 0 ≤ (tileR r M N S C x).2 ∧ (tileR r M N S C x).2 < 4:=by
 unfold tileR;split
 ·exact tileF_rng w _ _
 ·exact ⟨⟨by show (0:Int) ≤ 0;decide,by show (0:Int) < 4;decide⟩,by show (0:Int) ≤ 0;decide,by show (0:Int) < 4;decide⟩
theorem atR_rng {t:Int × Int} {s:Int × Man} (h1:(0 ≤ t.1 ∧ t.1 < 4) ∧ 0 ≤ t.2 ∧ t.2 < 4) (h2:0 ≤ s.1 ∧ s.1 < 4):0 ≤ atR t s ∧ atR t s < 32:=by
 unfold atR;split
 ·omega
 ·split <;> omega
theorem find_loop (r:RPic) (rM:Nat → Int) (rN:Nat → Int) (rS:Nat → Int) (rC:List Man) (x:Int) (hx:0 ≤ x ∧ x < 256) (hC:∀ c ∈ rC,ManOk c) (hL:rC.length ≤ 8):∀ (n:Nat) (p M:List Man),p.length = n → rC = p ++ M →
  LoopR (qDL4y r rM rN rS rC x) ((n:Int) - 1,findR x M) (-1,findR x rC)
 | 0,p,M,hp,h => by
  have:p = []:=List.eq_nil_of_length_eq_zero hp
  subst this
  have:M = rC:=by rw [h];rfl
  subst this
  exact .last (.p4 (decide_eq_false (show ¬ (((0:Nat):Int) - 1 ≥ 0) by decide)))
 | n + 1,p,M,hp,h => by
  obtain ⟨q,s,rfl⟩:∃ q s,p = q ++ [s]:=⟨p.dropLast,p.getLast (by intro e;rw [e] at hp;simp at hp),(List.dropLast_concat_getLast _).symm⟩
  have hq:q.length = n:=by simpa using hp
  have hlen:rC.length = n + 1 + M.length:=by rw [h];simp [hq];omega
  have ei:((n + 1:Nat):Int) - 1 = (n:Int):=by omega
  have hg:List.getD rC (Int.toNat (((n + 1:Nat):Int) - 1)) Man.nil = s:=by
   rw [ei,Int.toNat_natCast,h,List.append_assoc,List.getD_eq_getElem?_getD,List.getElem?_append_right (by omega),hq]
   simp
  have hs:ManOk s:=hC s (by rw [h];simp)
  obtain ⟨hsx,hsl,hsd⟩:=hs
  have ih:=find_loop r rM rN rS rC x hx hC hL n q (s :: M) hq (by rw [h];simp)
  have hw:i64.wrap (((n + 1:Nat):Int) - 1 - 1) = (n:Int) - 1:=by rw [w64 (by omega) (by omega)];omega
  have hd:(decide ((((n + 1:Nat):Int) - 1) ≥ 0)) = true:=decide_eq_true (by omega)
  have hr:0 ≤ (((n + 1:Nat):Int) - 1) ∧ (((n + 1:Nat):Int) - 1) < (((List.length rC):Nat):Int):=by omega
  by_cases c1:s.X ≤ x
  ·by_cases c2:x < s.X + 8
   ·have hwx:i64.wrap (x - s.X) = x - s.X:=w64 (by omega) (by omega)
    have h8:(x - s.X).toNat < 8:=by omega
    have st:=qDL4y.p1 (r:=r) (rM:=rM) (rN:=rN) (rS:=rS) (rC:=rC) (x:=x) (xd:=(((n + 1:Nat):Int) - 1,findR x M)) hd hr (by simp only [hg];exact decide_eq_true c1) (by simp only [hg];rw [w64 (by omega) (by omega)];exact decide_eq_true c2) (by simp only [hg];rw [hwx];omega)
    simp only [hg,hw] at st
    rw [hwx,at8_eq _ h8] at st
    have e:∀ b:Bool,b = decide (s.Dots (x - s.X).toNat > 0) → (qDJ5yyyy r rM rN rS rC x (((n + 1:Nat):Int) - 1,findR x M) ((findR x M).2,s.Dots (x - s.X).toNat,b,b)) = findR x (s :: M):=by
     intro b hb
     unfold qDJ5yyyy
     simp only [hg,hwx]
     rw [at8_eq _ h8,hb]
     simp only [findR,decide_eq_true_eq]
     by_cases c3:s.Dots (x - s.X).toNat > 0
     ·rw [if_pos c3,if_pos ⟨c1,c2,c3⟩]
     ·rw [if_neg c3,if_neg (fun k => c3 k.2.2)]
    rw [e _ rfl] at st
    exact .more st ih
   ·have st:=qDL4y.p2 (r:=r) (rM:=rM) (rN:=rN) (rS:=rS) (rC:=rC) (x:=x) (xd:=(((n + 1:Nat):Int) - 1,findR x M)) hd hr (by simp only [hg];exact decide_eq_true c1) (by simp only [hg];rw [w64 (by omega) (by omega)];exact decide_eq_false c2)
    simp only [hw] at st
    have e:findR x (s :: M) = findR x M:=by simp only [findR];rw [if_neg (fun k => c2 k.2.1)]
    rw [e] at ih
    exact .more st ih
  ·have st:=qDL4y.p3 (r:=r) (rM:=rM) (rN:=rN) (rS:=rS) (rC:=rC) (x:=x) (xd:=(((n + 1:Nat):Int) - 1,findR x M)) hd hr (by simp only [hg];exact decide_eq_false c1)
   simp only [hw] at st
   have e:findR x (s :: M) = findR x M:=by simp only [findR];rw [if_neg (fun k => c1 k.1)]
   rw [e] at ih
   exact .more st ih
section
variable (r:RPic) (rM:Nat → Int) (rN:Nat → Int) (rS:Nat → Int) (rC:List Man) (x:Int)
theorem dj2 (hX:0 ≤ r.S.X ∧ r.S.X < 8) (hx:0 ≤ x ∧ x < 256):qDJ2 r rM rN rS rC x = tileR r rM rN rS rC x:=by
 unfold qDJ2 qDJ1 tileR
 rw [tm_e 8 hx.1,w64 (x:=x % 8 + r.S.X) (by omega) (by omega)]
 cases rBit r.Mask 8 with
 | false => simp
 | true =>
  by_cases h:x > 7
  ·simp [h]
  ·simp [h]
theorem dj3 (t:Int × Int):qDJ3 r rC x t = decide (rBit r.Mask 16 = true ∧ (x > 7 ∨ rBit r.Mask 4 = true)):=by
 unfold qDJ3
 cases rBit r.Mask 16 with
 | false => simp
 | true =>
  by_cases h:x > 7
  ·simp [h]
  ·simp [h]
variable {r rM rN rS rC x} (t:Int × Int) (ht:qDJ2 r rM rN rS rC x = t) (s:Int × Man) (i:Int)
include ht
theorem dj7 (b:Bool):qDJ7y r rM rN rS rC x (i,s) (b,qDJ6y r rM rN rS rC x (i,s)) = hitR b t s x:=by
 unfold qDJ7y qDJ6y hitR
 rw [ht]
 by_cases h1:0 < s.1
 ·by_cases h2:s.2.First = true
  ·by_cases h3:0 < t.1
   ·by_cases h4:x = 255
    ·simp [h1,h2,h3,h4]
    ·simp [h1,h2,h3,h4]
   ·simp [h1,h2,h3]
  ·simp [h1,h2]
 ·simp [h1]
theorem dj9 (h1:(0 ≤ t.1 ∧ t.1 < 4) ∧ 0 ≤ t.2 ∧ t.2 < 4) (h2:0 ≤ s.1 ∧ s.1 < 4) (h3:ManOk s.2):qDJ9y r rM rN rS rC x (i,s) (qDJ8y r rM rN rS rC x (i,s)) = atR t s:=by
 have hl:=h3.look
 unfold qDJ9y qDJ8y qDJ10yn atR
 rw [ht]
 have e1:i64.wrap (i64.wrap (4 * t.2) + t.1) = 4 * t.2 + t.1:=by rw [w64 (x:=4 * t.2) (by omega) (by omega),w64 (by omega) (by omega)]
 have e2:i64.wrap (i64.wrap (16 + i64.wrap (4 * Int.tmod s.2.Look 4)) + s.1) = 16 + 4 * (s.2.Look % 4) + s.1:=by
  rw [tm_e 4 hl.1,w64 (x:=4 * _) (by omega) (by omega),w64 (x:=16 + _) (by omega) (by omega),w64 (by omega) (by omega)]
 simp only [e1,e2]
 by_cases c1:0 < s.1
 ·by_cases c2:t.1 = 0
  ·simp [c1,c2]
  ·cases c3:rBit s.2.Look 32 <;> simp [c1,c2,c3]
 ·simp [c1]
theorem dj4 (h1:(0 ≤ t.1 ∧ t.1 < 4) ∧ 0 ≤ t.2 ∧ t.2 < 4):qDJ4n r rM rN rS rC x (decide (t.1 > 0)) = atR t (0,noR):=by
 unfold qDJ4n atR
 rw [ht]
 have e1:i64.wrap (i64.wrap (4 * t.2) + t.1) = 4 * t.2 + t.1:=by rw [w64 (x:=4 * t.2) (by omega) (by omega),w64 (by omega) (by omega)]
 simp only [e1]
 simp
end
theorem dj11 (r:RPic) (x c:Int) (h:rng 256 c):qDJ11y r x c = greyR r.Mask c ∧ 0 ≤ greyR r.Mask c ∧ greyR r.Mask c < 256:=by
 have h0:=h.1;have h1:c < 256:=h.2
 unfold qDJ11y greyR
 rw [td_e 16 h0,w64 (x:=c / 16) (by omega) (by omega),w64 (by omega) (by omega)]
 refine ⟨rfl,?_,?_⟩ <;> split <;> omega
theorem rDrawF_ok (r:RPic) (rM:Nat → Int) (rN:Nat → Int) (rS:Nat → Int) (rC:List Man) (x:Int) (w:∀ j,rng 256 (rM j)) (hv:PlaceOk r.S.V) (hX:0 ≤ r.S.X ∧ r.S.X < 8) (hx:0 ≤ x ∧ x < 256) (hl:0 ≤ r.Line ∧ r.Line < 240) (hC:∀ c ∈ rC,ManOk c) (hL:rC.length ≤ 8):FnSpec Try.prog 78 1005 [pt 1000,.int .i64 x] [(1000,(RPic.bl r (sl 1001 16384 1) (sl 1002 256 1) (sl 1004 (List.length rC) 4) (sl 1003 61440 1) false)),(1001,iB 16384 rM false),(1002,iB 256 rN false),(1003,iB 61440 rS false),(1004,mB rC false)] (.tuple ⟨[]⟩) [(1000,(RPic.bl (rDrawF r rM rN rS rC x).1 (sl 1001 16384 1) (sl 1002 256 1) (sl 1004 (List.length rC) 4) (sl 1003 61440 1) false)),(1001,iB 16384 rM false),(1002,iB 256 rN false),(1003,⟨[.ints .u8 61440 (rDrawF r rM rN rS rC x).2],5,false⟩),(1004,mB rC false)]:=by
 have ht:=dj2 r rM rN rS rC x hX hx
 have rt:=tileR_rng (r:=r) (N:=rN) (S:=rS) (C:=rC) w x
 have wp:=fun a => rPeek_rng (r:=r) (N:=rN) (S:=rS) (C:=rC) w a
 have hw5:i64.wrap (i64.wrap (256 * r.Line) + x) = 256 * r.Line + x:=by rw [w64 (x:=256 * r.Line) (by omega) (by omega),w64 (by omega) (by omega)]
 have hw3:i64.wrap (Int.tmod x 8 + r.S.X) = x % 8 + r.S.X:=by rw [tm_e 8 hx.1,w64 (by omega) (by omega)]
 have h3:=dj3 r rC x ((qDJ2 r rM rN rS rC x).1,(qDJ2 r rM rN rS rC x).2)
 have g:∀ a,u8.wrap (qDJ11y r x (rPeek r rM rN rS rC a)) = greyR r.Mask (rPeek r rM rN rS rC a):=fun a => by
  obtain ⟨e,g0,g1⟩:=dj11 r x _ (wp a)
  rw [e,IntKind.wrap_u8];omega
 unfold rDrawF
 generalize hT:tileR r rM rN rS rC x = t at ht rt
 by_cases c:rBit r.Mask 16 = true ∧ (x > 7 ∨ rBit r.Mask 4 = true)
 ·have em:manR r rC x = findR x rC:=if_pos c
  rw [em]
  obtain ⟨mk,ms⟩:=findR_ok x rC hC
  generalize hS:findR x rC = s at mk ms
  have lp:=find_loop r rM rN rS rC x hx hC hL rC.length rC [] rfl (by simp)
  rw [hS] at lp
  have a0:=atR_rng rt ms
  have ea:=dj9 t ht s (-1) rt ms mk
  have ea2:i64.wrap (16128 + qDJ9y r rM rN rS rC x (-1,s) (qDJ8y r rM rN rS rC x (-1,s))) = 16128 + atR t s:=by rw [ea,w64 (by omega) (by omega)]
  have p:=rDraw_p1 r rM rN rS rC x w hv (by rw [hw3];omega) (by rw [h3];exact decide_eq_true c) (-1,s) (by rw [w64 (by omega) (by omega)];exact lp) (by rw [ea2];omega) (by rw [hw5];omega)
  rw [ea2,hw5,dj7 t ht s (-1) r.Hit] at p
  have g':=g (16128 + atR t s)
  have e:u8.wrap (qDJ11y r x (rPeek ({ r with Hit:=hitR r.Hit t s x }:RPic) rM rN rS rC (16128 + atR t s))) = greyR r.Mask (rPeek r rM rN rS rC (16128 + atR t s)):=g'
  rw [e] at p
  exact p
 ·have em:manR r rC x = (0,noR):=if_neg c
  rw [em]
  have a0:=atR_rng (s:=(0,noR)) rt ⟨Int.le_refl 0,show (0:Int) < 4 by decide⟩
  have ea:=dj4 (x:=x) t ht rt
  have ea2:i64.wrap (16128 + qDJ4n r rM rN rS rC x (decide (((qDJ2 r rM rN rS rC x).1:Int) > 0))) = 16128 + atR t (0,noR):=by rw [ht,ea,w64 (by omega) (by omega)]
  have p:=rDraw_p2 r rM rN rS rC x w hv (by rw [hw3];omega) (by rw [h3];exact decide_eq_false c) (by rw [ea2];omega) (by rw [hw5];omega)
  rw [ea2,hw5,g] at p
  have eh:hitR r.Hit t (0,noR) x = r.Hit:=by unfold hitR;rw [if_neg (fun k => absurd k.1 (by decide))]
  rw [eh]
  exact p
end Go.Proofs.Ytgnhhnmpeklciaa
namespace Go.Proofs.Ytgnhhnmpeklciaa
open Go VX
open Go.IntKind (i64 u8 u16)
def qHJ1 (r:RPic):Bool:=
 if (decide (r.Line > 239)) = true then
  true
 else
  ((Int.tmod (i64.wrap (Int.tdiv r.Mask 8)) 4) == 0)
def qHJ1_T (r:RPic):Tm:=[(0,pt 1000)]
def qHJ1_H (r:RPic):Heap:=[(1000,(RPic.bl r (sl 1001 16384 1) (sl 1002 256 1) (.slice none 0 0) (sl 1003 61440 1) false))]
def qHJ1_T1 (r:RPic) (r_:Bool):Tm:=[(0,pt 1000),(28,.bool r_)]
def qHJ1_H1 (r:RPic) (r_:Bool):Heap:=[(1000,(RPic.bl r (sl 1001 16384 1) (sl 1002 256 1) (.slice none 0 0) (sl 1003 61440 1) false))]
theorem qHJ1_p1 (r:RPic) (d1:(decide (r.Line > 239)) = true):Runs Try.prog 196 (bodyOf Try.f83 [1,0,0]) (qHJ1_T r) (qHJ1_H r) 1005 .normal (qHJ1_T1 r true) (qHJ1_H1 r true) 1005:=by
 exact runs_of_x hG hM 400 [.yes,.yes,.yes,.yes,.yes,.yes,.yes,.yes] (J d1 (J d1 (J d1 (J d1 (J d1 (J d1 (J d1 (J d1 trivial)))))))) (by kernel_rfl)
theorem qHJ1_p2 (r:RPic) (d1:(decide (r.Line > 239)) = false):Runs Try.prog 196 (bodyOf Try.f83 [1,0,0]) (qHJ1_T r) (qHJ1_H r) 1005 .normal (qHJ1_T1 r ((Int.tmod (i64.wrap (Int.tdiv r.Mask 8)) 4) == 0)) (qHJ1_H1 r ((Int.tmod (i64.wrap (Int.tdiv r.Mask 8)) 4) == 0)) 1005:=by
 exact runs_of_x hG hM 400 [.no,.no,.no,.no,.no,.no,.no,.no] (J d1 (J d1 (J d1 (J d1 (J d1 (J (by decide:((8:Int) ≠ 0)) (J d1 (J (by decide:((4:Int) ≠ 0)) (J d1 (J d1 trivial)))))))))) (by kernel_rfl)
theorem qHJ1_runs (r:RPic):Runs Try.prog 196 (bodyOf Try.f83 [1,0,0]) (qHJ1_T r) (qHJ1_H r) 1005 .normal (qHJ1_T1 r (qHJ1 r)) (qHJ1_H1 r (qHJ1 r)) 1005:=by
 rcases bt (decide (r.Line > 239)) with d1 | d1
 ·
  rw [show qHJ1 r = true from by unfold qHJ1;rw [if_pos d1]]
  exact qHJ1_p1 r d1
 ·
  rw [show qHJ1 r = ((Int.tmod (i64.wrap (Int.tdiv r.Mask 8)) 4) == 0) from by unfold qHJ1;rw [if_neg (nt d1)]]
  exact qHJ1_p2 r d1
def qHJ2n (r:RPic):Int:=
 if (rBit r.Control 32) = true then
  16
 else
  8
def qHJ2n_T (r:RPic):Tm:=[(0,pt 1000),(2,.int .i64 8),(33,.bool (rBit r.Control 32))]
def qHJ2n_H (r:RPic):Heap:=[]
def qHJ2n_T1 (r:RPic) (r_:Int):Tm:=[(0,pt 1000),(2,.int .i64 r_)]
def qHJ2n_H1 (r:RPic) (r_:Int):Heap:=[]
theorem qHJ2n_p1 (r:RPic) (d1:(rBit r.Control 32) = true):Runs Try.prog 196 (bodyOf Try.f83 [1,1,1,0,1]) (qHJ2n_T r) (qHJ2n_H r) 1005 .normal (qHJ2n_T1 r 16) (qHJ2n_H1 r 16) 1005:=by
 exact runs_of_x hG hM 400 [.yes] (J d1 trivial) (by kernel_rfl)
theorem qHJ2n_p2 (r:RPic) (d1:(rBit r.Control 32) = false):Runs Try.prog 196 (bodyOf Try.f83 [1,1,1,0,1]) (qHJ2n_T r) (qHJ2n_H r) 1005 .normal (qHJ2n_T1 r 8) (qHJ2n_H1 r 8) 1005:=by
 exact runs_of_x hG hM 400 [.no] (J d1 trivial) (by kernel_rfl)
theorem qHJ2n_runs (r:RPic):Runs Try.prog 196 (bodyOf Try.f83 [1,1,1,0,1]) (qHJ2n_T r) (qHJ2n_H r) 1005 .normal (qHJ2n_T1 r (qHJ2n r)) (qHJ2n_H1 r (qHJ2n r)) 1005:=by
 rcases bt (rBit r.Control 32) with d1 | d1
 ·
  rw [show qHJ2n r = 16 from by unfold qHJ2n;rw [if_pos d1]]
  exact qHJ2n_p1 r d1
 ·
  rw [show qHJ2n r = 8 from by unfold qHJ2n;rw [if_neg (nt d1)]]
  exact qHJ2n_p2 r d1
def qHJ4ny (r:RPic) (xd:(List Man) × Int × RPic) (xe:Int × Int × Int × Int):Bool:=
 if (decide (xe.2.2.2 < 0)) = true then
  true
 else
  (decide (xe.2.2.2 ≥ (qHJ2n r)))
def qHJ4ny_T (r:RPic) (xd:(List Man) × Int × RPic) (xe:Int × Int × Int × Int):Tm:=[(0,pt 1000),(2,.int .i64 (qHJ2n r)),(3,.int .i64 xd.2.1),(5,.int .i64 xe.1),(6,.int .i64 xe.2.1),(7,.int .i64 xe.2.2.1),(8,.int .i64 xe.2.2.2)]
def qHJ4ny_H (r:RPic) (xd:(List Man) × Int × RPic) (xe:Int × Int × Int × Int):Heap:=[]
def qHJ4ny_T1 (r:RPic) (xd:(List Man) × Int × RPic) (xe:Int × Int × Int × Int) (r_:Bool):Tm:=[(0,pt 1000),(2,.int .i64 (qHJ2n r)),(3,.int .i64 xd.2.1),(5,.int .i64 xe.1),(6,.int .i64 xe.2.1),(7,.int .i64 xe.2.2.1),(8,.int .i64 xe.2.2.2),(89,.bool r_)]
def qHJ4ny_H1 (r:RPic) (xd:(List Man) × Int × RPic) (xe:Int × Int × Int × Int) (r_:Bool):Heap:=[]
theorem qHJ4ny_p1 (r:RPic) (xd:(List Man) × Int × RPic) (xe:Int × Int × Int × Int) (e1:(decide (xe.2.2.2 < 0)) = true):Runs Try.prog 196 (bodyOf Try.f83 [1,1,1,1,1,0,0,1,0,0,1,1,0,0]) (qHJ4ny_T r xd xe) (qHJ4ny_H r xd xe) 1006 .normal (qHJ4ny_T1 r xd xe true) (qHJ4ny_H1 r xd xe true) 1006:=by
 exact runs_of_x hG hM 400 [.yes,.yes,.yes,.yes] (J e1 (J e1 (J e1 (J e1 trivial)))) (by kernel_rfl)
theorem qHJ4ny_p2 (r:RPic) (xd:(List Man) × Int × RPic) (xe:Int × Int × Int × Int) (e1:(decide (xe.2.2.2 < 0)) = false):Runs Try.prog 196 (bodyOf Try.f83 [1,1,1,1,1,0,0,1,0,0,1,1,0,0]) (qHJ4ny_T r xd xe) (qHJ4ny_H r xd xe) 1006 .normal (qHJ4ny_T1 r xd xe (decide (xe.2.2.2 ≥ (qHJ2n r)))) (qHJ4ny_H1 r xd xe (decide (xe.2.2.2 ≥ (qHJ2n r)))) 1006:=by
 exact runs_of_x hG hM 400 [.no,.no,.no,.no] (J e1 (J e1 (J e1 (J e1 trivial)))) (by kernel_rfl)
theorem qHJ4ny_runs (r:RPic) (xd:(List Man) × Int × RPic) (xe:Int × Int × Int × Int):Runs Try.prog 196 (bodyOf Try.f83 [1,1,1,1,1,0,0,1,0,0,1,1,0,0]) (qHJ4ny_T r xd xe) (qHJ4ny_H r xd xe) 1006 .normal (qHJ4ny_T1 r xd xe (qHJ4ny r xd xe)) (qHJ4ny_H1 r xd xe (qHJ4ny r xd xe)) 1006:=by
 rcases bt (decide (xe.2.2.2 < 0)) with e1 | e1
 ·
  rw [show qHJ4ny r xd xe = true from by unfold qHJ4ny;rw [if_pos e1]]
  exact qHJ4ny_p1 r xd xe e1
 ·
  rw [show qHJ4ny r xd xe = (decide (xe.2.2.2 ≥ (qHJ2n r))) from by unfold qHJ4ny;rw [if_neg (nt e1)]]
  exact qHJ4ny_p2 r xd xe e1
def qHJ5nynn (r:RPic) (rN:Nat → Int) (xd:(List Man) × Int × RPic) (xe:Bool):Int:=
 if xe = true then
  (i64.wrap ((i64.wrap ((qHJ2n r) - 1)) - (i64.wrap (xd.2.2.Line - (i64.wrap (rN (Int.toNat (i64.wrap (4 * xd.2.1)))))))))
 else
  (i64.wrap (xd.2.2.Line - (i64.wrap (rN (Int.toNat (i64.wrap (4 * xd.2.1)))))))
def qHJ5nynn_T (r:RPic) (rN:Nat → Int) (xd:(List Man) × Int × RPic) (xe:Bool):Tm:=[(0,pt 1000),(2,.int .i64 (qHJ2n r)),(3,.int .i64 xd.2.1),(5,.int .i64 (i64.wrap (rN (Int.toNat (i64.wrap ((i64.wrap (4 * xd.2.1)) + 1)))))),(6,.int .i64 (i64.wrap (rN (Int.toNat (i64.wrap ((i64.wrap (4 * xd.2.1)) + 2)))))),(7,.int .i64 (i64.wrap (rN (Int.toNat (i64.wrap ((i64.wrap (4 * xd.2.1)) + 3)))))),(8,.int .i64 (i64.wrap (xd.2.2.Line - (i64.wrap (rN (Int.toNat (i64.wrap (4 * xd.2.1)))))))),(100,.bool xe)]
def qHJ5nynn_H (r:RPic) (rN:Nat → Int) (xd:(List Man) × Int × RPic) (xe:Bool):Heap:=[]
def qHJ5nynn_T1 (r:RPic) (rN:Nat → Int) (xd:(List Man) × Int × RPic) (xe:Bool) (r_:Int):Tm:=[(0,pt 1000),(2,.int .i64 (qHJ2n r)),(3,.int .i64 xd.2.1),(5,.int .i64 (i64.wrap (rN (Int.toNat (i64.wrap ((i64.wrap (4 * xd.2.1)) + 1)))))),(6,.int .i64 (i64.wrap (rN (Int.toNat (i64.wrap ((i64.wrap (4 * xd.2.1)) + 2)))))),(7,.int .i64 (i64.wrap (rN (Int.toNat (i64.wrap ((i64.wrap (4 * xd.2.1)) + 3)))))),(8,.int .i64 r_)]
def qHJ5nynn_H1 (r:RPic) (rN:Nat → Int) (xd:(List Man) × Int × RPic) (xe:Bool) (r_:Int):Heap:=[]
theorem qHJ5nynn_p1 (r:RPic) (rN:Nat → Int) (xd:(List Man) × Int × RPic) (xe:Bool) (e1:xe = true):Runs Try.prog 196 (bodyOf Try.f83 [1,1,1,1,1,0,0,1,0,0,1,1,1,1,0,1]) (qHJ5nynn_T r rN xd xe) (qHJ5nynn_H r rN xd xe) 1006 .normal (qHJ5nynn_T1 r rN xd xe (i64.wrap ((i64.wrap ((qHJ2n r) - 1)) - (i64.wrap (xd.2.2.Line - (i64.wrap (rN (Int.toNat (i64.wrap (4 * xd.2.1)))))))))) (qHJ5nynn_H1 r rN xd xe (i64.wrap ((i64.wrap ((qHJ2n r) - 1)) - (i64.wrap (xd.2.2.Line - (i64.wrap (rN (Int.toNat (i64.wrap (4 * xd.2.1)))))))))) 1006:=by
 exact runs_of_x hG hM 400 [.yes] (J e1 trivial) (by kernel_rfl)
theorem qHJ5nynn_p2 (r:RPic) (rN:Nat → Int) (xd:(List Man) × Int × RPic) (xe:Bool) (e1:xe = false):Runs Try.prog 196 (bodyOf Try.f83 [1,1,1,1,1,0,0,1,0,0,1,1,1,1,0,1]) (qHJ5nynn_T r rN xd xe) (qHJ5nynn_H r rN xd xe) 1006 .normal (qHJ5nynn_T1 r rN xd xe (i64.wrap (xd.2.2.Line - (i64.wrap (rN (Int.toNat (i64.wrap (4 * xd.2.1)))))))) (qHJ5nynn_H1 r rN xd xe (i64.wrap (xd.2.2.Line - (i64.wrap (rN (Int.toNat (i64.wrap (4 * xd.2.1)))))))) 1006:=by
 exact runs_of_x hG hM 400 [.no] (J e1 trivial) (by kernel_rfl)
theorem qHJ5nynn_runs (r:RPic) (rN:Nat → Int) (xd:(List Man) × Int × RPic) (xe:Bool):Runs Try.prog 196 (bodyOf Try.f83 [1,1,1,1,1,0,0,1,0,0,1,1,1,1,0,1]) (qHJ5nynn_T r rN xd xe) (qHJ5nynn_H r rN xd xe) 1006 .normal (qHJ5nynn_T1 r rN xd xe (qHJ5nynn r rN xd xe)) (qHJ5nynn_H1 r rN xd xe (qHJ5nynn r rN xd xe)) 1006:=by
 rcases bt xe with e1 | e1
 ·
  rw [show qHJ5nynn r rN xd xe = (i64.wrap ((i64.wrap ((qHJ2n r) - 1)) - (i64.wrap (xd.2.2.Line - (i64.wrap (rN (Int.toNat (i64.wrap (4 * xd.2.1))))))))) from by unfold qHJ5nynn;rw [if_pos e1]]
  exact qHJ5nynn_p1 r rN xd xe e1
 ·
  rw [show qHJ5nynn r rN xd xe = (i64.wrap (xd.2.2.Line - (i64.wrap (rN (Int.toNat (i64.wrap (4 * xd.2.1))))))) from by unfold qHJ5nynn;rw [if_neg (nt e1)]]
  exact qHJ5nynn_p2 r rN xd xe e1
def qHJ7nynnn (r:RPic) (rN:Nat → Int) (xd:(List Man) × Int × RPic) (xe:Int × Int):Int:=
 if (rBit xd.2.2.Control 8) = true then
  (i64.wrap (xe.2 + 4096))
 else
  xe.2
def qHJ7nynnn_T (r:RPic) (rN:Nat → Int) (xd:(List Man) × Int × RPic) (xe:Int × Int):Tm:=[(0,pt 1000),(2,.int .i64 (qHJ2n r)),(3,.int .i64 xd.2.1),(6,.int .i64 (i64.wrap (rN (Int.toNat (i64.wrap ((i64.wrap (4 * xd.2.1)) + 2)))))),(7,.int .i64 (i64.wrap (rN (Int.toNat (i64.wrap ((i64.wrap (4 * xd.2.1)) + 3)))))),(9,.int .i64 xe.2),(130,.bool (rBit xd.2.2.Control 8))]
def qHJ7nynnn_H (r:RPic) (rN:Nat → Int) (xd:(List Man) × Int × RPic) (xe:Int × Int):Heap:=[]
def qHJ7nynnn_T1 (r:RPic) (rN:Nat → Int) (xd:(List Man) × Int × RPic) (xe:Int × Int) (r_:Int):Tm:=[(0,pt 1000),(2,.int .i64 (qHJ2n r)),(3,.int .i64 xd.2.1),(6,.int .i64 (i64.wrap (rN (Int.toNat (i64.wrap ((i64.wrap (4 * xd.2.1)) + 2)))))),(7,.int .i64 (i64.wrap (rN (Int.toNat (i64.wrap ((i64.wrap (4 * xd.2.1)) + 3)))))),(9,.int .i64 r_)]
def qHJ7nynnn_H1 (r:RPic) (rN:Nat → Int) (xd:(List Man) × Int × RPic) (xe:Int × Int) (r_:Int):Heap:=[]
theorem qHJ7nynnn_p1 (r:RPic) (rN:Nat → Int) (xd:(List Man) × Int × RPic) (xe:Int × Int) (f1:(rBit xd.2.2.Control 8) = true):Runs Try.prog 196 (bodyOf Try.f83 [1,1,1,1,1,0,0,1,0,0,1,1,1,1,1,1,0,1,1,1]) (qHJ7nynnn_T r rN xd xe) (qHJ7nynnn_H r rN xd xe) 1006 .normal (qHJ7nynnn_T1 r rN xd xe (i64.wrap (xe.2 + 4096))) (qHJ7nynnn_H1 r rN xd xe (i64.wrap (xe.2 + 4096))) 1006:=by
 exact runs_of_x hG hM 400 [.yes] (J f1 trivial) (by kernel_rfl)
theorem qHJ7nynnn_p2 (r:RPic) (rN:Nat → Int) (xd:(List Man) × Int × RPic) (xe:Int × Int) (f1:(rBit xd.2.2.Control 8) = false):Runs Try.prog 196 (bodyOf Try.f83 [1,1,1,1,1,0,0,1,0,0,1,1,1,1,1,1,0,1,1,1]) (qHJ7nynnn_T r rN xd xe) (qHJ7nynnn_H r rN xd xe) 1006 .normal (qHJ7nynnn_T1 r rN xd xe xe.2) (qHJ7nynnn_H1 r rN xd xe xe.2) 1006:=by
 exact runs_of_x hG hM 400 [.no] (J f1 trivial) (by kernel_rfl)
theorem qHJ7nynnn_runs (r:RPic) (rN:Nat → Int) (xd:(List Man) × Int × RPic) (xe:Int × Int):Runs Try.prog 196 (bodyOf Try.f83 [1,1,1,1,1,0,0,1,0,0,1,1,1,1,1,1,0,1,1,1]) (qHJ7nynnn_T r rN xd xe) (qHJ7nynnn_H r rN xd xe) 1006 .normal (qHJ7nynnn_T1 r rN xd xe (qHJ7nynnn r rN xd xe)) (qHJ7nynnn_H1 r rN xd xe (qHJ7nynnn r rN xd xe)) 1006:=by
 rcases bt (rBit xd.2.2.Control 8) with f1 | f1
 ·
  rw [show qHJ7nynnn r rN xd xe = (i64.wrap (xe.2 + 4096)) from by unfold qHJ7nynnn;rw [if_pos f1]]
  exact qHJ7nynnn_p1 r rN xd xe f1
 ·
  rw [show qHJ7nynnn r rN xd xe = xe.2 from by unfold qHJ7nynnn;rw [if_neg (nt f1)]]
  exact qHJ7nynnn_p2 r rN xd xe f1
def qHJ6nynn (r:RPic) (rN:Nat → Int) (xd:(List Man) × Int × RPic) (xe:Int × Int):Int:=
 if ((qHJ2n r) == 16) = true then
  (i64.wrap ((i64.wrap ((i64.wrap (4096 * (Int.tmod (i64.wrap (rN (Int.toNat (i64.wrap ((i64.wrap (4 * xd.2.1)) + 1))))) 2))) + (i64.wrap (16 * (i64.wrap ((i64.wrap ((i64.wrap (rN (Int.toNat (i64.wrap ((i64.wrap (4 * xd.2.1)) + 1))))) - (Int.tmod (i64.wrap (rN (Int.toNat (i64.wrap ((i64.wrap (4 * xd.2.1)) + 1))))) 2))) + (i64.wrap (Int.tdiv xe.1 8)))))))) + (Int.tmod xe.1 8)))
 else
  (qHJ7nynnn r rN xd xe)
def qHJ6nynn_T (r:RPic) (rN:Nat → Int) (xd:(List Man) × Int × RPic) (xe:Int × Int):Tm:=[(0,pt 1000),(2,.int .i64 (qHJ2n r)),(3,.int .i64 xd.2.1),(5,.int .i64 (i64.wrap (rN (Int.toNat (i64.wrap ((i64.wrap (4 * xd.2.1)) + 1)))))),(6,.int .i64 (i64.wrap (rN (Int.toNat (i64.wrap ((i64.wrap (4 * xd.2.1)) + 2)))))),(7,.int .i64 (i64.wrap (rN (Int.toNat (i64.wrap ((i64.wrap (4 * xd.2.1)) + 3)))))),(8,.int .i64 xe.1),(9,.int .i64 xe.2),(110,.bool ((qHJ2n r) == 16))]
def qHJ6nynn_H (r:RPic) (rN:Nat → Int) (xd:(List Man) × Int × RPic) (xe:Int × Int):Heap:=[(1000,(RPic.bl xd.2.2 (sl 1001 16384 1) (sl 1002 256 1) (sl 1005 (List.length xd.1) 4) (sl 1003 61440 1) false))]
def qHJ6nynn_T1 (r:RPic) (rN:Nat → Int) (xd:(List Man) × Int × RPic) (xe:Int × Int) (r_:Int):Tm:=[(0,pt 1000),(2,.int .i64 (qHJ2n r)),(3,.int .i64 xd.2.1),(6,.int .i64 (i64.wrap (rN (Int.toNat (i64.wrap ((i64.wrap (4 * xd.2.1)) + 2)))))),(7,.int .i64 (i64.wrap (rN (Int.toNat (i64.wrap ((i64.wrap (4 * xd.2.1)) + 3)))))),(9,.int .i64 r_)]
def qHJ6nynn_H1 (r:RPic) (rN:Nat → Int) (xd:(List Man) × Int × RPic) (xe:Int × Int) (r_:Int):Heap:=[(1000,(RPic.bl xd.2.2 (sl 1001 16384 1) (sl 1002 256 1) (sl 1005 (List.length xd.1) 4) (sl 1003 61440 1) false))]
theorem qHJ6nynn_p1 (r:RPic) (rN:Nat → Int) (xd:(List Man) × Int × RPic) (xe:Int × Int) (e1:((qHJ2n r) == 16) = true):Runs Try.prog 196 (bodyOf Try.f83 [1,1,1,1,1,0,0,1,0,0,1,1,1,1,1,1,0,1]) (qHJ6nynn_T r rN xd xe) (qHJ6nynn_H r rN xd xe) 1006 .normal (qHJ6nynn_T1 r rN xd xe (i64.wrap ((i64.wrap ((i64.wrap (4096 * (Int.tmod (i64.wrap (rN (Int.toNat (i64.wrap ((i64.wrap (4 * xd.2.1)) + 1))))) 2))) + (i64.wrap (16 * (i64.wrap ((i64.wrap ((i64.wrap (rN (Int.toNat (i64.wrap ((i64.wrap (4 * xd.2.1)) + 1))))) - (Int.tmod (i64.wrap (rN (Int.toNat (i64.wrap ((i64.wrap (4 * xd.2.1)) + 1))))) 2))) + (i64.wrap (Int.tdiv xe.1 8)))))))) + (Int.tmod xe.1 8)))) (qHJ6nynn_H1 r rN xd xe (i64.wrap ((i64.wrap ((i64.wrap (4096 * (Int.tmod (i64.wrap (rN (Int.toNat (i64.wrap ((i64.wrap (4 * xd.2.1)) + 1))))) 2))) + (i64.wrap (16 * (i64.wrap ((i64.wrap ((i64.wrap (rN (Int.toNat (i64.wrap ((i64.wrap (4 * xd.2.1)) + 1))))) - (Int.tmod (i64.wrap (rN (Int.toNat (i64.wrap ((i64.wrap (4 * xd.2.1)) + 1))))) 2))) + (i64.wrap (Int.tdiv xe.1 8)))))))) + (Int.tmod xe.1 8)))) 1006:=by
 exact runs_of_x hG hM 400 [.yes] (J e1 (J (by decide:((2:Int) ≠ 0)) (J (by decide:((2:Int) ≠ 0)) (J (by decide:((8:Int) ≠ 0)) (J (by decide:((8:Int) ≠ 0)) trivial))))) (by kernel_rfl)
theorem qHJ6nynn_p2 (r:RPic) (rN:Nat → Int) (xd:(List Man) × Int × RPic) (xe:Int × Int) (e1:((qHJ2n r) == 16) = false):Runs Try.prog 196 (bodyOf Try.f83 [1,1,1,1,1,0,0,1,0,0,1,1,1,1,1,1,0,1]) (qHJ6nynn_T r rN xd xe) (qHJ6nynn_H r rN xd xe) 1006 .normal (qHJ6nynn_T1 r rN xd xe (qHJ7nynnn r rN xd xe)) (qHJ6nynn_H1 r rN xd xe (qHJ7nynnn r rN xd xe)) 1006:=by
 exact runs_of_x hG hM 400 [.no,.call [] [] 1000 (.bool (rBit xd.2.2.Control 8)) [],.segk 2 0 [0,2,3,6,7,9,130] [] .normal (qHJ7nynnn_T1 r rN xd xe (qHJ7nynnn r rN xd xe)) (qHJ7nynnn_H1 r rN xd xe (qHJ7nynnn r rN xd xe)) 1006] (J e1 (J (rBit_ok xd.2.2.Control 8 (by decide:(8:Int) ≠ 0)) (J (qHJ7nynnn_runs r rN xd xe) trivial))) (by kernel_rfl)
theorem qHJ6nynn_runs (r:RPic) (rN:Nat → Int) (xd:(List Man) × Int × RPic) (xe:Int × Int):Runs Try.prog 196 (bodyOf Try.f83 [1,1,1,1,1,0,0,1,0,0,1,1,1,1,1,1,0,1]) (qHJ6nynn_T r rN xd xe) (qHJ6nynn_H r rN xd xe) 1006 .normal (qHJ6nynn_T1 r rN xd xe (qHJ6nynn r rN xd xe)) (qHJ6nynn_H1 r rN xd xe (qHJ6nynn r rN xd xe)) 1006:=by
 rcases bt ((qHJ2n r) == 16) with e1 | e1
 ·
  rw [show qHJ6nynn r rN xd xe = (i64.wrap ((i64.wrap ((i64.wrap (4096 * (Int.tmod (i64.wrap (rN (Int.toNat (i64.wrap ((i64.wrap (4 * xd.2.1)) + 1))))) 2))) + (i64.wrap (16 * (i64.wrap ((i64.wrap ((i64.wrap (rN (Int.toNat (i64.wrap ((i64.wrap (4 * xd.2.1)) + 1))))) - (Int.tmod (i64.wrap (rN (Int.toNat (i64.wrap ((i64.wrap (4 * xd.2.1)) + 1))))) 2))) + (i64.wrap (Int.tdiv xe.1 8)))))))) + (Int.tmod xe.1 8))) from by unfold qHJ6nynn;rw [if_pos e1]]
  exact qHJ6nynn_p1 r rN xd xe e1
 ·
  rw [show qHJ6nynn r rN xd xe = (qHJ7nynnn r rN xd xe) from by unfold qHJ6nynn;rw [if_neg (nt e1)]]
  exact qHJ6nynn_p2 r rN xd xe e1
inductive qHL3n (r:RPic) (rM:Nat → Int) (rN:Nat → Int) (rS:Nat → Int) (xd:(List Man) × Int × RPic):((List Man) × Int × RPic) ⊕ (((List Man) × Int × RPic) ⊕ ((List Man) × Int × RPic)) → Prop
 | p1 (d1:(decide (xd.2.1 < 64)) = true) (w1d:0 ≤ (i64.wrap (4 * xd.2.1)) ∧ (i64.wrap (4 * xd.2.1)) < ((256:Nat):Int)) (w2d:0 ≤ (i64.wrap ((i64.wrap (4 * xd.2.1)) + 1)) ∧ (i64.wrap ((i64.wrap (4 * xd.2.1)) + 1)) < ((256:Nat):Int)) (w3d:0 ≤ (i64.wrap ((i64.wrap (4 * xd.2.1)) + 2)) ∧ (i64.wrap ((i64.wrap (4 * xd.2.1)) + 2)) < ((256:Nat):Int)) (w4d:0 ≤ (i64.wrap ((i64.wrap (4 * xd.2.1)) + 3)) ∧ (i64.wrap ((i64.wrap (4 * xd.2.1)) + 3)) < ((256:Nat):Int)) (d2:(qHJ4ny r xd ((i64.wrap (rN (Int.toNat (i64.wrap ((i64.wrap (4 * xd.2.1)) + 1))))),(i64.wrap (rN (Int.toNat (i64.wrap ((i64.wrap (4 * xd.2.1)) + 2))))),(i64.wrap (rN (Int.toNat (i64.wrap ((i64.wrap (4 * xd.2.1)) + 3))))),(i64.wrap (xd.2.2.Line - (i64.wrap (rN (Int.toNat (i64.wrap (4 * xd.2.1))))))))) = true):qHL3n r rM rN rS xd (.inl (xd.1,(i64.wrap (xd.2.1 + 1)),xd.2.2))
 | p2 (d1:(decide (xd.2.1 < 64)) = true) (w1d:0 ≤ (i64.wrap (4 * xd.2.1)) ∧ (i64.wrap (4 * xd.2.1)) < ((256:Nat):Int)) (w2d:0 ≤ (i64.wrap ((i64.wrap (4 * xd.2.1)) + 1)) ∧ (i64.wrap ((i64.wrap (4 * xd.2.1)) + 1)) < ((256:Nat):Int)) (w3d:0 ≤ (i64.wrap ((i64.wrap (4 * xd.2.1)) + 2)) ∧ (i64.wrap ((i64.wrap (4 * xd.2.1)) + 2)) < ((256:Nat):Int)) (w4d:0 ≤ (i64.wrap ((i64.wrap (4 * xd.2.1)) + 3)) ∧ (i64.wrap ((i64.wrap (4 * xd.2.1)) + 3)) < ((256:Nat):Int)) (d2:(qHJ4ny r xd ((i64.wrap (rN (Int.toNat (i64.wrap ((i64.wrap (4 * xd.2.1)) + 1))))),(i64.wrap (rN (Int.toNat (i64.wrap ((i64.wrap (4 * xd.2.1)) + 2))))),(i64.wrap (rN (Int.toNat (i64.wrap ((i64.wrap (4 * xd.2.1)) + 3))))),(i64.wrap (xd.2.2.Line - (i64.wrap (rN (Int.toNat (i64.wrap (4 * xd.2.1))))))))) = false) (d3:(((((List.length xd.1):Nat):Int):Int) == 8) = true):qHL3n r rM rN rS xd (.inr (.inr (xd.1,xd.2.1,({ xd.2.2 with Many:=true }:RPic))))
 | p3 (d1:(decide (xd.2.1 < 64)) = true) (w1d:0 ≤ (i64.wrap (4 * xd.2.1)) ∧ (i64.wrap (4 * xd.2.1)) < ((256:Nat):Int)) (w2d:0 ≤ (i64.wrap ((i64.wrap (4 * xd.2.1)) + 1)) ∧ (i64.wrap ((i64.wrap (4 * xd.2.1)) + 1)) < ((256:Nat):Int)) (w3d:0 ≤ (i64.wrap ((i64.wrap (4 * xd.2.1)) + 2)) ∧ (i64.wrap ((i64.wrap (4 * xd.2.1)) + 2)) < ((256:Nat):Int)) (w4d:0 ≤ (i64.wrap ((i64.wrap (4 * xd.2.1)) + 3)) ∧ (i64.wrap ((i64.wrap (4 * xd.2.1)) + 3)) < ((256:Nat):Int)) (d2:(qHJ4ny r xd ((i64.wrap (rN (Int.toNat (i64.wrap ((i64.wrap (4 * xd.2.1)) + 1))))),(i64.wrap (rN (Int.toNat (i64.wrap ((i64.wrap (4 * xd.2.1)) + 2))))),(i64.wrap (rN (Int.toNat (i64.wrap ((i64.wrap (4 * xd.2.1)) + 3))))),(i64.wrap (xd.2.2.Line - (i64.wrap (rN (Int.toNat (i64.wrap (4 * xd.2.1))))))))) = false) (d3:(((((List.length xd.1):Nat):Int):Int) == 8) = false) (w5d:0 ≤ (qHJ6nynn r rN xd ((qHJ5nynn r rN xd (rBit (i64.wrap (rN (Int.toNat (i64.wrap ((i64.wrap (4 * xd.2.1)) + 2))))) 128)),(i64.wrap ((i64.wrap (16 * (i64.wrap (rN (Int.toNat (i64.wrap ((i64.wrap (4 * xd.2.1)) + 1))))))) + (qHJ5nynn r rN xd (rBit (i64.wrap (rN (Int.toNat (i64.wrap ((i64.wrap (4 * xd.2.1)) + 2))))) 128)))))) ∧ (qHJ6nynn r rN xd ((qHJ5nynn r rN xd (rBit (i64.wrap (rN (Int.toNat (i64.wrap ((i64.wrap (4 * xd.2.1)) + 2))))) 128)),(i64.wrap ((i64.wrap (16 * (i64.wrap (rN (Int.toNat (i64.wrap ((i64.wrap (4 * xd.2.1)) + 1))))))) + (qHJ5nynn r rN xd (rBit (i64.wrap (rN (Int.toNat (i64.wrap ((i64.wrap (4 * xd.2.1)) + 2))))) 128)))))) < ((16384:Nat):Int)) (w6d:0 ≤ (i64.wrap ((qHJ6nynn r rN xd ((qHJ5nynn r rN xd (rBit (i64.wrap (rN (Int.toNat (i64.wrap ((i64.wrap (4 * xd.2.1)) + 2))))) 128)),(i64.wrap ((i64.wrap (16 * (i64.wrap (rN (Int.toNat (i64.wrap ((i64.wrap (4 * xd.2.1)) + 1))))))) + (qHJ5nynn r rN xd (rBit (i64.wrap (rN (Int.toNat (i64.wrap ((i64.wrap (4 * xd.2.1)) + 2))))) 128)))))) + 8)) ∧ (i64.wrap ((qHJ6nynn r rN xd ((qHJ5nynn r rN xd (rBit (i64.wrap (rN (Int.toNat (i64.wrap ((i64.wrap (4 * xd.2.1)) + 2))))) 128)),(i64.wrap ((i64.wrap (16 * (i64.wrap (rN (Int.toNat (i64.wrap ((i64.wrap (4 * xd.2.1)) + 1))))))) + (qHJ5nynn r rN xd (rBit (i64.wrap (rN (Int.toNat (i64.wrap ((i64.wrap (4 * xd.2.1)) + 2))))) 128)))))) + 8)) < ((16384:Nat):Int)) (d4:(rBit (i64.wrap (rN (Int.toNat (i64.wrap ((i64.wrap (4 * xd.2.1)) + 2))))) 64) = true) (w7d:(List.length xd.1) + 1 ≤ 1048576):qHL3n r rM rN rS xd (.inl ((xd.1 ++ [({ X:=(i64.wrap (rN (Int.toNat (i64.wrap ((i64.wrap (4 * xd.2.1)) + 3))))),Look:=(i64.wrap (rN (Int.toNat (i64.wrap ((i64.wrap (4 * xd.2.1)) + 2))))),First:=(xd.2.1 == 0),Dots:=(rev8 (rNum (i64.wrap (rM (Int.toNat (qHJ6nynn r rN xd ((qHJ5nynn r rN xd (rBit (i64.wrap (rN (Int.toNat (i64.wrap ((i64.wrap (4 * xd.2.1)) + 2))))) 128)),(i64.wrap ((i64.wrap (16 * (i64.wrap (rN (Int.toNat (i64.wrap ((i64.wrap (4 * xd.2.1)) + 1))))))) + (qHJ5nynn r rN xd (rBit (i64.wrap (rN (Int.toNat (i64.wrap ((i64.wrap (4 * xd.2.1)) + 2))))) 128))))))))) (i64.wrap (rM (Int.toNat (i64.wrap ((qHJ6nynn r rN xd ((qHJ5nynn r rN xd (rBit (i64.wrap (rN (Int.toNat (i64.wrap ((i64.wrap (4 * xd.2.1)) + 2))))) 128)),(i64.wrap ((i64.wrap (16 * (i64.wrap (rN (Int.toNat (i64.wrap ((i64.wrap (4 * xd.2.1)) + 1))))))) + (qHJ5nynn r rN xd (rBit (i64.wrap (rN (Int.toNat (i64.wrap ((i64.wrap (4 * xd.2.1)) + 2))))) 128)))))) + 8))))))),Full:=true }:Man)]),(i64.wrap (xd.2.1 + 1)),xd.2.2))
 | p4 (d1:(decide (xd.2.1 < 64)) = true) (w1d:0 ≤ (i64.wrap (4 * xd.2.1)) ∧ (i64.wrap (4 * xd.2.1)) < ((256:Nat):Int)) (w2d:0 ≤ (i64.wrap ((i64.wrap (4 * xd.2.1)) + 1)) ∧ (i64.wrap ((i64.wrap (4 * xd.2.1)) + 1)) < ((256:Nat):Int)) (w3d:0 ≤ (i64.wrap ((i64.wrap (4 * xd.2.1)) + 2)) ∧ (i64.wrap ((i64.wrap (4 * xd.2.1)) + 2)) < ((256:Nat):Int)) (w4d:0 ≤ (i64.wrap ((i64.wrap (4 * xd.2.1)) + 3)) ∧ (i64.wrap ((i64.wrap (4 * xd.2.1)) + 3)) < ((256:Nat):Int)) (d2:(qHJ4ny r xd ((i64.wrap (rN (Int.toNat (i64.wrap ((i64.wrap (4 * xd.2.1)) + 1))))),(i64.wrap (rN (Int.toNat (i64.wrap ((i64.wrap (4 * xd.2.1)) + 2))))),(i64.wrap (rN (Int.toNat (i64.wrap ((i64.wrap (4 * xd.2.1)) + 3))))),(i64.wrap (xd.2.2.Line - (i64.wrap (rN (Int.toNat (i64.wrap (4 * xd.2.1))))))))) = false) (d3:(((((List.length xd.1):Nat):Int):Int) == 8) = false) (w5d:0 ≤ (qHJ6nynn r rN xd ((qHJ5nynn r rN xd (rBit (i64.wrap (rN (Int.toNat (i64.wrap ((i64.wrap (4 * xd.2.1)) + 2))))) 128)),(i64.wrap ((i64.wrap (16 * (i64.wrap (rN (Int.toNat (i64.wrap ((i64.wrap (4 * xd.2.1)) + 1))))))) + (qHJ5nynn r rN xd (rBit (i64.wrap (rN (Int.toNat (i64.wrap ((i64.wrap (4 * xd.2.1)) + 2))))) 128)))))) ∧ (qHJ6nynn r rN xd ((qHJ5nynn r rN xd (rBit (i64.wrap (rN (Int.toNat (i64.wrap ((i64.wrap (4 * xd.2.1)) + 2))))) 128)),(i64.wrap ((i64.wrap (16 * (i64.wrap (rN (Int.toNat (i64.wrap ((i64.wrap (4 * xd.2.1)) + 1))))))) + (qHJ5nynn r rN xd (rBit (i64.wrap (rN (Int.toNat (i64.wrap ((i64.wrap (4 * xd.2.1)) + 2))))) 128)))))) < ((16384:Nat):Int)) (w6d:0 ≤ (i64.wrap ((qHJ6nynn r rN xd ((qHJ5nynn r rN xd (rBit (i64.wrap (rN (Int.toNat (i64.wrap ((i64.wrap (4 * xd.2.1)) + 2))))) 128)),(i64.wrap ((i64.wrap (16 * (i64.wrap (rN (Int.toNat (i64.wrap ((i64.wrap (4 * xd.2.1)) + 1))))))) + (qHJ5nynn r rN xd (rBit (i64.wrap (rN (Int.toNat (i64.wrap ((i64.wrap (4 * xd.2.1)) + 2))))) 128)))))) + 8)) ∧ (i64.wrap ((qHJ6nynn r rN xd ((qHJ5nynn r rN xd (rBit (i64.wrap (rN (Int.toNat (i64.wrap ((i64.wrap (4 * xd.2.1)) + 2))))) 128)),(i64.wrap ((i64.wrap (16 * (i64.wrap (rN (Int.toNat (i64.wrap ((i64.wrap (4 * xd.2.1)) + 1))))))) + (qHJ5nynn r rN xd (rBit (i64.wrap (rN (Int.toNat (i64.wrap ((i64.wrap (4 * xd.2.1)) + 2))))) 128)))))) + 8)) < ((16384:Nat):Int)) (d4:(rBit (i64.wrap (rN (Int.toNat (i64.wrap ((i64.wrap (4 * xd.2.1)) + 2))))) 64) = false) (w7d:(List.length xd.1) + 1 ≤ 1048576):qHL3n r rM rN rS xd (.inl ((xd.1 ++ [({ X:=(i64.wrap (rN (Int.toNat (i64.wrap ((i64.wrap (4 * xd.2.1)) + 3))))),Look:=(i64.wrap (rN (Int.toNat (i64.wrap ((i64.wrap (4 * xd.2.1)) + 2))))),First:=(xd.2.1 == 0),Dots:=(rNum (i64.wrap (rM (Int.toNat (qHJ6nynn r rN xd ((qHJ5nynn r rN xd (rBit (i64.wrap (rN (Int.toNat (i64.wrap ((i64.wrap (4 * xd.2.1)) + 2))))) 128)),(i64.wrap ((i64.wrap (16 * (i64.wrap (rN (Int.toNat (i64.wrap ((i64.wrap (4 * xd.2.1)) + 1))))))) + (qHJ5nynn r rN xd (rBit (i64.wrap (rN (Int.toNat (i64.wrap ((i64.wrap (4 * xd.2.1)) + 2))))) 128))))))))) (i64.wrap (rM (Int.toNat (i64.wrap ((qHJ6nynn r rN xd ((qHJ5nynn r rN xd (rBit (i64.wrap (rN (Int.toNat (i64.wrap ((i64.wrap (4 * xd.2.1)) + 2))))) 128)),(i64.wrap ((i64.wrap (16 * (i64.wrap (rN (Int.toNat (i64.wrap ((i64.wrap (4 * xd.2.1)) + 1))))))) + (qHJ5nynn r rN xd (rBit (i64.wrap (rN (Int.toNat (i64.wrap ((i64.wrap (4 * xd.2.1)) + 2))))) 128)))))) + 8)))))),Full:=true }:Man)]),(i64.wrap (xd.2.1 + 1)),xd.2.2))
 | p5 (d1:(decide (xd.2.1 < 64)) = false):qHL3n r rM rN rS xd (.inr (.inl (xd.1,xd.2.1,xd.2.2)))
def qHL3n_T (r:RPic) (rM:Nat → Int) (rN:Nat → Int) (rS:Nat → Int) (xd:(List Man) × Int × RPic):Tm:=[(0,pt 1000),(2,.int .i64 (qHJ2n r)),(3,.int .i64 xd.2.1)]
def qHL3n_H (r:RPic) (rM:Nat → Int) (rN:Nat → Int) (rS:Nat → Int) (xd:(List Man) × Int × RPic):Heap:=[(1000,(RPic.bl xd.2.2 (sl 1001 16384 1) (sl 1002 256 1) (sl 1005 (List.length xd.1) 4) (sl 1003 61440 1) false)),(1001,iB 16384 rM false),(1002,iB 256 rN false),(1005,⟨[rowsL Man.cells Man.nil 4 xd.1],119,false⟩)]
def qHL3n_T1 (r:RPic) (rM:Nat → Int) (rN:Nat → Int) (rS:Nat → Int):(((List Man) × Int × RPic) ⊕ ((List Man) × Int × RPic)) → Tm
 | .inl q_ => qHL3n_T r rM rN rS q_
 | .inr q_ => qHL3n_T r rM rN rS q_
def qHL3n_H1 (r:RPic) (rM:Nat → Int) (rN:Nat → Int) (rS:Nat → Int):(((List Man) × Int × RPic) ⊕ ((List Man) × Int × RPic)) → Heap
 | .inl q_ => qHL3n_H r rM rN rS q_
 | .inr q_ => qHL3n_H r rM rN rS q_
def qHL3n_ex:(((List Man) × Int × RPic) ⊕ ((List Man) × Int × RPic)) → Ex
 | .inl _ => .exit 0
 | .inr _ => .ret
abbrev NGk2 (rN:Nat → Int) (xd:(List Man) × Int × RPic):=(i64.wrap (rN (Int.toNat (i64.wrap ((i64.wrap (4 * xd.2.1)) + 2)))))
abbrev NGk1 (rN:Nat → Int) (xd:(List Man) × Int × RPic):=((i64.wrap (rN (Int.toNat (i64.wrap ((i64.wrap (4 * xd.2.1)) + 1))))),(NGk2 rN xd),(i64.wrap (rN (Int.toNat (i64.wrap ((i64.wrap (4 * xd.2.1)) + 3))))),(i64.wrap (xd.2.2.Line - (i64.wrap (rN (Int.toNat (i64.wrap (4 * xd.2.1))))))))
theorem qHL3n_p1 (r:RPic) (rM:Nat → Int) (rN:Nat → Int) (rS:Nat → Int) (xd:(List Man) × Int × RPic) (d1:(decide (xd.2.1 < 64)) = true) (w1d:0 ≤ (i64.wrap (4 * xd.2.1)) ∧ (i64.wrap (4 * xd.2.1)) < ((256:Nat):Int)) (w2d:0 ≤ (i64.wrap ((i64.wrap (4 * xd.2.1)) + 1)) ∧ (i64.wrap ((i64.wrap (4 * xd.2.1)) + 1)) < ((256:Nat):Int)) (w3d:0 ≤ (i64.wrap ((i64.wrap (4 * xd.2.1)) + 2)) ∧ (i64.wrap ((i64.wrap (4 * xd.2.1)) + 2)) < ((256:Nat):Int)) (w4d:0 ≤ (i64.wrap ((i64.wrap (4 * xd.2.1)) + 3)) ∧ (i64.wrap ((i64.wrap (4 * xd.2.1)) + 3)) < ((256:Nat):Int)) (d2:(qHJ4ny r xd ((i64.wrap (rN (Int.toNat (i64.wrap ((i64.wrap (4 * xd.2.1)) + 1))))),(i64.wrap (rN (Int.toNat (i64.wrap ((i64.wrap (4 * xd.2.1)) + 2))))),(i64.wrap (rN (Int.toNat (i64.wrap ((i64.wrap (4 * xd.2.1)) + 3))))),(i64.wrap (xd.2.2.Line - (i64.wrap (rN (Int.toNat (i64.wrap (4 * xd.2.1))))))))) = true):RunsM Try.prog 196 (bodyOf Try.f83 [1,1,1,1,1,0,0]) 1005 (qHL3n_T r rM rN rS xd) (qHL3n_H r rM rN rS xd) 1006 .normal (qHL3n_T r rM rN rS (xd.1,(i64.wrap (xd.2.1 + 1)),xd.2.2)) (qHL3n_H r rM rN rS (xd.1,(i64.wrap (xd.2.1 + 1)),xd.2.2)) 1006:=by
 exact runsM_of_x hG hM 400 1005 [.yes,.sym,.sym,.sym,.sym,.segk 0 10 [0,2,3,5,6,7,8] [] .normal (qHJ4ny_T1 r xd (NGk1 rN xd) (qHJ4ny r xd (NGk1 rN xd))) (qHJ4ny_H1 r xd (NGk1 rN xd) (qHJ4ny r xd (NGk1 rN xd))) 1006,.yes] [(1000,1000),(1001,1001),(1002,1002),(1003,1003),(1005,1005)] (J d1 (J w1d (J (lt_nat w1d) (J w2d (J (lt_nat w2d) (J w3d (J (lt_nat w3d) (J w4d (J (lt_nat w4d) (J (qHJ4ny_runs r xd (NGk1 rN xd)) (J d2 trivial))))))))))) (by kernel_rfl)
theorem qHL3n_p2 (r:RPic) (rM:Nat → Int) (rN:Nat → Int) (rS:Nat → Int) (xd:(List Man) × Int × RPic) (d1:(decide (xd.2.1 < 64)) = true) (w1d:0 ≤ (i64.wrap (4 * xd.2.1)) ∧ (i64.wrap (4 * xd.2.1)) < ((256:Nat):Int)) (w2d:0 ≤ (i64.wrap ((i64.wrap (4 * xd.2.1)) + 1)) ∧ (i64.wrap ((i64.wrap (4 * xd.2.1)) + 1)) < ((256:Nat):Int)) (w3d:0 ≤ (i64.wrap ((i64.wrap (4 * xd.2.1)) + 2)) ∧ (i64.wrap ((i64.wrap (4 * xd.2.1)) + 2)) < ((256:Nat):Int)) (w4d:0 ≤ (i64.wrap ((i64.wrap (4 * xd.2.1)) + 3)) ∧ (i64.wrap ((i64.wrap (4 * xd.2.1)) + 3)) < ((256:Nat):Int)) (d2:(qHJ4ny r xd ((i64.wrap (rN (Int.toNat (i64.wrap ((i64.wrap (4 * xd.2.1)) + 1))))),(i64.wrap (rN (Int.toNat (i64.wrap ((i64.wrap (4 * xd.2.1)) + 2))))),(i64.wrap (rN (Int.toNat (i64.wrap ((i64.wrap (4 * xd.2.1)) + 3))))),(i64.wrap (xd.2.2.Line - (i64.wrap (rN (Int.toNat (i64.wrap (4 * xd.2.1))))))))) = false) (d3:(((((List.length xd.1):Nat):Int):Int) == 8) = true):RunsM Try.prog 196 (bodyOf Try.f83 [1,1,1,1,1,0,0]) 1005 (qHL3n_T r rM rN rS xd) (qHL3n_H r rM rN rS xd) 1006 .ret (qHL3n_T1 r rM rN rS (.inr (xd.1,xd.2.1,({ xd.2.2 with Many:=true }:RPic)))) (qHL3n_H1 r rM rN rS (.inr (xd.1,xd.2.1,({ xd.2.2 with Many:=true }:RPic)))) 1006:=by
 exact runsM_of_x hG hM 400 1005 [.yes,.sym,.sym,.sym,.sym,.segk 0 10 [0,2,3,5,6,7,8] [] .normal (qHJ4ny_T1 r xd (NGk1 rN xd) (qHJ4ny r xd (NGk1 rN xd))) (qHJ4ny_H1 r xd (NGk1 rN xd) (qHJ4ny r xd (NGk1 rN xd))) 1006,.no,.yes] [(1000,1000),(1001,1001),(1002,1002),(1003,1003),(1005,1005)] (J d1 (J w1d (J (lt_nat w1d) (J w2d (J (lt_nat w2d) (J w3d (J (lt_nat w3d) (J w4d (J (lt_nat w4d) (J (qHJ4ny_runs r xd (NGk1 rN xd)) (J d2 (J d3 trivial)))))))))))) (by kernel_rfl)
abbrev NGk0 (r:RPic) (rN:Nat → Int) (xd:(List Man) × Int × RPic):=((qHJ5nynn r rN xd (rBit (NGk2 rN xd) 128)),(i64.wrap ((i64.wrap (16 * (i64.wrap (rN (Int.toNat (i64.wrap ((i64.wrap (4 * xd.2.1)) + 1))))))) + (qHJ5nynn r rN xd (rBit (NGk2 rN xd) 128)))))
abbrev NGk3 (rM:Nat → Int) (r:RPic) (rN:Nat → Int) (xd:(List Man) × Int × RPic):=(i64.wrap (rM (Int.toNat (i64.wrap ((qHJ6nynn r rN xd (NGk0 r rN xd)) + 8)))))
abbrev NGk4 (rM:Nat → Int) (r:RPic) (rN:Nat → Int) (xd:(List Man) × Int × RPic):=(i64.wrap (rM (Int.toNat (qHJ6nynn r rN xd (NGk0 r rN xd)))))
abbrev NGk5 (rN:Nat → Int) (xd:(List Man) × Int × RPic) (rM:Nat → Int) (r:RPic):=({ X:=(i64.wrap (rN (Int.toNat (i64.wrap ((i64.wrap (4 * xd.2.1)) + 3))))),Look:=(NGk2 rN xd),First:=(xd.2.1 == 0),Dots:=(rev8 (rNum (NGk4 rM r rN xd) (NGk3 rM r rN xd))),Full:=true }:Man)
theorem qHL3n_p3 (r:RPic) (rM:Nat → Int) (rN:Nat → Int) (rS:Nat → Int) (xd:(List Man) × Int × RPic) (d1:(decide (xd.2.1 < 64)) = true) (w1d:0 ≤ (i64.wrap (4 * xd.2.1)) ∧ (i64.wrap (4 * xd.2.1)) < ((256:Nat):Int)) (w2d:0 ≤ (i64.wrap ((i64.wrap (4 * xd.2.1)) + 1)) ∧ (i64.wrap ((i64.wrap (4 * xd.2.1)) + 1)) < ((256:Nat):Int)) (w3d:0 ≤ (i64.wrap ((i64.wrap (4 * xd.2.1)) + 2)) ∧ (i64.wrap ((i64.wrap (4 * xd.2.1)) + 2)) < ((256:Nat):Int)) (w4d:0 ≤ (i64.wrap ((i64.wrap (4 * xd.2.1)) + 3)) ∧ (i64.wrap ((i64.wrap (4 * xd.2.1)) + 3)) < ((256:Nat):Int)) (d2:(qHJ4ny r xd ((i64.wrap (rN (Int.toNat (i64.wrap ((i64.wrap (4 * xd.2.1)) + 1))))),(i64.wrap (rN (Int.toNat (i64.wrap ((i64.wrap (4 * xd.2.1)) + 2))))),(i64.wrap (rN (Int.toNat (i64.wrap ((i64.wrap (4 * xd.2.1)) + 3))))),(i64.wrap (xd.2.2.Line - (i64.wrap (rN (Int.toNat (i64.wrap (4 * xd.2.1))))))))) = false) (d3:(((((List.length xd.1):Nat):Int):Int) == 8) = false) (w5d:0 ≤ (qHJ6nynn r rN xd ((qHJ5nynn r rN xd (rBit (i64.wrap (rN (Int.toNat (i64.wrap ((i64.wrap (4 * xd.2.1)) + 2))))) 128)),(i64.wrap ((i64.wrap (16 * (i64.wrap (rN (Int.toNat (i64.wrap ((i64.wrap (4 * xd.2.1)) + 1))))))) + (qHJ5nynn r rN xd (rBit (i64.wrap (rN (Int.toNat (i64.wrap ((i64.wrap (4 * xd.2.1)) + 2))))) 128)))))) ∧ (qHJ6nynn r rN xd ((qHJ5nynn r rN xd (rBit (i64.wrap (rN (Int.toNat (i64.wrap ((i64.wrap (4 * xd.2.1)) + 2))))) 128)),(i64.wrap ((i64.wrap (16 * (i64.wrap (rN (Int.toNat (i64.wrap ((i64.wrap (4 * xd.2.1)) + 1))))))) + (qHJ5nynn r rN xd (rBit (i64.wrap (rN (Int.toNat (i64.wrap ((i64.wrap (4 * xd.2.1)) + 2))))) 128)))))) < ((16384:Nat):Int)) (w6d:0 ≤ (i64.wrap ((qHJ6nynn r rN xd ((qHJ5nynn r rN xd (rBit (i64.wrap (rN (Int.toNat (i64.wrap ((i64.wrap (4 * xd.2.1)) + 2))))) 128)),(i64.wrap ((i64.wrap (16 * (i64.wrap (rN (Int.toNat (i64.wrap ((i64.wrap (4 * xd.2.1)) + 1))))))) + (qHJ5nynn r rN xd (rBit (i64.wrap (rN (Int.toNat (i64.wrap ((i64.wrap (4 * xd.2.1)) + 2))))) 128)))))) + 8)) ∧ (i64.wrap ((qHJ6nynn r rN xd ((qHJ5nynn r rN xd (rBit (i64.wrap (rN (Int.toNat (i64.wrap ((i64.wrap (4 * xd.2.1)) + 2))))) 128)),(i64.wrap ((i64.wrap (16 * (i64.wrap (rN (Int.toNat (i64.wrap ((i64.wrap (4 * xd.2.1)) + 1))))))) + (qHJ5nynn r rN xd (rBit (i64.wrap (rN (Int.toNat (i64.wrap ((i64.wrap (4 * xd.2.1)) + 2))))) 128)))))) + 8)) < ((16384:Nat):Int)) (d4:(rBit (i64.wrap (rN (Int.toNat (i64.wrap ((i64.wrap (4 * xd.2.1)) + 2))))) 64) = true) (w7d:(List.length xd.1) + 1 ≤ 1048576):RunsM Try.prog 196 (bodyOf Try.f83 [1,1,1,1,1,0,0]) 1005 (qHL3n_T r rM rN rS xd) (qHL3n_H r rM rN rS xd) 1006 .normal (qHL3n_T r rM rN rS ((xd.1 ++ [({ X:=(i64.wrap (rN (Int.toNat (i64.wrap ((i64.wrap (4 * xd.2.1)) + 3))))),Look:=(i64.wrap (rN (Int.toNat (i64.wrap ((i64.wrap (4 * xd.2.1)) + 2))))),First:=(xd.2.1 == 0),Dots:=(rev8 (rNum (i64.wrap (rM (Int.toNat (qHJ6nynn r rN xd ((qHJ5nynn r rN xd (rBit (i64.wrap (rN (Int.toNat (i64.wrap ((i64.wrap (4 * xd.2.1)) + 2))))) 128)),(i64.wrap ((i64.wrap (16 * (i64.wrap (rN (Int.toNat (i64.wrap ((i64.wrap (4 * xd.2.1)) + 1))))))) + (qHJ5nynn r rN xd (rBit (i64.wrap (rN (Int.toNat (i64.wrap ((i64.wrap (4 * xd.2.1)) + 2))))) 128))))))))) (i64.wrap (rM (Int.toNat (i64.wrap ((qHJ6nynn r rN xd ((qHJ5nynn r rN xd (rBit (i64.wrap (rN (Int.toNat (i64.wrap ((i64.wrap (4 * xd.2.1)) + 2))))) 128)),(i64.wrap ((i64.wrap (16 * (i64.wrap (rN (Int.toNat (i64.wrap ((i64.wrap (4 * xd.2.1)) + 1))))))) + (qHJ5nynn r rN xd (rBit (i64.wrap (rN (Int.toNat (i64.wrap ((i64.wrap (4 * xd.2.1)) + 2))))) 128)))))) + 8))))))),Full:=true }:Man)]),(i64.wrap (xd.2.1 + 1)),xd.2.2)) (qHL3n_H r rM rN rS ((xd.1 ++ [({ X:=(i64.wrap (rN (Int.toNat (i64.wrap ((i64.wrap (4 * xd.2.1)) + 3))))),Look:=(i64.wrap (rN (Int.toNat (i64.wrap ((i64.wrap (4 * xd.2.1)) + 2))))),First:=(xd.2.1 == 0),Dots:=(rev8 (rNum (i64.wrap (rM (Int.toNat (qHJ6nynn r rN xd ((qHJ5nynn r rN xd (rBit (i64.wrap (rN (Int.toNat (i64.wrap ((i64.wrap (4 * xd.2.1)) + 2))))) 128)),(i64.wrap ((i64.wrap (16 * (i64.wrap (rN (Int.toNat (i64.wrap ((i64.wrap (4 * xd.2.1)) + 1))))))) + (qHJ5nynn r rN xd (rBit (i64.wrap (rN (Int.toNat (i64.wrap ((i64.wrap (4 * xd.2.1)) + 2))))) 128))))))))) (i64.wrap (rM (Int.toNat (i64.wrap ((qHJ6nynn r rN xd ((qHJ5nynn r rN xd (rBit (i64.wrap (rN (Int.toNat (i64.wrap ((i64.wrap (4 * xd.2.1)) + 2))))) 128)),(i64.wrap ((i64.wrap (16 * (i64.wrap (rN (Int.toNat (i64.wrap ((i64.wrap (4 * xd.2.1)) + 1))))))) + (qHJ5nynn r rN xd (rBit (i64.wrap (rN (Int.toNat (i64.wrap ((i64.wrap (4 * xd.2.1)) + 2))))) 128)))))) + 8))))))),Full:=true }:Man)]),(i64.wrap (xd.2.1 + 1)),xd.2.2)) 1006:=by
 exact runsM_of_x hG hM 400 1005 [.yes,.sym,.sym,.sym,.sym,.segk 0 10 [0,2,3,5,6,7,8] [] .normal (qHJ4ny_T1 r xd (NGk1 rN xd) (qHJ4ny r xd (NGk1 rN xd))) (qHJ4ny_H1 r xd (NGk1 rN xd) (qHJ4ny r xd (NGk1 rN xd))) 1006,.no,.no,.call [] [] 1000 (.bool (rBit (NGk2 rN xd) 128)) [],.segk 2 0 [0,2,3,5,6,7,8,100] [] .normal (qHJ5nynn_T1 r rN xd (rBit (NGk2 rN xd) 128) (qHJ5nynn r rN xd (rBit (NGk2 rN xd) 128))) (qHJ5nynn_H1 r rN xd (rBit (NGk2 rN xd) 128) (qHJ5nynn r rN xd (rBit (NGk2 rN xd) 128))) 1006,.segk 2 0 [0,2,3,5,6,7,8,9,110] [1000] .normal (qHJ6nynn_T1 r rN xd (NGk0 r rN xd) (qHJ6nynn r rN xd (NGk0 r rN xd))) (qHJ6nynn_H1 r rN xd (NGk0 r rN xd) (qHJ6nynn r rN xd (NGk0 r rN xd))) 1006,.sym,.sym,.call [] [] 1000 (.func (.yield 1) ⟨[.int .i64 (rNum (NGk4 rM r rN xd) (NGk3 rM r rN xd) 0),.int .i64 (rNum (NGk4 rM r rN xd) (NGk3 rM r rN xd) 1),.int .i64 (rNum (NGk4 rM r rN xd) (NGk3 rM r rN xd) 2),.int .i64 (rNum (NGk4 rM r rN xd) (NGk3 rM r rN xd) 3),.int .i64 (rNum (NGk4 rM r rN xd) (NGk3 rM r rN xd) 4),.int .i64 (rNum (NGk4 rM r rN xd) (NGk3 rM r rN xd) 5),.int .i64 (rNum (NGk4 rM r rN xd) (NGk3 rM r rN xd) 6),.int .i64 (rNum (NGk4 rM r rN xd) (NGk3 rM r rN xd) 7)]⟩ ⟨[.bool true]⟩) [],.call [] [] 1000 (.bool (rBit (NGk2 rN xd) 64)) [],.yes,.lit 7,.lit 6,.lit 5,.lit 4,.lit 3,.lit 2,.lit 1,.lit 0,.born,.eq 193 (sl 1008 (List.length (xd.1 ++ [(NGk5 rN xd rM r)])) 4),.list [rowsL Man.cells Man.nil 4 (xd.1 ++ [(NGk5 rN xd rM r)])]] [(1000,1000),(1001,1001),(1002,1002),(1003,1003),(1008,1005)] (J d1 (J w1d (J (lt_nat w1d) (J w2d (J (lt_nat w2d) (J w3d (J (lt_nat w3d) (J w4d (J (lt_nat w4d) (J (qHJ4ny_runs r xd (NGk1 rN xd)) (J d2 (J d3 (J (rBit_ok (NGk2 rN xd) 128 (by decide:(128:Int) ≠ 0)) (J (qHJ5nynn_runs r rN xd (rBit (NGk2 rN xd) 128)) (J (qHJ6nynn_runs r rN xd (NGk0 r rN xd)) (J w5d (J (lt_nat w5d) (J w6d (J (lt_nat w6d) (J (rNum_ok (NGk4 rM r rN xd) (NGk3 rM r rN xd)) (J (rBit_ok (NGk2 rN xd) 64 (by decide:(64:Int) ≠ 0)) (J d4 (J T1 (J (Eq.refl (7:Int)) (J T1 (J (Eq.refl (6:Int)) (J T1 (J (Eq.refl (5:Int)) (J T1 (J (Eq.refl (4:Int)) (J T1 (J (Eq.refl (3:Int)) (J T1 (J (Eq.refl (2:Int)) (J T1 (J (Eq.refl (1:Int)) (J T1 (J (Eq.refl (0:Int)) (J (sl_snoc 1008 4 xd.1 (NGk5 rN xd rM r)) (J (Man_snoc xd.1 (NGk5 rN xd rM r)) (J w7d (J (rows_size Man.cells Man.nil 4 119 false xd.1) trivial)))))))))))))))))))))))))))))))))))))))))) (by kernel_rfl)
abbrev NGk6 (rN:Nat → Int) (xd:(List Man) × Int × RPic) (rM:Nat → Int) (r:RPic):=({ X:=(i64.wrap (rN (Int.toNat (i64.wrap ((i64.wrap (4 * xd.2.1)) + 3))))),Look:=(NGk2 rN xd),First:=(xd.2.1 == 0),Dots:=(rNum (NGk4 rM r rN xd) (NGk3 rM r rN xd)),Full:=true }:Man)
theorem qHL3n_p4 (r:RPic) (rM:Nat → Int) (rN:Nat → Int) (rS:Nat → Int) (xd:(List Man) × Int × RPic) (d1:(decide (xd.2.1 < 64)) = true) (w1d:0 ≤ (i64.wrap (4 * xd.2.1)) ∧ (i64.wrap (4 * xd.2.1)) < ((256:Nat):Int)) (w2d:0 ≤ (i64.wrap ((i64.wrap (4 * xd.2.1)) + 1)) ∧ (i64.wrap ((i64.wrap (4 * xd.2.1)) + 1)) < ((256:Nat):Int)) (w3d:0 ≤ (i64.wrap ((i64.wrap (4 * xd.2.1)) + 2)) ∧ (i64.wrap ((i64.wrap (4 * xd.2.1)) + 2)) < ((256:Nat):Int)) (w4d:0 ≤ (i64.wrap ((i64.wrap (4 * xd.2.1)) + 3)) ∧ (i64.wrap ((i64.wrap (4 * xd.2.1)) + 3)) < ((256:Nat):Int)) (d2:(qHJ4ny r xd ((i64.wrap (rN (Int.toNat (i64.wrap ((i64.wrap (4 * xd.2.1)) + 1))))),(i64.wrap (rN (Int.toNat (i64.wrap ((i64.wrap (4 * xd.2.1)) + 2))))),(i64.wrap (rN (Int.toNat (i64.wrap ((i64.wrap (4 * xd.2.1)) + 3))))),(i64.wrap (xd.2.2.Line - (i64.wrap (rN (Int.toNat (i64.wrap (4 * xd.2.1))))))))) = false) (d3:(((((List.length xd.1):Nat):Int):Int) == 8) = false) (w5d:0 ≤ (qHJ6nynn r rN xd ((qHJ5nynn r rN xd (rBit (i64.wrap (rN (Int.toNat (i64.wrap ((i64.wrap (4 * xd.2.1)) + 2))))) 128)),(i64.wrap ((i64.wrap (16 * (i64.wrap (rN (Int.toNat (i64.wrap ((i64.wrap (4 * xd.2.1)) + 1))))))) + (qHJ5nynn r rN xd (rBit (i64.wrap (rN (Int.toNat (i64.wrap ((i64.wrap (4 * xd.2.1)) + 2))))) 128)))))) ∧ (qHJ6nynn r rN xd ((qHJ5nynn r rN xd (rBit (i64.wrap (rN (Int.toNat (i64.wrap ((i64.wrap (4 * xd.2.1)) + 2))))) 128)),(i64.wrap ((i64.wrap (16 * (i64.wrap (rN (Int.toNat (i64.wrap ((i64.wrap (4 * xd.2.1)) + 1))))))) + (qHJ5nynn r rN xd (rBit (i64.wrap (rN (Int.toNat (i64.wrap ((i64.wrap (4 * xd.2.1)) + 2))))) 128)))))) < ((16384:Nat):Int)) (w6d:0 ≤ (i64.wrap ((qHJ6nynn r rN xd ((qHJ5nynn r rN xd (rBit (i64.wrap (rN (Int.toNat (i64.wrap ((i64.wrap (4 * xd.2.1)) + 2))))) 128)),(i64.wrap ((i64.wrap (16 * (i64.wrap (rN (Int.toNat (i64.wrap ((i64.wrap (4 * xd.2.1)) + 1))))))) + (qHJ5nynn r rN xd (rBit (i64.wrap (rN (Int.toNat (i64.wrap ((i64.wrap (4 * xd.2.1)) + 2))))) 128)))))) + 8)) ∧ (i64.wrap ((qHJ6nynn r rN xd ((qHJ5nynn r rN xd (rBit (i64.wrap (rN (Int.toNat (i64.wrap ((i64.wrap (4 * xd.2.1)) + 2))))) 128)),(i64.wrap ((i64.wrap (16 * (i64.wrap (rN (Int.toNat (i64.wrap ((i64.wrap (4 * xd.2.1)) + 1))))))) + (qHJ5nynn r rN xd (rBit (i64.wrap (rN (Int.toNat (i64.wrap ((i64.wrap (4 * xd.2.1)) + 2))))) 128)))))) + 8)) < ((16384:Nat):Int)) (d4:(rBit (i64.wrap (rN (Int.toNat (i64.wrap ((i64.wrap (4 * xd.2.1)) + 2))))) 64) = false) (w7d:(List.length xd.1) + 1 ≤ 1048576):RunsM Try.prog 196 (bodyOf Try.f83 [1,1,1,1,1,0,0]) 1005 (qHL3n_T r rM rN rS xd) (qHL3n_H r rM rN rS xd) 1006 .normal (qHL3n_T r rM rN rS ((xd.1 ++ [({ X:=(i64.wrap (rN (Int.toNat (i64.wrap ((i64.wrap (4 * xd.2.1)) + 3))))),Look:=(i64.wrap (rN (Int.toNat (i64.wrap ((i64.wrap (4 * xd.2.1)) + 2))))),First:=(xd.2.1 == 0),Dots:=(rNum (i64.wrap (rM (Int.toNat (qHJ6nynn r rN xd ((qHJ5nynn r rN xd (rBit (i64.wrap (rN (Int.toNat (i64.wrap ((i64.wrap (4 * xd.2.1)) + 2))))) 128)),(i64.wrap ((i64.wrap (16 * (i64.wrap (rN (Int.toNat (i64.wrap ((i64.wrap (4 * xd.2.1)) + 1))))))) + (qHJ5nynn r rN xd (rBit (i64.wrap (rN (Int.toNat (i64.wrap ((i64.wrap (4 * xd.2.1)) + 2))))) 128))))))))) (i64.wrap (rM (Int.toNat (i64.wrap ((qHJ6nynn r rN xd ((qHJ5nynn r rN xd (rBit (i64.wrap (rN (Int.toNat (i64.wrap ((i64.wrap (4 * xd.2.1)) + 2))))) 128)),(i64.wrap ((i64.wrap (16 * (i64.wrap (rN (Int.toNat (i64.wrap ((i64.wrap (4 * xd.2.1)) + 1))))))) + (qHJ5nynn r rN xd (rBit (i64.wrap (rN (Int.toNat (i64.wrap ((i64.wrap (4 * xd.2.1)) + 2))))) 128)))))) + 8)))))),Full:=true }:Man)]),(i64.wrap (xd.2.1 + 1)),xd.2.2)) (qHL3n_H r rM rN rS ((xd.1 ++ [({ X:=(i64.wrap (rN (Int.toNat (i64.wrap ((i64.wrap (4 * xd.2.1)) + 3))))),Look:=(i64.wrap (rN (Int.toNat (i64.wrap ((i64.wrap (4 * xd.2.1)) + 2))))),First:=(xd.2.1 == 0),Dots:=(rNum (i64.wrap (rM (Int.toNat (qHJ6nynn r rN xd ((qHJ5nynn r rN xd (rBit (i64.wrap (rN (Int.toNat (i64.wrap ((i64.wrap (4 * xd.2.1)) + 2))))) 128)),(i64.wrap ((i64.wrap (16 * (i64.wrap (rN (Int.toNat (i64.wrap ((i64.wrap (4 * xd.2.1)) + 1))))))) + (qHJ5nynn r rN xd (rBit (i64.wrap (rN (Int.toNat (i64.wrap ((i64.wrap (4 * xd.2.1)) + 2))))) 128))))))))) (i64.wrap (rM (Int.toNat (i64.wrap ((qHJ6nynn r rN xd ((qHJ5nynn r rN xd (rBit (i64.wrap (rN (Int.toNat (i64.wrap ((i64.wrap (4 * xd.2.1)) + 2))))) 128)),(i64.wrap ((i64.wrap (16 * (i64.wrap (rN (Int.toNat (i64.wrap ((i64.wrap (4 * xd.2.1)) + 1))))))) + (qHJ5nynn r rN xd (rBit (i64.wrap (rN (Int.toNat (i64.wrap ((i64.wrap (4 * xd.2.1)) + 2))))) 128)))))) + 8)))))),Full:=true }:Man)]),(i64.wrap (xd.2.1 + 1)),xd.2.2)) 1006:=by
 exact runsM_of_x hG hM 400 1005 [.yes,.sym,.sym,.sym,.sym,.segk 0 10 [0,2,3,5,6,7,8] [] .normal (qHJ4ny_T1 r xd (NGk1 rN xd) (qHJ4ny r xd (NGk1 rN xd))) (qHJ4ny_H1 r xd (NGk1 rN xd) (qHJ4ny r xd (NGk1 rN xd))) 1006,.no,.no,.call [] [] 1000 (.bool (rBit (NGk2 rN xd) 128)) [],.segk 2 0 [0,2,3,5,6,7,8,100] [] .normal (qHJ5nynn_T1 r rN xd (rBit (NGk2 rN xd) 128) (qHJ5nynn r rN xd (rBit (NGk2 rN xd) 128))) (qHJ5nynn_H1 r rN xd (rBit (NGk2 rN xd) 128) (qHJ5nynn r rN xd (rBit (NGk2 rN xd) 128))) 1006,.segk 2 0 [0,2,3,5,6,7,8,9,110] [1000] .normal (qHJ6nynn_T1 r rN xd (NGk0 r rN xd) (qHJ6nynn r rN xd (NGk0 r rN xd))) (qHJ6nynn_H1 r rN xd (NGk0 r rN xd) (qHJ6nynn r rN xd (NGk0 r rN xd))) 1006,.sym,.sym,.call [] [] 1000 (.func (.yield 1) ⟨[.int .i64 (rNum (NGk4 rM r rN xd) (NGk3 rM r rN xd) 0),.int .i64 (rNum (NGk4 rM r rN xd) (NGk3 rM r rN xd) 1),.int .i64 (rNum (NGk4 rM r rN xd) (NGk3 rM r rN xd) 2),.int .i64 (rNum (NGk4 rM r rN xd) (NGk3 rM r rN xd) 3),.int .i64 (rNum (NGk4 rM r rN xd) (NGk3 rM r rN xd) 4),.int .i64 (rNum (NGk4 rM r rN xd) (NGk3 rM r rN xd) 5),.int .i64 (rNum (NGk4 rM r rN xd) (NGk3 rM r rN xd) 6),.int .i64 (rNum (NGk4 rM r rN xd) (NGk3 rM r rN xd) 7)]⟩ ⟨[.bool true]⟩) [],.call [] [] 1000 (.bool (rBit (NGk2 rN xd) 64)) [],.no,.eq 193 (sl 1008 (List.length (xd.1 ++ [(NGk6 rN xd rM r)])) 4),.list [rowsL Man.cells Man.nil 4 (xd.1 ++ [(NGk6 rN xd rM r)])]] [(1000,1000),(1001,1001),(1002,1002),(1003,1003),(1008,1005)] (J d1 (J w1d (J (lt_nat w1d) (J w2d (J (lt_nat w2d) (J w3d (J (lt_nat w3d) (J w4d (J (lt_nat w4d) (J (qHJ4ny_runs r xd (NGk1 rN xd)) (J d2 (J d3 (J (rBit_ok (NGk2 rN xd) 128 (by decide:(128:Int) ≠ 0)) (J (qHJ5nynn_runs r rN xd (rBit (NGk2 rN xd) 128)) (J (qHJ6nynn_runs r rN xd (NGk0 r rN xd)) (J w5d (J (lt_nat w5d) (J w6d (J (lt_nat w6d) (J (rNum_ok (NGk4 rM r rN xd) (NGk3 rM r rN xd)) (J (rBit_ok (NGk2 rN xd) 64 (by decide:(64:Int) ≠ 0)) (J d4 (J (sl_snoc 1008 4 xd.1 (NGk6 rN xd rM r)) (J (Man_snoc xd.1 (NGk6 rN xd rM r)) (J w7d (J (rows_size Man.cells Man.nil 4 119 false xd.1) trivial)))))))))))))))))))))))))) (by kernel_rfl)
theorem qHL3n_p5 (r:RPic) (rM:Nat → Int) (rN:Nat → Int) (rS:Nat → Int) (xd:(List Man) × Int × RPic) (d1:(decide (xd.2.1 < 64)) = false):RunsM Try.prog 196 (bodyOf Try.f83 [1,1,1,1,1,0,0]) 1005 (qHL3n_T r rM rN rS xd) (qHL3n_H r rM rN rS xd) 1006 (.exit 0) (qHL3n_T1 r rM rN rS (.inl (xd.1,xd.2.1,xd.2.2))) (qHL3n_H1 r rM rN rS (.inl (xd.1,xd.2.1,xd.2.2))) 1006:=by
 exact runsM_of_x hG hM 400 1005 [.no] [(1000,1000),(1001,1001),(1002,1002),(1003,1003),(1005,1005)] (J d1 trivial) (by kernel_rfl)
theorem qHL3n_runs (r:RPic) (rM:Nat → Int) (rN:Nat → Int) (rS:Nat → Int) (x_:(List Man) × Int × RPic) (y_:((List Man) × Int × RPic) ⊕ ((List Man) × Int × RPic)) (h_:LoopR (qHL3n r rM rN rS) x_ y_):RunsM Try.prog 196 (.block 0 (.loop (bodyOf Try.f83 [1,1,1,1,1,0,0]))) 1005 (qHL3n_T r rM rN rS x_) (qHL3n_H r rM rN rS x_) 1006 (outOf 0 (qHL3n_ex y_)) (qHL3n_T1 r rM rN rS y_) (qHL3n_H1 r rM rN rS y_) 1006:=by
 refine block_loopM hG (qHL3n r rM rN rS) (qHL3n_T r rM rN rS) (qHL3n_H r rM rN rS) qHL3n_ex (qHL3n_T1 r rM rN rS) (qHL3n_H1 r rM rN rS) ?_ ?_ ?_ x_ y_ h_
 ·intro s r _ hr;cases r <;> cases hr
 ·intro xd y_ hx
  cases hx with
  | p1 d1 w1d w2d w3d w4d d2 => exact qHL3n_p1 r rM rN rS xd d1 w1d w2d w3d w4d d2
  | p3 d1 w1d w2d w3d w4d d2 d3 w5d w6d d4 w7d => exact qHL3n_p3 r rM rN rS xd d1 w1d w2d w3d w4d d2 d3 w5d w6d d4 w7d
  | p4 d1 w1d w2d w3d w4d d2 d3 w5d w6d d4 w7d => exact qHL3n_p4 r rM rN rS xd d1 w1d w2d w3d w4d d2 d3 w5d w6d d4 w7d
 ·intro xd y_ hx
  cases hx with
  | p2 d1 w1d w2d w3d w4d d2 d3 => exact qHL3n_p2 r rM rN rS xd d1 w1d w2d w3d w4d d2 d3
  | p5 d1 => exact qHL3n_p5 r rM rN rS xd d1
theorem rChoose_p1 (r:RPic) (rM:Nat → Int) (rN:Nat → Int) (rS:Nat → Int) (rC:List Man) (c1:(qHJ1 r) = true):FnSpec Try.prog 83 1005 [pt 1000] [(1000,(RPic.bl r (sl 1001 16384 1) (sl 1002 256 1) (sl 1004 (List.length rC) 4) (sl 1003 61440 1) false)),(1001,iB 16384 rM false),(1002,iB 256 rN false),(1003,iB 61440 rS false),(1004,mB rC false)] (.tuple ⟨[]⟩) [(1000,(RPic.bl ((r,([]:List Man)).1) (sl 1001 16384 1) (sl 1002 256 1) (sl 1005 (List.length ((r,([]:List Man)).2)) 4) (sl 1003 61440 1) false)),(1001,iB 16384 rM false),(1002,iB 256 rN false),(1003,iB 61440 rS false),(1005,⟨[rowsL Man.cells Man.nil 4 ((r,([]:List Man)).2)],119,false⟩)]:=by
 exact fn_ren (v:=.tuple ⟨[]⟩) (H1:=[(1000,(RPic.bl r (sl 1001 16384 1) (sl 1002 256 1) (.slice none 0 0) (sl 1003 61440 1) false)),(1001,iB 16384 rM false),(1002,iB 256 rN false),(1003,iB 61440 rS false)]) (fn_of_x hG hM Try.func83 (by kernel_rfl) (by kernel_rfl) 400 [.segk 0 1 [0] [1000] .normal (qHJ1_T1 r (qHJ1 r)) (qHJ1_H1 r (qHJ1 r)) 1005,.yes] (J (qHJ1_runs r) (J c1 trivial)) (by kernel_rfl)) [(1000,1000),(1001,1001),(1002,1002),(1003,1003)] 1006 (by kernel_rfl)
theorem rChoose_p2 (r:RPic) (rM:Nat → Int) (rN:Nat → Int) (rS:Nat → Int) (rC:List Man) (c1:(qHJ1 r) = false) (r3:(List Man) × Int × RPic) (l3:LoopR (qHL3n r rM rN rS) ([],0,r) (.inl r3)):FnSpec Try.prog 83 1005 [pt 1000] [(1000,(RPic.bl r (sl 1001 16384 1) (sl 1002 256 1) (sl 1004 (List.length rC) 4) (sl 1003 61440 1) false)),(1001,iB 16384 rM false),(1002,iB 256 rN false),(1003,iB 61440 rS false),(1004,mB rC false)] (.tuple ⟨[]⟩) [(1000,(RPic.bl ((r3.2.2,r3.1).1) (sl 1001 16384 1) (sl 1002 256 1) (sl 1005 (List.length ((r3.2.2,r3.1).2)) 4) (sl 1003 61440 1) false)),(1001,iB 16384 rM false),(1002,iB 256 rN false),(1003,iB 61440 rS false),(1005,⟨[rowsL Man.cells Man.nil 4 ((r3.2.2,r3.1).2)],119,false⟩)]:=by
 exact fn_ren (v:=.tuple ⟨[]⟩) (H1:=[(1000,(RPic.bl r3.2.2 (sl 1001 16384 1) (sl 1002 256 1) (sl 1005 (List.length r3.1) 4) (sl 1003 61440 1) false)),(1001,iB 16384 rM false),(1002,iB 256 rN false),(1003,iB 61440 rS false),(1005,⟨[rowsL Man.cells Man.nil 4 r3.1],119,false⟩)]) (fn_of_x hG hM Try.func83 (by kernel_rfl) (by kernel_rfl) 400 [.segk 0 1 [0] [1000] .normal (qHJ1_T1 r (qHJ1 r)) (qHJ1_H1 r (qHJ1 r)) 1005,.no,.call [] [] 1000 (.bool (rBit r.Control 32)) [],.segk 2 0 [0,2,33] [] .normal (qHJ2n_T1 r (qHJ2n r)) (qHJ2n_H1 r (qHJ2n r)) 1005,.segk 1 0 [0,2,3] [1000,1001,1002] .normal (qHL3n_T1 r rM rN rS (.inl r3)) (qHL3n_H1 r rM rN rS (.inl r3)) 1006] (J (qHJ1_runs r) (J c1 (J (rBit_ok r.Control 32 (by decide:(32:Int) ≠ 0)) (J (qHJ2n_runs r) (J (runs_of_pre hG (qHL3n_runs r rM rN rS ([],0,r) (.inl r3) l3) [(1000,1000),(1001,1001),(1002,1002),(1003,1003)] (T:=[(0,pt 1000),(2,.int .i64 (qHJ2n r)),(3,.int .i64 0)]) (H:=[(1000,(RPic.bl r (sl 1001 16384 1) (sl 1002 256 1) (.slice none 0 0) (sl 1003 61440 1) false)),(1001,iB 16384 rM false),(1002,iB 256 rN false)]) (by kernel_rfl)) trivial))))) (by kernel_rfl)) [(1000,1000),(1001,1001),(1002,1002),(1003,1003),(1005,1005)] 1006 (by kernel_rfl)
theorem rChoose_p3 (r:RPic) (rM:Nat → Int) (rN:Nat → Int) (rS:Nat → Int) (rC:List Man) (c1:(qHJ1 r) = false) (r3:(List Man) × Int × RPic) (l3:LoopR (qHL3n r rM rN rS) ([],0,r) (.inr r3)):FnSpec Try.prog 83 1005 [pt 1000] [(1000,(RPic.bl r (sl 1001 16384 1) (sl 1002 256 1) (sl 1004 (List.length rC) 4) (sl 1003 61440 1) false)),(1001,iB 16384 rM false),(1002,iB 256 rN false),(1003,iB 61440 rS false),(1004,mB rC false)] (.tuple ⟨[]⟩) [(1000,(RPic.bl ((r3.2.2,r3.1).1) (sl 1001 16384 1) (sl 1002 256 1) (sl 1005 (List.length ((r3.2.2,r3.1).2)) 4) (sl 1003 61440 1) false)),(1001,iB 16384 rM false),(1002,iB 256 rN false),(1003,iB 61440 rS false),(1005,⟨[rowsL Man.cells Man.nil 4 ((r3.2.2,r3.1).2)],119,false⟩)]:=by
 exact fn_ren (v:=.tuple ⟨[]⟩) (H1:=[(1000,(RPic.bl r3.2.2 (sl 1001 16384 1) (sl 1002 256 1) (sl 1005 (List.length r3.1) 4) (sl 1003 61440 1) false)),(1001,iB 16384 rM false),(1002,iB 256 rN false),(1003,iB 61440 rS false),(1005,⟨[rowsL Man.cells Man.nil 4 r3.1],119,false⟩)]) (fn_of_x hG hM Try.func83 (by kernel_rfl) (by kernel_rfl) 400 [.segk 0 1 [0] [1000] .normal (qHJ1_T1 r (qHJ1 r)) (qHJ1_H1 r (qHJ1 r)) 1005,.no,.call [] [] 1000 (.bool (rBit r.Control 32)) [],.segk 2 0 [0,2,33] [] .normal (qHJ2n_T1 r (qHJ2n r)) (qHJ2n_H1 r (qHJ2n r)) 1005,.segk 1 0 [0,2,3] [1000,1001,1002] .ret (qHL3n_T1 r rM rN rS (.inr r3)) (qHL3n_H1 r rM rN rS (.inr r3)) 1006] (J (qHJ1_runs r) (J c1 (J (rBit_ok r.Control 32 (by decide:(32:Int) ≠ 0)) (J (qHJ2n_runs r) (J (runs_of_pre hG (qHL3n_runs r rM rN rS ([],0,r) (.inr r3) l3) [(1000,1000),(1001,1001),(1002,1002),(1003,1003)] (T:=[(0,pt 1000),(2,.int .i64 (qHJ2n r)),(3,.int .i64 0)]) (H:=[(1000,(RPic.bl r (sl 1001 16384 1) (sl 1002 256 1) (.slice none 0 0) (sl 1003 61440 1) false)),(1001,iB 16384 rM false),(1002,iB 256 rN false)]) (by kernel_rfl)) trivial))))) (by kernel_rfl)) [(1000,1000),(1001,1001),(1002,1002),(1003,1003),(1005,1005)] 1006 (by kernel_rfl)
end Go.Proofs.Ytgnhhnmpeklciaa
