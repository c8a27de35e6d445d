/-
  Texts laid together: OF, OR, OU, OV, OW, OX, OQ, OS, VW, VZ, KT, OH, OK, OJ. No condition.
-/
import Derived.ChangeSame
import Derived.DataReads
import Derived.Deep.Fields
import Derived.Deep.Slices
import Derived.Test.YtgnhhnmpeklciaaMSe
set_option linter.unusedVariables false
set_option linter.unusedSimpArgs false
set_option linter.unusedSectionVars false
set_option maxRecDepth 100000
set_option maxHeartbeats 4000000
namespace Go.Proofs.Ytgnhhnmpeklciaa
open Go VX
theorem layF_let (p:Pic) (r:RPic) (rM:Nat → Int) (rN:Nat → Int) (rS:Nat → Int) (nTz:Nat) (dTz:Nat) (sTz:Nat → Int) (nNz:Nat) (dNz:Nat) (sNz:Nat → Int) (nKz:Nat) (dKz:Nat) (sKz:Nat → Int) (nMz:Nat) (dMz:Nat) (sMz:Nat → Int) (sUz:Bool) (pC:List Sprite) (rC:List Man) (wTz:∀ j,rng 256 (sTz j)) (wNz:∀ j,rng 256 (sNz j)) (wKz:∀ j,rng 256 (sKz j)) (wMz:∀ j,rng 256 (sMz j)) (b:Both p pC r rM rN rS rC) (z_:Ly) (ez_:z_ = layF p r rM rN rS nTz dTz sTz nNz dNz sNz nKz dKz sKz nMz dMz sMz sUz pC rC):FnSpec Try.prog 28 1011 [pt 1000,pt 1001,.agg ⟨[sd 1005 dTz nTz,sd 1006 dNz nNz,sd 1007 dKz nKz,sd 1008 dMz nMz,.bool sUz]⟩] [(1000,(Pic.bl p (sl 1009 (List.length pC) 5) false)),(1001,(RPic.bl r (sl 1002 16384 1) (sl 1003 256 1) (sl 1010 (List.length rC) 4) (sl 1004 61440 1) false)),(1002,iB 16384 rM false),(1003,iB 256 rN false),(1004,iB 61440 rS false),(1009,sB pC false),(1010,mB rC false),(1005,gB dTz nTz sTz),(1006,gB dNz nNz sNz),(1007,gB dKz nKz sKz),(1008,gB dMz nMz sMz)] (.tuple ⟨[]⟩) [(1000,(Pic.bl z_.1 (sl 1009 (List.length pC) 5) false)),(1001,(RPic.bl z_.2.1 (sl 1002 16384 1) (sl 1003 256 1) (sl 1010 (List.length rC) 4) (sl 1004 61440 1) false)),(1002,⟨[.ints .u8 16384 z_.2.2.1],5,false⟩),(1003,⟨[.ints .u8 256 z_.2.2.2],5,false⟩),(1004,iB 61440 rS false),(1009,sB pC false),(1010,mB rC false)]:=by
 rw [ez_];exact layF_ok p r rM rN rS nTz dTz sTz nNz dNz sNz nKz dKz sKz nMz dMz sMz sUz pC rC wTz wNz wKz wMz b
theorem both_let (p:Pic) (r:RPic) (rM:Nat → Int) (rN:Nat → Int) (rS:Nat → Int) (reg:Int) (b:Int) (pC:List Sprite) (rC:List Man) (w_p:Pic.ok p) (hA:0 ≤ r.At ∧ r.At < ((256:Nat):Int)) (hV:0 ≤ rBits r.S.V) (z_:Pic × RPic × (Nat → Int) × (Nat → Int)) (ez_:z_ = both p r rM rN rS reg b pC rC):FnSpec Try.prog 16 1007 [pt 1000,pt 1001,.int .u8 reg,.int .u8 b] [(1000,(Pic.bl p (sl 1005 (List.length pC) 5) false)),(1001,(RPic.bl r (sl 1002 16384 1) (sl 1003 256 1) (sl 1006 (List.length rC) 4) (sl 1004 61440 1) false)),(1002,iB 16384 rM false),(1003,iB 256 rN false),(1004,iB 61440 rS false),(1005,sB pC false),(1006,mB rC false)] (.tuple ⟨[]⟩) [(1000,(Pic.bl z_.1 (sl 1005 (List.length pC) 5) false)),(1001,(RPic.bl z_.2.1 (sl 1002 16384 1) (sl 1003 256 1) (sl 1006 (List.length rC) 4) (sl 1004 61440 1) false)),(1002,⟨[.ints .u8 16384 z_.2.2.1],5,false⟩),(1003,⟨[.ints .u8 256 z_.2.2.2],5,false⟩),(1004,iB 61440 rS false),(1005,sB pC false),(1006,mB rC false)]:=by
 rw [ez_];exact both_ok p r rM rN rS reg b pC rC w_p hA hV
theorem stepF_let (p:Pic) (r:RPic) (rM:Nat → Int) (rN:Nat → Int) (rS:Nat → Int) (n:Int) (pC:List Sprite) (rC:List Man) (b:Both p pC r rM rN rS rC) (hn:0 ≤ n ∧ n < 1000000000) (z_:St) (ez_:z_ = stepF p r rM rN rS n pC rC):FnSpec Try.prog 29 1007 [pt 1000,pt 1001,.int .i64 n] [(1000,(Pic.bl p (sl 1005 (List.length pC) 5) false)),(1001,(RPic.bl r (sl 1002 16384 1) (sl 1003 256 1) (sl 1006 (List.length rC) 4) (sl 1004 61440 1) false)),(1002,iB 16384 rM false),(1003,iB 256 rN false),(1004,iB 61440 rS false),(1005,sB pC false),(1006,mB rC false)] (.bool true) [(1000,(Pic.bl z_.1 (sl 1007 (List.length z_.2.2.2.1) 5) false)),(1001,(RPic.bl z_.2.1 (sl 1002 16384 1) (sl 1003 256 1) (sl 1008 (List.length z_.2.2.2.2) 4) (sl 1004 61440 1) false)),(1002,iB 16384 rM false),(1003,iB 256 rN false),(1004,⟨[.ints .u8 61440 z_.2.2.1],5,false⟩),(1007,⟨[rowsL Sprite.cells Sprite.nil 5 z_.2.2.2.1],92,false⟩),(1008,⟨[rowsL Man.cells Man.nil 4 z_.2.2.2.2],119,false⟩)]:=by
 rw [ez_];exact stepF_ok p r rM rN rS n pC rC b hn
end Go.Proofs.Ytgnhhnmpeklciaa
namespace Go.Proofs.Ytgnhhnmpeklciaa
open Go VX
open Go.IntKind (i64 u8 u16)
abbrev ORk0 (x y:Int):=({ Column:=(Int.tmod (i64.wrap (Int.tdiv x 8)) 32),Line:=(i64.wrap (Int.tdiv (Int.tmod y 240) 8)),Across:=(Int.tmod (i64.wrap (Int.tdiv x 256)) 2),Down:=(Int.tmod (i64.wrap (Int.tdiv y 240)) 2),Row:=(Int.tmod (Int.tmod y 240) 8) }:Place)
theorem wSeen_p1 (r:RPic) (rM:Nat → Int) (rN:Nat → Int) (rS:Nat → Int) (rC:List Man) (x:Int) (y:Int) (w1c:∀ j,rng 256 (rM j)) (w2c:PlaceOk ({ Column:=(Int.tmod (i64.wrap (Int.tdiv x 8)) 32),Line:=(i64.wrap (Int.tdiv (Int.tmod y 240) 8)),Across:=(Int.tmod (i64.wrap (Int.tdiv x 256)) 2),Down:=(Int.tmod (i64.wrap (Int.tdiv y 240)) 2),Row:=(Int.tmod (Int.tmod y 240) 8) }:Place)) (w3c:0 ≤ (Int.tmod x 8) ∧ (Int.tmod x 8) < 16):FnSpec Try.prog 36 1005 [pt 1000,.int .i64 x,.int .i64 y] [(1000,(RPic.bl r (sl 1001 16384 1) (sl 1002 256 1) (sl 1004 (List.length rC) 4) (sl 1003 61440 1) true)),(1001,iB 16384 rM true),(1002,iB 256 rN true),(1003,iB 61440 rS true),(1004,mB rC true)] (.tuple ⟨[.int .i64 (((rTileF r rM rN rS rC ({ Column:=(Int.tmod (i64.wrap (Int.tdiv x 8)) 32),Line:=(i64.wrap (Int.tdiv (Int.tmod y 240) 8)),Across:=(Int.tmod (i64.wrap (Int.tdiv x 256)) 2),Down:=(Int.tmod (i64.wrap (Int.tdiv y 240)) 2),Row:=(Int.tmod (Int.tmod y 240) 8) }:Place) (Int.tmod x 8)).1,(rTileF r rM rN rS rC ({ Column:=(Int.tmod (i64.wrap (Int.tdiv x 8)) 32),Line:=(i64.wrap (Int.tdiv (Int.tmod y 240) 8)),Across:=(Int.tmod (i64.wrap (Int.tdiv x 256)) 2),Down:=(Int.tmod (i64.wrap (Int.tdiv y 240)) 2),Row:=(Int.tmod (Int.tmod y 240) 8) }:Place) (Int.tmod x 8)).2).1),.int .i64 (((rTileF r rM rN rS rC ({ Column:=(Int.tmod (i64.wrap (Int.tdiv x 8)) 32),Line:=(i64.wrap (Int.tdiv (Int.tmod y 240) 8)),Across:=(Int.tmod (i64.wrap (Int.tdiv x 256)) 2),Down:=(Int.tmod (i64.wrap (Int.tdiv y 240)) 2),Row:=(Int.tmod (Int.tmod y 240) 8) }:Place) (Int.tmod x 8)).1,(rTileF r rM rN rS rC ({ Column:=(Int.tmod (i64.wrap (Int.tdiv x 8)) 32),Line:=(i64.wrap (Int.tdiv (Int.tmod y 240) 8)),Across:=(Int.tmod (i64.wrap (Int.tdiv x 256)) 2),Down:=(Int.tmod (i64.wrap (Int.tdiv y 240)) 2),Row:=(Int.tmod (Int.tmod y 240) 8) }:Place) (Int.tmod x 8)).2).2)]⟩) []:=by
 exact fn_of_x hG hM Try.func36 (by kernel_rfl) (by kernel_rfl) 400 [.call [(1000,1000),(1001,1001),(1002,1002),(1003,1003),(1004,1004)] [] 1005 (.tuple ⟨[.int .i64 ((rTileF r rM rN rS rC (ORk0 x y) (Int.tmod x 8)).1),.int .i64 ((rTileF r rM rN rS rC (ORk0 x y) (Int.tmod x 8)).2)]⟩) []] (J (by decide:((8:Int) ≠ 0)) (J (by decide:((32:Int) ≠ 0)) (J (by decide:((240:Int) ≠ 0)) (J (by decide:((8:Int) ≠ 0)) (J (by decide:((256:Int) ≠ 0)) (J (by decide:((2:Int) ≠ 0)) (J (by decide:((240:Int) ≠ 0)) (J (by decide:((2:Int) ≠ 0)) (J (by decide:((240:Int) ≠ 0)) (J (by decide:((8:Int) ≠ 0)) (J (by decide:((8:Int) ≠ 0)) (J (rTileF_ok r rM rN rS rC (ORk0 x y) (Int.tmod x 8) w1c w2c w3c) trivial)))))))))))) (by kernel_rfl)
end Go.Proofs.Ytgnhhnmpeklciaa
namespace Go.Proofs.Ytgnhhnmpeklciaa
open Go VX
open Go.IntKind (i64 u8 u16)
def worldPl (x y:Int):Place:={ Column:=x / 8 % 32,Line:=y % 240 / 8,Across:=x / 256 % 2,Down:=y / 240 % 2,Row:=y % 240 % 8 }
def rSeenF (r:RPic) (rM:Nat → Int) (rN:Nat → Int) (rS:Nat → Int) (rC:List Man) (x:Int) (y:Int):Int × Int:=rTileF r rM rN rS rC (worldPl x y) (x % 8)
theorem world_ok {x y:Int} (hx:0 ≤ x) (hy:0 ≤ y):PlaceOk (worldPl x y):=by
 unfold worldPl
 exact ⟨by simp only;omega,by simp only;omega,by simp only;omega,by simp only;omega,by simp only;omega⟩
theorem rSeenF_ok (r:RPic) (rM:Nat → Int) (rN:Nat → Int) (rS:Nat → Int) (rC:List Man) (x:Int) (y:Int) (w:∀ j,rng 256 (rM j)) (hx:0 ≤ x ∧ x < 100000) (hy:0 ≤ y ∧ y < 100000):FnSpec Try.prog 36 1005 [pt 1000,.int .i64 x,.int .i64 y] [(1000,(RPic.bl r (sl 1001 16384 1) (sl 1002 256 1) (sl 1004 (List.length rC) 4) (sl 1003 61440 1) true)),(1001,iB 16384 rM true),(1002,iB 256 rN true),(1003,iB 61440 rS true),(1004,mB rC true)] (.tuple ⟨[.int .i64 ((rSeenF r rM rN rS rC x y).1),.int .i64 ((rSeenF r rM rN rS rC x y).2)]⟩) []:=by
 have e:({ Column:=(Int.tmod (i64.wrap (Int.tdiv x 8)) 32),Line:=(i64.wrap (Int.tdiv (Int.tmod y 240) 8)),Across:=(Int.tmod (i64.wrap (Int.tdiv x 256)) 2),Down:=(Int.tmod (i64.wrap (Int.tdiv y 240)) 2),Row:=(Int.tmod (Int.tmod y 240) 8) }:Place) = worldPl x y:=by
  unfold worldPl
  rw [td_e 8 hx.1,td_e 256 hx.1,td_e 240 hy.1,tm_e 240 hy.1,td_e 8 (show 0 ≤ y % 240 by omega),tm_e 8 (show 0 ≤ y % 240 by omega),w64 (x:=x / 8) (by omega) (by omega),w64 (x:=y % 240 / 8) (by omega) (by omega),w64 (x:=x / 256) (by omega) (by omega),w64 (x:=y / 240) (by omega) (by omega),tm_e 32 (show 0 ≤ x / 8 by omega),tm_e 2 (show 0 ≤ x / 256 by omega),tm_e 2 (show 0 ≤ y / 240 by omega)]
 have e8:Int.tmod x 8 = x % 8:=tm_e 8 hx.1
 have P:=wSeen_p1 r rM rN rS rC x y w (by rw [e];exact world_ok hx.1 hy.1) (by rw [e8];omega)
 rw [e,e8] at P
 exact P
end Go.Proofs.Ytgnhhnmpeklciaa
namespace Go.Proofs.Ytgnhhnmpeklciaa
open Go VX
open Go.IntKind (i64 u8 u16)
inductive lawScrolls_L1 (which:Int) (right:Int) (down:Int) (line:Int) (s22c:Pic × RPic × (Nat → Int) × (Nat → Int)) (s25c:St) (xd:Int × Bool):(Int × Bool) ⊕ (Int × Bool) → Prop
 | p1 (d1:(decide (xd.1 < 256)) = true) (w27d:0 ≤ xd.1 ∧ xd.1 < ((256:Nat):Int)) (w28d:∀ j,rng 256 (s22c.2.2.1 j)) (w29d:0 ≤ (i64.wrap ((i64.wrap ((i64.wrap (256 * (i64.wrap (bAnd .u8 which 1)))) + (i64.wrap right))) + xd.1)) ∧ (i64.wrap ((i64.wrap ((i64.wrap (256 * (i64.wrap (bAnd .u8 which 1)))) + (i64.wrap right))) + xd.1)) < 100000) (w30d:0 ≤ (i64.wrap ((i64.wrap ((i64.wrap (240 * (i64.wrap (bAnd .u8 (bShr .u8 which 1) 1)))) + (i64.wrap (Int.tmod down 240)))) + (i64.wrap (Int.tmod line 240)))) ∧ (i64.wrap ((i64.wrap ((i64.wrap (240 * (i64.wrap (bAnd .u8 (bShr .u8 which 1) 1)))) + (i64.wrap (Int.tmod down 240)))) + (i64.wrap (Int.tmod line 240)))) < 100000) (d2:(decide (((rSeenF s25c.2.1 s22c.2.2.1 s22c.2.2.2 s25c.2.2.1 s25c.2.2.2.2 (i64.wrap ((i64.wrap ((i64.wrap (256 * (i64.wrap (bAnd .u8 which 1)))) + (i64.wrap right))) + xd.1)) (i64.wrap ((i64.wrap ((i64.wrap (240 * (i64.wrap (bAnd .u8 (bShr .u8 which 1) 1)))) + (i64.wrap (Int.tmod down 240)))) + (i64.wrap (Int.tmod line 240))))).1:Int) > 0)) = true) (w31d:0 ≤ (i64.wrap (16128 + (i64.wrap ((i64.wrap (4 * (rSeenF s25c.2.1 s22c.2.2.1 s22c.2.2.2 s25c.2.2.1 s25c.2.2.2.2 (i64.wrap ((i64.wrap ((i64.wrap (256 * (i64.wrap (bAnd .u8 which 1)))) + (i64.wrap right))) + xd.1)) (i64.wrap ((i64.wrap ((i64.wrap (240 * (i64.wrap (bAnd .u8 (bShr .u8 which 1) 1)))) + (i64.wrap (Int.tmod down 240)))) + (i64.wrap (Int.tmod line 240))))).2)) + (rSeenF s25c.2.1 s22c.2.2.1 s22c.2.2.2 s25c.2.2.1 s25c.2.2.2.2 (i64.wrap ((i64.wrap ((i64.wrap (256 * (i64.wrap (bAnd .u8 which 1)))) + (i64.wrap right))) + xd.1)) (i64.wrap ((i64.wrap ((i64.wrap (240 * (i64.wrap (bAnd .u8 (bShr .u8 which 1) 1)))) + (i64.wrap (Int.tmod down 240)))) + (i64.wrap (Int.tmod line 240))))).1))))) (d3:((i64.wrap ((fun j => s25c.1.screen (Int.toNat (i64.wrap (Int.tmod line 240)) * 256 + j)) (Int.toNat xd.1))) != (rPeek s25c.2.1 s22c.2.2.1 s22c.2.2.2 s25c.2.2.1 s25c.2.2.2.2 (i64.wrap (16128 + (i64.wrap ((i64.wrap (4 * (rSeenF s25c.2.1 s22c.2.2.1 s22c.2.2.2 s25c.2.2.1 s25c.2.2.2.2 (i64.wrap ((i64.wrap ((i64.wrap (256 * (i64.wrap (bAnd .u8 which 1)))) + (i64.wrap right))) + xd.1)) (i64.wrap ((i64.wrap ((i64.wrap (240 * (i64.wrap (bAnd .u8 (bShr .u8 which 1) 1)))) + (i64.wrap (Int.tmod down 240)))) + (i64.wrap (Int.tmod line 240))))).2)) + (rSeenF s25c.2.1 s22c.2.2.1 s22c.2.2.2 s25c.2.2.1 s25c.2.2.2.2 (i64.wrap ((i64.wrap ((i64.wrap (256 * (i64.wrap (bAnd .u8 which 1)))) + (i64.wrap right))) + xd.1)) (i64.wrap ((i64.wrap ((i64.wrap (240 * (i64.wrap (bAnd .u8 (bShr .u8 which 1) 1)))) + (i64.wrap (Int.tmod down 240)))) + (i64.wrap (Int.tmod line 240))))).1)))))) = false):lawScrolls_L1 which right down line s22c s25c xd (.inl ((i64.wrap (xd.1 + 1)),xd.2))
 | p2 (d1:(decide (xd.1 < 256)) = true) (w27d:0 ≤ xd.1 ∧ xd.1 < ((256:Nat):Int)) (w28d:∀ j,rng 256 (s22c.2.2.1 j)) (w29d:0 ≤ (i64.wrap ((i64.wrap ((i64.wrap (256 * (i64.wrap (bAnd .u8 which 1)))) + (i64.wrap right))) + xd.1)) ∧ (i64.wrap ((i64.wrap ((i64.wrap (256 * (i64.wrap (bAnd .u8 which 1)))) + (i64.wrap right))) + xd.1)) < 100000) (w30d:0 ≤ (i64.wrap ((i64.wrap ((i64.wrap (240 * (i64.wrap (bAnd .u8 (bShr .u8 which 1) 1)))) + (i64.wrap (Int.tmod down 240)))) + (i64.wrap (Int.tmod line 240)))) ∧ (i64.wrap ((i64.wrap ((i64.wrap (240 * (i64.wrap (bAnd .u8 (bShr .u8 which 1) 1)))) + (i64.wrap (Int.tmod down 240)))) + (i64.wrap (Int.tmod line 240)))) < 100000) (d2:(decide (((rSeenF s25c.2.1 s22c.2.2.1 s22c.2.2.2 s25c.2.2.1 s25c.2.2.2.2 (i64.wrap ((i64.wrap ((i64.wrap (256 * (i64.wrap (bAnd .u8 which 1)))) + (i64.wrap right))) + xd.1)) (i64.wrap ((i64.wrap ((i64.wrap (240 * (i64.wrap (bAnd .u8 (bShr .u8 which 1) 1)))) + (i64.wrap (Int.tmod down 240)))) + (i64.wrap (Int.tmod line 240))))).1:Int) > 0)) = false) (d3:((i64.wrap ((fun j => s25c.1.screen (Int.toNat (i64.wrap (Int.tmod line 240)) * 256 + j)) (Int.toNat xd.1))) != (rPeek s25c.2.1 s22c.2.2.1 s22c.2.2.2 s25c.2.2.1 s25c.2.2.2.2 16128)) = false):lawScrolls_L1 which right down line s22c s25c xd (.inl ((i64.wrap (xd.1 + 1)),xd.2))
 | p3 (d1:(decide (xd.1 < 256)) = false):lawScrolls_L1 which right down line s22c s25c xd (.inr (xd.1,xd.2))
def lawScrolls_L1_T (which:Int) (right:Int) (down:Int) (line:Int) (s22c:Pic × RPic × (Nat → Int) × (Nat → Int)) (s25c:St) (xd:Int × Bool):Tm:=[(1,.int .u8 which),(2,.int .u8 right),(3,.int .u8 (Int.tmod down 240)),(10,.bool xd.2),(12,pt 1009),(13,.int .i64 (i64.wrap (Int.tmod line 240))),(63,sl 1014 256 1),(64,.int .i64 256),(65,.int .i64 xd.1)]
def lawScrolls_L1_H (which:Int) (right:Int) (down:Int) (line:Int) (s22c:Pic × RPic × (Nat → Int) × (Nat → Int)) (s25c:St) (xd:Int × Bool):Heap:=[(1006,⟨[.ints .u8 16384 s22c.2.2.1],5,false⟩),(1007,⟨[.ints .u8 256 s22c.2.2.2],5,false⟩),(1008,⟨[.ints .u8 61440 s25c.2.2.1],5,false⟩),(1009,(RPic.bl s25c.2.1 (sl 1006 16384 1) (sl 1007 256 1) (sl 1013 (List.length s25c.2.2.2.2) 4) (sl 1008 61440 1) false)),(1013,⟨[rowsL Man.cells Man.nil 4 s25c.2.2.2.2],119,false⟩),(1014,⟨[.ints .u8 256 (fun j => s25c.1.screen (Int.toNat (i64.wrap (Int.tmod line 240)) * 256 + j))],5,false⟩)]
def lawScrolls_L1_T1 (which:Int) (right:Int) (down:Int) (line:Int) (s22c:Pic × RPic × (Nat → Int) × (Nat → Int)) (s25c:St) (y_:Int × Bool):Tm:=lawScrolls_L1_T which right down line s22c s25c y_
def lawScrolls_L1_H1 (which:Int) (right:Int) (down:Int) (line:Int) (s22c:Pic × RPic × (Nat → Int) × (Nat → Int)) (s25c:St) (y_:Int × Bool):Heap:=lawScrolls_L1_H which right down line s22c s25c y_
def lawScrolls_L1_ex (_:Int × Bool):Ex:=.exit 0
abbrev OVk1 (which down line:Int):=(i64.wrap ((i64.wrap ((i64.wrap (240 * (i64.wrap (bAnd .u8 (bShr .u8 which 1) 1)))) + (i64.wrap (Int.tmod down 240)))) + (i64.wrap (Int.tmod line 240))))
abbrev OVk0 (s25c:St) (s22c:Pic × RPic × (Nat → Int) × (Nat → Int)) (which right:Int) (xd:Int × Bool) (down line:Int):=(rSeenF s25c.2.1 s22c.2.2.1 s22c.2.2.2 s25c.2.2.1 s25c.2.2.2.2 (i64.wrap ((i64.wrap ((i64.wrap (256 * (i64.wrap (bAnd .u8 which 1)))) + (i64.wrap right))) + xd.1)) (OVk1 which down line))
theorem lawScrolls_L1_p1 (which:Int) (right:Int) (down:Int) (line:Int) (s22c:Pic × RPic × (Nat → Int) × (Nat → Int)) (s25c:St) (xd:Int × Bool) (d1:(decide (xd.1 < 256)) = true) (w27d:0 ≤ xd.1 ∧ xd.1 < ((256:Nat):Int)) (w28d:∀ j,rng 256 (s22c.2.2.1 j)) (w29d:0 ≤ (i64.wrap ((i64.wrap ((i64.wrap (256 * (i64.wrap (bAnd .u8 which 1)))) + (i64.wrap right))) + xd.1)) ∧ (i64.wrap ((i64.wrap ((i64.wrap (256 * (i64.wrap (bAnd .u8 which 1)))) + (i64.wrap right))) + xd.1)) < 100000) (w30d:0 ≤ (i64.wrap ((i64.wrap ((i64.wrap (240 * (i64.wrap (bAnd .u8 (bShr .u8 which 1) 1)))) + (i64.wrap (Int.tmod down 240)))) + (i64.wrap (Int.tmod line 240)))) ∧ (i64.wrap ((i64.wrap ((i64.wrap (240 * (i64.wrap (bAnd .u8 (bShr .u8 which 1) 1)))) + (i64.wrap (Int.tmod down 240)))) + (i64.wrap (Int.tmod line 240)))) < 100000) (d2:(decide (((rSeenF s25c.2.1 s22c.2.2.1 s22c.2.2.2 s25c.2.2.1 s25c.2.2.2.2 (i64.wrap ((i64.wrap ((i64.wrap (256 * (i64.wrap (bAnd .u8 which 1)))) + (i64.wrap right))) + xd.1)) (i64.wrap ((i64.wrap ((i64.wrap (240 * (i64.wrap (bAnd .u8 (bShr .u8 which 1) 1)))) + (i64.wrap (Int.tmod down 240)))) + (i64.wrap (Int.tmod line 240))))).1:Int) > 0)) = true) (w31d:0 ≤ (i64.wrap (16128 + (i64.wrap ((i64.wrap (4 * (rSeenF s25c.2.1 s22c.2.2.1 s22c.2.2.2 s25c.2.2.1 s25c.2.2.2.2 (i64.wrap ((i64.wrap ((i64.wrap (256 * (i64.wrap (bAnd .u8 which 1)))) + (i64.wrap right))) + xd.1)) (i64.wrap ((i64.wrap ((i64.wrap (240 * (i64.wrap (bAnd .u8 (bShr .u8 which 1) 1)))) + (i64.wrap (Int.tmod down 240)))) + (i64.wrap (Int.tmod line 240))))).2)) + (rSeenF s25c.2.1 s22c.2.2.1 s22c.2.2.2 s25c.2.2.1 s25c.2.2.2.2 (i64.wrap ((i64.wrap ((i64.wrap (256 * (i64.wrap (bAnd .u8 which 1)))) + (i64.wrap right))) + xd.1)) (i64.wrap ((i64.wrap ((i64.wrap (240 * (i64.wrap (bAnd .u8 (bShr .u8 which 1) 1)))) + (i64.wrap (Int.tmod down 240)))) + (i64.wrap (Int.tmod line 240))))).1))))) (d3:((i64.wrap ((fun j => s25c.1.screen (Int.toNat (i64.wrap (Int.tmod line 240)) * 256 + j)) (Int.toNat xd.1))) != (rPeek s25c.2.1 s22c.2.2.1 s22c.2.2.2 s25c.2.2.1 s25c.2.2.2.2 (i64.wrap (16128 + (i64.wrap ((i64.wrap (4 * (rSeenF s25c.2.1 s22c.2.2.1 s22c.2.2.2 s25c.2.2.1 s25c.2.2.2.2 (i64.wrap ((i64.wrap ((i64.wrap (256 * (i64.wrap (bAnd .u8 which 1)))) + (i64.wrap right))) + xd.1)) (i64.wrap ((i64.wrap ((i64.wrap (240 * (i64.wrap (bAnd .u8 (bShr .u8 which 1) 1)))) + (i64.wrap (Int.tmod down 240)))) + (i64.wrap (Int.tmod line 240))))).2)) + (rSeenF s25c.2.1 s22c.2.2.1 s22c.2.2.2 s25c.2.2.1 s25c.2.2.2.2 (i64.wrap ((i64.wrap ((i64.wrap (256 * (i64.wrap (bAnd .u8 which 1)))) + (i64.wrap right))) + xd.1)) (i64.wrap ((i64.wrap ((i64.wrap (240 * (i64.wrap (bAnd .u8 (bShr .u8 which 1) 1)))) + (i64.wrap (Int.tmod down 240)))) + (i64.wrap (Int.tmod line 240))))).1)))))) = false):Runs Try.prog 108 (bodyOf Try.f10 [1,1,1,1,1,1,1,1,1,1,1,1,1,0,1,0,0]) (lawScrolls_L1_T which right down line s22c s25c xd) (lawScrolls_L1_H which right down line s22c s25c xd) 1015 .normal (lawScrolls_L1_T which right down line s22c s25c ((i64.wrap (xd.1 + 1)),xd.2)) (lawScrolls_L1_H which right down line s22c s25c ((i64.wrap (xd.1 + 1)),xd.2)) 1015:=by
 exact runs_of_x hG hM 400 [.yes,.sym,.callr [(1009,1000),(1006,1001),(1007,1002),(1008,1003),(1013,1004)] [1006,1007,1008,1009,1013] [] 1005 (.tuple ⟨[.int .i64 ((OVk0 s25c s22c which right xd down line).1),.int .i64 ((OVk0 s25c s22c which right xd down line).2)]⟩) [],.yes,.callr [(1009,1000),(1006,1001),(1007,1002),(1008,1003),(1013,1004)] [1006,1007,1008,1009,1013] [] 1005 (.int .i64 (rPeek s25c.2.1 s22c.2.2.1 s22c.2.2.2 s25c.2.2.1 s25c.2.2.2.2 (i64.wrap (16128 + (i64.wrap ((i64.wrap (4 * (OVk0 s25c s22c which right xd down line).2)) + (OVk0 s25c s22c which right xd down line).1)))))) [],.no] (J d1 (J w27d (J (lt_nat w27d) (J (by decide:(0:Int) ≤ 1) (J (rSeenF_ok s25c.2.1 s22c.2.2.1 s22c.2.2.2 s25c.2.2.1 s25c.2.2.2.2 (i64.wrap ((i64.wrap ((i64.wrap (256 * (i64.wrap (bAnd .u8 which 1)))) + (i64.wrap right))) + xd.1)) (OVk1 which down line) w28d w29d w30d) (J d2 (J (rPeek_ok s25c.2.1 s22c.2.2.1 s22c.2.2.2 s25c.2.2.1 s25c.2.2.2.2 (i64.wrap (16128 + (i64.wrap ((i64.wrap (4 * (OVk0 s25c s22c which right xd down line).2)) + (OVk0 s25c s22c which right xd down line).1)))) w31d) (J d3 trivial)))))))) (by kernel_rfl)
theorem lawScrolls_L1_p2 (which:Int) (right:Int) (down:Int) (line:Int) (s22c:Pic × RPic × (Nat → Int) × (Nat → Int)) (s25c:St) (xd:Int × Bool) (d1:(decide (xd.1 < 256)) = true) (w27d:0 ≤ xd.1 ∧ xd.1 < ((256:Nat):Int)) (w28d:∀ j,rng 256 (s22c.2.2.1 j)) (w29d:0 ≤ (i64.wrap ((i64.wrap ((i64.wrap (256 * (i64.wrap (bAnd .u8 which 1)))) + (i64.wrap right))) + xd.1)) ∧ (i64.wrap ((i64.wrap ((i64.wrap (256 * (i64.wrap (bAnd .u8 which 1)))) + (i64.wrap right))) + xd.1)) < 100000) (w30d:0 ≤ (i64.wrap ((i64.wrap ((i64.wrap (240 * (i64.wrap (bAnd .u8 (bShr .u8 which 1) 1)))) + (i64.wrap (Int.tmod down 240)))) + (i64.wrap (Int.tmod line 240)))) ∧ (i64.wrap ((i64.wrap ((i64.wrap (240 * (i64.wrap (bAnd .u8 (bShr .u8 which 1) 1)))) + (i64.wrap (Int.tmod down 240)))) + (i64.wrap (Int.tmod line 240)))) < 100000) (d2:(decide (((rSeenF s25c.2.1 s22c.2.2.1 s22c.2.2.2 s25c.2.2.1 s25c.2.2.2.2 (i64.wrap ((i64.wrap ((i64.wrap (256 * (i64.wrap (bAnd .u8 which 1)))) + (i64.wrap right))) + xd.1)) (i64.wrap ((i64.wrap ((i64.wrap (240 * (i64.wrap (bAnd .u8 (bShr .u8 which 1) 1)))) + (i64.wrap (Int.tmod down 240)))) + (i64.wrap (Int.tmod line 240))))).1:Int) > 0)) = false) (d3:((i64.wrap ((fun j => s25c.1.screen (Int.toNat (i64.wrap (Int.tmod line 240)) * 256 + j)) (Int.toNat xd.1))) != (rPeek s25c.2.1 s22c.2.2.1 s22c.2.2.2 s25c.2.2.1 s25c.2.2.2.2 16128)) = false):Runs Try.prog 108 (bodyOf Try.f10 [1,1,1,1,1,1,1,1,1,1,1,1,1,0,1,0,0]) (lawScrolls_L1_T which right down line s22c s25c xd) (lawScrolls_L1_H which right down line s22c s25c xd) 1015 .normal (lawScrolls_L1_T which right down line s22c s25c ((i64.wrap (xd.1 + 1)),xd.2)) (lawScrolls_L1_H which right down line s22c s25c ((i64.wrap (xd.1 + 1)),xd.2)) 1015:=by
 exact runs_of_x hG hM 400 [.yes,.sym,.callr [(1009,1000),(1006,1001),(1007,1002),(1008,1003),(1013,1004)] [1006,1007,1008,1009,1013] [] 1005 (.tuple ⟨[.int .i64 ((OVk0 s25c s22c which right xd down line).1),.int .i64 ((OVk0 s25c s22c which right xd down line).2)]⟩) [],.no,.callr [(1009,1000),(1006,1001),(1007,1002),(1008,1003),(1013,1004)] [1006,1007,1008,1009,1013] [] 1005 (.int .i64 (rPeek s25c.2.1 s22c.2.2.1 s22c.2.2.2 s25c.2.2.1 s25c.2.2.2.2 16128)) [],.no] (J d1 (J w27d (J (lt_nat w27d) (J (by decide:(0:Int) ≤ 1) (J (rSeenF_ok s25c.2.1 s22c.2.2.1 s22c.2.2.2 s25c.2.2.1 s25c.2.2.2.2 (i64.wrap ((i64.wrap ((i64.wrap (256 * (i64.wrap (bAnd .u8 which 1)))) + (i64.wrap right))) + xd.1)) (OVk1 which down line) w28d w29d w30d) (J d2 (J (rPeek_ok s25c.2.1 s22c.2.2.1 s22c.2.2.2 s25c.2.2.1 s25c.2.2.2.2 16128 (by decide:(0:Int) ≤ 16128)) (J d3 trivial)))))))) (by kernel_rfl)
theorem lawScrolls_L1_p3 (which:Int) (right:Int) (down:Int) (line:Int) (s22c:Pic × RPic × (Nat → Int) × (Nat → Int)) (s25c:St) (xd:Int × Bool) (d1:(decide (xd.1 < 256)) = false):Runs Try.prog 108 (bodyOf Try.f10 [1,1,1,1,1,1,1,1,1,1,1,1,1,0,1,0,0]) (lawScrolls_L1_T which right down line s22c s25c xd) (lawScrolls_L1_H which right down line s22c s25c xd) 1015 (.exit 0) (lawScrolls_L1_T1 which right down line s22c s25c (xd.1,xd.2)) (lawScrolls_L1_H1 which right down line s22c s25c (xd.1,xd.2)) 1015:=by
 exact runs_of_x hG hM 400 [.no] (J d1 trivial) (by kernel_rfl)
theorem lawScrolls_L1_runs (which:Int) (right:Int) (down:Int) (line:Int) (s22c:Pic × RPic × (Nat → Int) × (Nat → Int)) (s25c:St) (x_:Int × Bool) (y_:Int × Bool) (h_:LoopR (lawScrolls_L1 which right down line s22c s25c) x_ y_):Runs Try.prog 108 (.block 0 (.loop (bodyOf Try.f10 [1,1,1,1,1,1,1,1,1,1,1,1,1,0,1,0,0]))) (lawScrolls_L1_T which right down line s22c s25c x_) (lawScrolls_L1_H which right down line s22c s25c x_) 1015 (outOf 0 (lawScrolls_L1_ex y_)) (lawScrolls_L1_T1 which right down line s22c s25c y_) (lawScrolls_L1_H1 which right down line s22c s25c y_) 1015:=by
 refine block_loop (lawScrolls_L1 which right down line s22c s25c) (lawScrolls_L1_T which right down line s22c s25c) (lawScrolls_L1_H which right down line s22c s25c) lawScrolls_L1_ex (lawScrolls_L1_T1 which right down line s22c s25c) (lawScrolls_L1_H1 which right down line s22c s25c) ?_ ?_ ?_ x_ y_ h_
 ·intro r hr;cases hr
 ·intro xd y_ hx
  cases hx with
  | p1 d1 w27d w28d w29d w30d d2 w31d d3 => exact lawScrolls_L1_p1 which right down line s22c s25c xd d1 w27d w28d w29d w30d d2 w31d d3
  | p2 d1 w27d w28d w29d w30d d2 d3 => exact lawScrolls_L1_p2 which right down line s22c s25c xd d1 w27d w28d w29d w30d d2 d3
 ·intro xd y_ hx
  cases hx with
  | p3 d1 => exact lawScrolls_L1_p3 which right down line s22c s25c xd d1
theorem lawScrolls_p1 (nTz:Nat) (dTz:Nat) (sTz:Nat → Int) (nNz:Nat) (dNz:Nat) (sNz:Nat → Int) (nKz:Nat) (dKz:Nat) (sKz:Nat → Int) (nMz:Nat) (dMz:Nat) (sMz:Nat → Int) (sUz:Bool) (which:Int) (right:Int) (down:Int) (line:Int) (w1c:∀ j,rng 256 (sTz j)) (w2c:∀ j,rng 256 (sNz j)) (w3c:∀ j,rng 256 (sKz j)) (w4c:∀ j,rng 256 (sMz j)) (w5c:Both picZero ([]:List Sprite) rZero (fun _ => 0) (fun _ => 0) (fun _ => 0) ([]:List Man)) (s6c:Ly) (es6c:s6c = layF picZero rZero (fun _ => 0) (fun _ => 0) (fun _ => 0) nTz dTz sTz nNz dNz sNz nKz dKz sKz nMz dMz sMz sUz ([]:List Sprite) ([]:List Man)) (w7c:Pic.ok s6c.1) (w8c:0 ≤ s6c.2.1.At ∧ s6c.2.1.At < ((256:Nat):Int)) (w9c:0 ≤ rBits s6c.2.1.S.V) (s10c:Pic × RPic × (Nat → Int) × (Nat → Int)) (es10c:s10c = both s6c.1 s6c.2.1 s6c.2.2.1 s6c.2.2.2 (fun _ => 0) 0 (bAnd .u8 which 3) ([]:List Sprite) ([]:List Man)) (w11c:Pic.ok s10c.1) (w12c:0 ≤ s10c.2.1.At ∧ s10c.2.1.At < ((256:Nat):Int)) (w13c:0 ≤ rBits s10c.2.1.S.V) (s14c:Pic × RPic × (Nat → Int) × (Nat → Int)) (es14c:s14c = both s10c.1 s10c.2.1 s10c.2.2.1 s10c.2.2.2 (fun _ => 0) 1 10 ([]:List Sprite) ([]:List Man)) (w15c:Pic.ok s14c.1) (w16c:0 ≤ s14c.2.1.At ∧ s14c.2.1.At < ((256:Nat):Int)) (w17c:0 ≤ rBits s14c.2.1.S.V) (s18c:Pic × RPic × (Nat → Int) × (Nat → Int)) (es18c:s18c = both s14c.1 s14c.2.1 s14c.2.2.1 s14c.2.2.2 (fun _ => 0) 5 right ([]:List Sprite) ([]:List Man)) (w19c:Pic.ok s18c.1) (w20c:0 ≤ s18c.2.1.At ∧ s18c.2.1.At < ((256:Nat):Int)) (w21c:0 ≤ rBits s18c.2.1.S.V) (s22c:Pic × RPic × (Nat → Int) × (Nat → Int)) (es22c:s22c = both s18c.1 s18c.2.1 s18c.2.2.1 s18c.2.2.2 (fun _ => 0) 5 (Int.tmod down 240) ([]:List Sprite) ([]:List Man)) (w23c:Both s22c.1 ([]:List Sprite) s22c.2.1 s22c.2.2.1 s22c.2.2.2 (fun _ => 0) ([]:List Man)) (w24c:0 ≤ (i64.wrap (89342 + (i64.wrap (341 * (i64.wrap ((i64.wrap (Int.tmod line 240)) + 1)))))) ∧ (i64.wrap (89342 + (i64.wrap (341 * (i64.wrap ((i64.wrap (Int.tmod line 240)) + 1)))))) < 1000000000) (s25c:St) (es25c:s25c = stepF s22c.1 s22c.2.1 s22c.2.2.1 s22c.2.2.2 (fun _ => 0) (i64.wrap (89342 + (i64.wrap (341 * (i64.wrap ((i64.wrap (Int.tmod line 240)) + 1)))))) ([]:List Sprite) ([]:List Man)) (w26c:0 ≤ (i64.wrap (Int.tmod line 240)) ∧ (i64.wrap (Int.tmod line 240)) < 240) (r1:Int × Bool) (l1:LoopR (lawScrolls_L1 which right down line s22c s25c) (0,false) r1):FnSpec Try.prog 10 1004 [.agg ⟨[sd 1000 dTz nTz,sd 1001 dNz nNz,sd 1002 dKz nKz,sd 1003 dMz nMz,.bool sUz]⟩,.int .u8 which,.int .u8 right,.int .u8 down,.int .u8 line] [(1000,gB dTz nTz sTz),(1001,gB dNz nNz sNz),(1002,gB dKz nKz sKz),(1003,gB dMz nMz sMz)] (.bool true) []:=by
 exact fn_of_x hG hM Try.func10 (by kernel_rfl) (by kernel_rfl) 400 [.call [] [] 1000 (.bool true) [],.no,.call [] [(1000,1005)] 1000 (pt 1000) [(1000,(Pic.bl picZero (.slice none 0 0) false))],.call [] [(1000,1006),(1001,1007),(1002,1008),(1003,1009)] 1000 (pt 1003) [(1000,iB 16384 (fun _ => 0) false),(1001,iB 256 (fun _ => 0) false),(1002,iB 61440 (fun _ => 0) false),(1003,RPic.bl rZero (sl 1000 16384 1) (sl 1001 256 1) (.slice none 0 0) (sl 1002 61440 1) false)],.call [(1005,1000),(1009,1001),(1006,1002),(1007,1003),(1008,1004),(1000,1005),(1001,1006),(1002,1007),(1003,1008)] [(1009,1010),(1010,1011)] 1009 (.tuple ⟨[]⟩) [(1000,(Pic.bl s6c.1 (sl 1009 (List.length ([]:List Sprite)) 5) false)),(1001,(RPic.bl s6c.2.1 (sl 1002 16384 1) (sl 1003 256 1) (sl 1010 (List.length ([]:List Man)) 4) (sl 1004 61440 1) false)),(1002,⟨[.ints .u8 16384 s6c.2.2.1],5,false⟩),(1003,⟨[.ints .u8 256 s6c.2.2.2],5,false⟩),(1004,iB 61440 (fun _ => 0) false),(1009,sB ([]:List Sprite) false),(1010,mB ([]:List Man) false)],.call [(1005,1000),(1009,1001),(1006,1002),(1007,1003),(1008,1004),(1010,1005),(1011,1006)] [] 1007 (.tuple ⟨[]⟩) [(1000,(Pic.bl s10c.1 (sl 1005 (List.length ([]:List Sprite)) 5) false)),(1001,(RPic.bl s10c.2.1 (sl 1002 16384 1) (sl 1003 256 1) (sl 1006 (List.length ([]:List Man)) 4) (sl 1004 61440 1) false)),(1002,⟨[.ints .u8 16384 s10c.2.2.1],5,false⟩),(1003,⟨[.ints .u8 256 s10c.2.2.2],5,false⟩),(1004,iB 61440 (fun _ => 0) false),(1005,sB ([]:List Sprite) false),(1006,mB ([]:List Man) false)],.call [(1005,1000),(1009,1001),(1006,1002),(1007,1003),(1008,1004),(1010,1005),(1011,1006)] [] 1007 (.tuple ⟨[]⟩) [(1000,(Pic.bl s14c.1 (sl 1005 (List.length ([]:List Sprite)) 5) false)),(1001,(RPic.bl s14c.2.1 (sl 1002 16384 1) (sl 1003 256 1) (sl 1006 (List.length ([]:List Man)) 4) (sl 1004 61440 1) false)),(1002,⟨[.ints .u8 16384 s14c.2.2.1],5,false⟩),(1003,⟨[.ints .u8 256 s14c.2.2.2],5,false⟩),(1004,iB 61440 (fun _ => 0) false),(1005,sB ([]:List Sprite) false),(1006,mB ([]:List Man) false)],.call [(1005,1000),(1009,1001),(1006,1002),(1007,1003),(1008,1004),(1010,1005),(1011,1006)] [] 1007 (.tuple ⟨[]⟩) [(1000,(Pic.bl s18c.1 (sl 1005 (List.length ([]:List Sprite)) 5) false)),(1001,(RPic.bl s18c.2.1 (sl 1002 16384 1) (sl 1003 256 1) (sl 1006 (List.length ([]:List Man)) 4) (sl 1004 61440 1) false)),(1002,⟨[.ints .u8 16384 s18c.2.2.1],5,false⟩),(1003,⟨[.ints .u8 256 s18c.2.2.2],5,false⟩),(1004,iB 61440 (fun _ => 0) false),(1005,sB ([]:List Sprite) false),(1006,mB ([]:List Man) false)],.call [(1005,1000),(1009,1001),(1006,1002),(1007,1003),(1008,1004),(1010,1005),(1011,1006)] [] 1007 (.tuple ⟨[]⟩) [(1000,(Pic.bl s22c.1 (sl 1005 (List.length ([]:List Sprite)) 5) false)),(1001,(RPic.bl s22c.2.1 (sl 1002 16384 1) (sl 1003 256 1) (sl 1006 (List.length ([]:List Man)) 4) (sl 1004 61440 1) false)),(1002,⟨[.ints .u8 16384 s22c.2.2.1],5,false⟩),(1003,⟨[.ints .u8 256 s22c.2.2.2],5,false⟩),(1004,iB 61440 (fun _ => 0) false),(1005,sB ([]:List Sprite) false),(1006,mB ([]:List Man) false)],.call [(1005,1000),(1009,1001),(1006,1002),(1007,1003),(1008,1004),(1010,1005),(1011,1006)] [(1007,1012),(1008,1013)] 1007 (.bool true) [(1000,(Pic.bl s25c.1 (sl 1007 (List.length s25c.2.2.2.1) 5) false)),(1001,(RPic.bl s25c.2.1 (sl 1002 16384 1) (sl 1003 256 1) (sl 1008 (List.length s25c.2.2.2.2) 4) (sl 1004 61440 1) false)),(1002,⟨[.ints .u8 16384 s22c.2.2.1],5,false⟩),(1003,⟨[.ints .u8 256 s22c.2.2.2],5,false⟩),(1004,⟨[.ints .u8 61440 s25c.2.2.1],5,false⟩),(1007,⟨[rowsL Sprite.cells Sprite.nil 5 s25c.2.2.2.1],92,false⟩),(1008,⟨[rowsL Man.cells Man.nil 4 s25c.2.2.2.2],119,false⟩)],.no,.callr [(1005,1000),(1012,1001)] [1005,1012] [(1002,1014)] 1002 (sl 1002 256 1) [(1002,⟨[.ints .u8 256 (fun j => s25c.1.screen (Int.toNat (i64.wrap (Int.tmod line 240)) * 256 + j))],5,false⟩)],.no,.segk 1 0 [1,2,3,10,12,13,63,64,65] [1006,1007,1008,1009,1013,1014] .normal (lawScrolls_L1_T1 which right down line s22c s25c r1) (lawScrolls_L1_H1 which right down line s22c s25c r1) 1015] (J awake_ok (J T0 (J (by decide:((240:Int) ≠ 0)) (J new_ok (J rnew_ok (J (fn_nil hG (layF_let picZero rZero (fun _ => 0) (fun _ => 0) (fun _ => 0) nTz dTz sTz nNz dNz sNz nKz dKz sKz nMz dMz sMz sUz ([]:List Sprite) ([]:List Man) w1c w2c w3c w4c w5c s6c es6c) [(1000,1000),(1001,1001),(1002,1002),(1003,1003),(1004,1004),(1005,1005),(1006,1006),(1007,1007),(1008,1008)] 1009 [pt 1000,pt 1001,.agg ⟨[sd 1005 dTz nTz,sd 1006 dNz nNz,sd 1007 dKz nKz,sd 1008 dMz nMz,.bool sUz]⟩] [(1000,(Pic.bl picZero (.slice none 0 0) false)),(1001,(RPic.bl rZero (sl 1002 16384 1) (sl 1003 256 1) (.slice none 0 0) (sl 1004 61440 1) false)),(1002,iB 16384 (fun _ => 0) false),(1003,iB 256 (fun _ => 0) false),(1004,iB 61440 (fun _ => 0) false),(1005,gB dTz nTz sTz),(1006,gB dNz nNz sNz),(1007,gB dKz nKz sKz),(1008,gB dMz nMz sMz)] (by kernel_rfl)) (J (both_let s6c.1 s6c.2.1 s6c.2.2.1 s6c.2.2.2 (fun _ => 0) 0 (bAnd .u8 which 3) ([]:List Sprite) ([]:List Man) w7c w8c w9c s10c es10c) (J (both_let s10c.1 s10c.2.1 s10c.2.2.1 s10c.2.2.2 (fun _ => 0) 1 10 ([]:List Sprite) ([]:List Man) w11c w12c w13c s14c es14c) (J (both_let s14c.1 s14c.2.1 s14c.2.2.1 s14c.2.2.2 (fun _ => 0) 5 right ([]:List Sprite) ([]:List Man) w15c w16c w17c s18c es18c) (J (both_let s18c.1 s18c.2.1 s18c.2.2.1 s18c.2.2.2 (fun _ => 0) 5 (Int.tmod down 240) ([]:List Sprite) ([]:List Man) w19c w20c w21c s22c es22c) (J (by decide:((240:Int) ≠ 0)) (J (stepF_let s22c.1 s22c.2.1 s22c.2.2.1 s22c.2.2.2 (fun _ => 0) (i64.wrap (89342 + (i64.wrap (341 * (i64.wrap ((i64.wrap (Int.tmod line 240)) + 1)))))) ([]:List Sprite) ([]:List Man) w23c w24c s25c es25c) (J T0 (J (row_in s25c.1 s25c.2.2.2.1 (i64.wrap (Int.tmod line 240)) w26c.1 w26c.2) (J T0 (J (lawScrolls_L1_runs which right down line s22c s25c (0,false) r1 l1) trivial)))))))))))))))) (by kernel_rfl)
end Go.Proofs.Ytgnhhnmpeklciaa
namespace Go.Proofs.Ytgnhhnmpeklciaa
open Go VX
open Go.IntKind (i64 u8 u16)
structure Stat (r0 r:RPic):Prop where
 mask:r.Mask = 10
 ctl:r.Control = r0.Control
 up:r.Upright = r0.Upright
 T:r.S.T = r0.S.T
 X:r.S.X = r0.S.X
theorem bitm16:rBit 10 16 = false:=by decide
theorem bitm8:rBit 10 8 = true:=by decide
theorem bitm2:rBit 10 2 = true:=by decide
theorem bitm1:rBit 10 1 = false:=by decide
theorem peek_cong {r r':RPic} (h:r.Upright = r'.Upright) (M N S N' S':Nat → Int) (C C':List Man) (a:Int):rPeek r M N S C a = rPeek r' M N' S' C' a:=by
 unfold rPeek rWhere;rw [h]
theorem tile_cong {r r':RPic} (h:r.Upright = r'.Upright) (hc:r.Control = r'.Control) (M N S N' S':Nat → Int) (C C':List Man) (v:Place) (x:Int):rTileF r M N S C v x = rTileF r' M N' S' C' v x:=by
 unfold rTileF;simp only [peek_cong h M N S N' S' C C',hc]
def atW (t:Int × Int):Int:=if 0 < t.1 then 4 * t.2 + t.1 else 0
def dotW (r0:RPic) (M:Nat → Int) (v:Place) (x:Int):Int:=rPeek r0 M (fun _ => 0) (fun _ => 0) [] (16128 + atW (rTileF r0 M (fun _ => 0) (fun _ => 0) [] v x))
theorem draw_W {r0 r:RPic} (h:Stat r0 r) (M N S:Nat → Int) (C:List Man) (x:Int):(rDrawF r M N S C x).2 = upd S (256 * r.Line + x).toNat (dotW r0 M r.S.V (x % 8 + r0.S.X)):=by
 have e1:tileR r M N S C x = rTileF r M N S C r.S.V (x % 8 + r.S.X):=by unfold tileR;rw [h.mask,if_pos ⟨bitm8,.inr bitm2⟩]
 have e2:manR r C x = (0,noR):=by unfold manR;rw [h.mask,if_neg (by intro k;rw [bitm16] at k;exact absurd k.1 (by decide))]
 have e3:∀ t:Int × Int,atR t (0,noR) = atW t:=fun t => by
  unfold atR atW;rw [if_neg (fun k => absurd k.1 (Int.lt_irrefl 0))]
 have e4:∀ c,greyR r.Mask c = c:=fun c => by unfold greyR;rw [h.mask,bitm1];rfl
 unfold rDrawF
 simp only [e1,e2,e3,e4]
 unfold dotW
 rw [h.X,tile_cong h.up h.ctl M N S (fun _ => 0) (fun _ => 0) C [],peek_cong h.up M N S (fun _ => 0) (fun _ => 0) C []]
theorem kkS_cong {r r':RPic} (h1:r.Dot = r'.Dot) (h2:r.Line = r'.Line) (s:RScroll):kkS r s = kkS r' s:=by unfold kkS;rw [h1,h2]
theorem kkS_keep (r:RPic) (s:RScroll):(kkS r s).T = s.T ∧ (kkS r s).X = s.X:=by
 unfold kkS rRight rDown rLine rTop;repeat' split
 all_goals exact ⟨rfl,rfl⟩
theorem kkM_S (q:RPic) (h:q.Mask = 10):(kkM q).S = if q.Line < 240 ∨ q.Line = 261 then kkS q q.S else q.S:=by
 have sh:shownR q:=by unfold shownR;rw [h];decide
 unfold kkM
 by_cases c:q.Line < 240 ∨ q.Line = 261
 ·rw [if_pos ⟨sh,c⟩,if_pos c]
 ·rw [if_neg (fun k => c k.2),if_neg c]
theorem one_mid {M N:Nat → Int} {z:St} {r0:RPic} (h:Stat r0 z.2.1):∃ b hh m d s,(oneS M N z).2.1 = kkN ({ z.2.1 with Blank:=b,Hit:=hh,Many:=m,Done:=d,S:=s }:RPic) ∧
  (s = if z.2.1.Line < 240 ∨ z.2.1.Line = 261 then kkS z.2.1 z.2.1.S else z.2.1.S) ∧
  (oneS M N z).2.2.1 = (if z.2.1.Line < 240 ∧ 0 < z.2.1.Dot ∧ z.2.1.Dot < 257 then upd z.2.2.1 (256 * z.2.1.Line + (z.2.1.Dot - 1)).toNat (dotW r0 M z.2.1.S.V ((z.2.1.Dot - 1) % 8 + r0.S.X)) else z.2.2.1):=by
 obtain ⟨p,r,S,L,C⟩:=z
 obtain ⟨b,hh,m,d,e0⟩:=kkBE r
 obtain ⟨h1,e1⟩:∃ x,(kkD M N C (kkE (kkB r)) S).1 = { kkE (kkB r) with Hit:=x }:=⟨_,kkD_eq M N C (kkE (kkB r)) S⟩
 have m1:(kkD M N C (kkE (kkB r)) S).1.Mask = 10:=by rw [e1,e0];exact h.mask
 have l1:(kkD M N C (kkE (kkB r)) S).1.Line = r.Line:=by rw [e1,e0]
 have d1:(kkD M N C (kkE (kkB r)) S).1.Dot = r.Dot:=by rw [e1,e0]
 have s1:(kkD M N C (kkE (kkB r)) S).1.S = r.S:=by rw [e1,e0]
 obtain ⟨s2,e2,hs⟩:∃ s,kkM (kkD M N C (kkE (kkB r)) S).1 = { (kkD M N C (kkE (kkB r)) S).1 with S:=s } ∧ s = if r.Line < 240 ∨ r.Line = 261 then kkS r r.S else r.S:=by
  refine ⟨_,kkM_eq _,?_⟩
  rw [kkM_S _ m1,l1,s1,kkS_cong d1 l1]
 obtain ⟨m3,e3⟩:∃ x,(kkC M N (kkD M N C (kkE (kkB r)) S).2 C (kkM (kkD M N C (kkE (kkB r)) S).1)).1 = { kkM (kkD M N C (kkE (kkB r)) S).1 with Many:=x }:=⟨_,kkC_eq _ _ _ _ _⟩
 refine ⟨b,h1,m3,d,s2,?_,hs,?_⟩
 ·show kkN (kkC M N (kkD M N C (kkE (kkB r)) S).2 C (kkM (kkD M N C (kkE (kkB r)) S).1)).1 = _
  rw [e3,e2,e1,e0]
 ·show (kkD M N C (kkE (kkB r)) S).2 = _
  have hq:Stat r0 (kkE (kkB r)):=by rw [e0];exact ⟨h.mask,h.ctl,h.up,h.T,h.X⟩
  have lq:(kkE (kkB r)).Line = r.Line:=by rw [e0]
  have dq:(kkE (kkB r)).Dot = r.Dot:=by rw [e0]
  have sq:(kkE (kkB r)).S = r.S:=by rw [e0]
  unfold kkD
  rw [lq,dq]
  show _ = if r.Line < 240 ∧ 0 < r.Dot ∧ r.Dot < 257 then upd S (256 * r.Line + (r.Dot - 1)).toNat (dotW r0 M r.S.V ((r.Dot - 1) % 8 + r0.S.X)) else S
  by_cases c:r.Line < 240 ∧ 0 < r.Dot ∧ r.Dot < 257
  ·rw [if_pos c,if_pos c,draw_W hq,lq,sq]
  ·rw [if_neg c,if_neg c]
structure Step1 (r0:RPic) (M:Nat → Int) (z z':St):Prop where
 stat:Stat r0 z'.2.1
 V:z'.2.1.S.V = if z.2.1.Line < 240 ∨ z.2.1.Line = 261 then (kkS z.2.1 z.2.1.S).V else z.2.1.S.V
 S:z'.2.2.1 = if z.2.1.Line < 240 ∧ 0 < z.2.1.Dot ∧ z.2.1.Dot < 257 then upd z.2.2.1 (256 * z.2.1.Line + (z.2.1.Dot - 1)).toNat (dotW r0 M z.2.1.S.V ((z.2.1.Dot - 1) % 8 + r0.S.X)) else z.2.2.1
theorem one_ref {M N:Nat → Int} {z:St} {r0:RPic} (h:Stat r0 z.2.1):Step1 r0 M z (oneS M N z):=by
 obtain ⟨b,hh,m,d,s,e,hs,eS⟩:=one_mid (M:=M) (N:=N) h
 have ks:s.T = z.2.1.S.T ∧ s.X = z.2.1.S.X:=by
  rw [hs];split
  ·exact kkS_keep _ _
  ·exact ⟨rfl,rfl⟩
 have kn:∀ q:RPic,(kkN q).Mask = q.Mask ∧ (kkN q).Control = q.Control ∧ (kkN q).Upright = q.Upright ∧ (kkN q).S = q.S:=fun q => by
  unfold kkN;repeat' split
  all_goals exact ⟨rfl,rfl,rfl,rfl⟩
 obtain ⟨k1,k2,k3,k4⟩:=kn ({ z.2.1 with Blank:=b,Hit:=hh,Many:=m,Done:=d,S:=s }:RPic)
 refine ⟨⟨by rw [e,k1];exact h.mask,by rw [e,k2];exact h.ctl,by rw [e,k3];exact h.up,by rw [e,k4];exact ks.1.trans h.T,by rw [e,k4];exact ks.2.trans h.X⟩,?_,eS⟩
 rw [e,k4]
 show s.V = _
 rw [hs];split <;> rfl
theorem one_in {M N:Nat → Int} {z:St} {r0:RPic} (h:Stat r0 z.2.1) (hd:z.2.1.Dot < 340) (hx:z.2.1.Line ≠ 261 ∨ Int.tmod z.2.1.Begun 2 ≠ 0):(oneS M N z).2.1.Line = z.2.1.Line ∧ (oneS M N z).2.1.Dot = z.2.1.Dot + 1 ∧ (oneS M N z).2.1.Begun = z.2.1.Begun:=by
 obtain ⟨b,hh,m,d,s,e,_,_⟩:=one_mid (M:=M) (N:=N) h
 rw [e]
 unfold kkN lastR
 rw [if_neg (show ¬ (z.2.1.Line = 261 ∧ Int.tmod z.2.1.Begun 2 = 0 ∧ _ ∧ _) from fun k => hx.elim (fun q => q k.1) (fun q => q k.2.1))]
 rw [if_pos (show z.2.1.Dot + 1 ≤ 340 by omega)]
 exact ⟨rfl,rfl,rfl⟩
theorem one_out {M N:Nat → Int} {z:St} {r0:RPic} (h:Stat r0 z.2.1) (hd:z.2.1.Dot = 340):(oneS M N z).2.1.Dot = 0 ∧ (z.2.1.Line ≠ 261 → (oneS M N z).2.1.Line = z.2.1.Line + 1 ∧ (oneS M N z).2.1.Begun = z.2.1.Begun) ∧ (z.2.1.Line = 261 → (oneS M N z).2.1.Line = 0 ∧ (oneS M N z).2.1.Begun = i64.wrap (z.2.1.Begun + 1)):=by
 obtain ⟨b,hh,m,d,s,e,_,_⟩:=one_mid (M:=M) (N:=N) h
 rw [e]
 unfold kkN lastR
 rw [if_neg (show ¬ (z.2.1.Line = 261 ∧ Int.tmod z.2.1.Begun 2 = 0 ∧ _ ∧ z.2.1.Dot = 339) from fun k => by have:=k.2.2.2;omega)]
 rw [if_neg (show ¬ z.2.1.Dot + 1 ≤ 340 by omega)]
 by_cases c:z.2.1.Line = 261
 ·rw [if_pos (show z.2.1.Line + 1 = 262 by omega)]
  exact ⟨rfl,fun k => absurd c k,fun _ => ⟨rfl,rfl⟩⟩
 ·rw [if_neg (show ¬ z.2.1.Line + 1 = 262 by omega)]
  exact ⟨rfl,fun _ => ⟨rfl,rfl⟩,fun k => absurd k c⟩
theorem runS_add {M N:Nat → Int}:∀ (a b:Nat) (z:St),runS M N (a + b) z = runS M N b (runS M N a z)
 | 0,b,z => by rw [Nat.zero_add];rfl
 | a + 1,b,z => by rw [show a + 1 + b = (a + b) + 1 by omega];exact runS_add a b (oneS M N z)
theorem runS_succ {M N:Nat → Int} (n:Nat) (z:St):runS M N (n + 1) z = oneS M N (runS M N n z):=runS_add n 1 z
end Go.Proofs.Ytgnhhnmpeklciaa
namespace Go.Proofs.Ytgnhhnmpeklciaa
open Go VX
theorem world_congr {x x' y:Int} (h:x / 8 = x' / 8):worldPl x y = worldPl x' y:=by
 unfold worldPl
 have h2:x / 256 = x' / 256:=by omega
 rw [h,h2]
theorem world_right {x y:Int} (hx:0 ≤ x) (s:RScroll) (h:s.V = worldPl x y):(rRight s).V = worldPl (x + 8) y:=by
 unfold rRight
 rw [h]
 unfold worldPl
 simp only
 rw [w64 (x:=x / 8 % 32 + 1) (by omega) (by omega),w64 (x:=1 - x / 256 % 2) (by omega) (by omega)]
 by_cases c:x / 8 % 32 + 1 = 32
 ·rw [if_pos (by rw [c];rfl)]
  simp only [Place.mk.injEq,and_true,true_and]
  omega
 ·rw [if_neg (by simpa using c)]
  simp only [Place.mk.injEq,and_true,true_and]
  omega
theorem world_down {x y:Int} (hy:0 ≤ y) (s:RScroll) (h:s.V = worldPl x y):(rDown s).V = worldPl x (y + 1):=by
 unfold rDown
 rw [h]
 unfold worldPl
 simp only
 rw [w64 (x:=y % 240 % 8 + 1) (by omega) (by omega),w64 (x:=y % 240 / 8 + 1) (by omega) (by omega),w64 (x:=1 - y / 240 % 2) (by omega) (by omega)]
 by_cases c:y % 240 % 8 + 1 < 8
 ·rw [if_pos (decide_eq_true c)]
  simp only [Place.mk.injEq,and_true,true_and]
  omega
 ·rw [if_neg (by simpa using c)]
  by_cases c2:y % 240 / 8 + 1 = 30
  ·rw [if_pos (by rw [c2];rfl)]
   simp only [Place.mk.injEq,and_true,true_and]
   omega
  ·rw [if_neg (by simpa using c2),if_neg (by simp;omega)]
   simp only [Place.mk.injEq,and_true,true_and]
   omega
theorem world_tile {x d y:Int} (hx:0 ≤ x) (hd:0 ≤ d):tilePl (worldPl (x + 8 * (d / 8)) y) (d % 8 + x % 8) = tilePl (worldPl (x + d) y) ((x + d) % 8):=by
 rw [show tilePl (worldPl (x + d) y) ((x + d) % 8) = ((x + d) % 8,worldPl (x + d) y) from by unfold tilePl;rw [if_neg (by omega)]]
 unfold tilePl
 by_cases c:d % 8 + x % 8 > 7
 ·rw [if_pos c,world_right (x:=x + 8 * (d / 8)) (y:=y) (by omega) _ rfl,world_congr (x:=x + 8 * (d / 8) + 8) (x':=x + d) (by omega)]
  exact congrArg (·,_) (by omega)
 ·rw [if_neg c,world_congr (x:=x + 8 * (d / 8)) (x':=x + d) (by omega)]
  exact congrArg (·,_) (by omega)
theorem dot_seen (r0:RPic) (M:Nat → Int) {x d y:Int} (hx:0 ≤ x) (hd:0 ≤ d):dotW r0 M (worldPl (x + 8 * (d / 8)) y) (d % 8 + x % 8) = rPeek r0 M (fun _ => 0) (fun _ => 0) [] (16128 + atW (rSeenF r0 M (fun _ => 0) (fun _ => 0) [] (x + d) y)):=by
 unfold dotW rSeenF rTileF
 rw [world_tile hx hd]
section
variable {M N:Nat → Int} {r0:RPic}
theorem first_pic {z:St} (h:Stat r0 z.2.1) (hl:z.2.1.Line = 0) (hd:z.2.1.Dot = 0) (hb:z.2.1.Begun = 1):∀ n:Nat,n ≤ 89341 →
  Stat r0 (runS M N n z).2.1 ∧ (runS M N n z).2.1.Line = ((n / 341:Nat):Int) ∧ (runS M N n z).2.1.Dot = ((n % 341:Nat):Int) ∧ (runS M N n z).2.1.Begun = 1 ∧
   (89259 ≤ n → (runS M N n z).2.1.S.V.Column = r0.S.T.Column ∧ (runS M N n z).2.1.S.V.Across = r0.S.T.Across) ∧ (89282 ≤ n → (runS M N n z).2.1.S.V = r0.S.T)
 | 0,_ => ⟨h,hl,hd,hb,fun k => by omega,fun k => by omega⟩
 | n + 1,hn => by
  obtain ⟨s,l,d,b,v1,v2⟩:=first_pic h hl hd hb n (by omega)
  rw [runS_succ]
  generalize runS M N n z = w at *
  have st:=one_ref (M:=M) (N:=N) s
  have hx:w.2.1.Line ≠ 261 ∨ Int.tmod w.2.1.Begun 2 ≠ 0:=.inr (by rw [b];decide)
  have hV:89258 ≤ n → (oneS M N w).2.1.S.V = (kkS w.2.1 w.2.1.S).V:=fun k => by
   rw [st.V,if_pos (.inr (by rw [l];omega))]
  have pos:(oneS M N w).2.1.Line = (((n + 1) / 341:Nat):Int) ∧ (oneS M N w).2.1.Dot = (((n + 1) % 341:Nat):Int) ∧ (oneS M N w).2.1.Begun = 1:=by
   by_cases c:n % 341 = 340
   ·obtain ⟨q1,q2,_⟩:=one_out (M:=M) (N:=N) s (by rw [d,c];rfl)
    obtain ⟨q3,q4⟩:=q2 (by rw [l];omega)
    refine ⟨by rw [q3,l];omega,by rw [q1];omega,q4.trans b⟩
   ·obtain ⟨q1,q2,q3⟩:=one_in (M:=M) (N:=N) s (by rw [d];omega) hx
    exact ⟨by rw [q1,l];omega,by rw [q2,d];omega,q3.trans b⟩
  refine ⟨st.stat,pos.1,pos.2.1,pos.2.2,fun k => ?_,fun k => ?_⟩
  ·have m1:n / 341 = 261:=by omega
   have m2:n % 341 + 89001 = n:=by omega
   rw [hV (by omega)]
   unfold kkS
   rw [l,d,if_neg (by omega),if_neg (by omega)]
   by_cases c1:((n % 341:Nat):Int) = 257
   ·rw [if_pos c1];unfold rLine;exact ⟨by rw [s.T],by rw [s.T]⟩
   ·rw [if_neg c1]
    obtain ⟨a1,a2⟩:=v1 (by omega)
    split
    ·unfold rTop;exact ⟨a1,a2⟩
    ·exact ⟨a1,a2⟩
  ·have m1:n / 341 = 261:=by omega
   have m2:n % 341 + 89001 = n:=by omega
   rw [hV (by omega)]
   unfold kkS
   rw [l,d,if_neg (by omega),if_neg (by omega),if_neg (by omega)]
   obtain ⟨a1,a2⟩:=v1 (by omega)
   by_cases c:((n / 341:Nat):Int) = 261 ∧ 279 < ((n % 341:Nat):Int) ∧ ((n % 341:Nat):Int) < 305
   ·rw [if_pos c];unfold rTop
    simp only
    rw [a1,a2,s.T]
   ·rw [if_neg c]
    exact v2 (by omega)
theorem second_begin {z:St} (h:Stat r0 z.2.1) (hl:z.2.1.Line = 0) (hd:z.2.1.Dot = 0) (hb:z.2.1.Begun = 1) :
  Stat r0 (runS M N 89342 z).2.1 ∧ (runS M N 89342 z).2.1.Line = 0 ∧ (runS M N 89342 z).2.1.Dot = 0 ∧ (runS M N 89342 z).2.1.S.V = r0.S.T:=by
 obtain ⟨s,l,d,b,v1,v2⟩:=first_pic (M:=M) (N:=N) h hl hd hb 89341 (by decide)
 rw [show (89342:Nat) = 89341 + 1 from rfl,runS_succ]
 generalize runS M N 89341 z = w at *
 have st:=one_ref (M:=M) (N:=N) s
 obtain ⟨q1,_,q3⟩:=one_out (M:=M) (N:=N) s (by rw [d];rfl)
 obtain ⟨q4,q5⟩:=q3 (by rw [l];rfl)
 refine ⟨st.stat,q4,q1,?_⟩
 rw [st.V,if_pos (.inr (by rw [l];rfl))]
 unfold kkS
 rw [l,d,if_neg (by decide),if_neg (by decide),if_neg (by decide),if_neg (by decide)]
 exact v2 (by decide)
theorem line_go {z:St} {x Y:Int} {k:Nat} (h:Stat r0 z.2.1) (hk:k < 240) (hl:z.2.1.Line = (k:Int)) (hd:z.2.1.Dot = 0) (hx:0 ≤ x) (hY:0 ≤ Y) (hV:z.2.1.S.V = worldPl x Y)
  (hT:∀ y,r0.S.T.Column = (worldPl x y).Column ∧ r0.S.T.Across = (worldPl x y).Across):∀ D:Nat,D ≤ 340 →
  Stat r0 (runS M N D z).2.1 ∧ (runS M N D z).2.1.Line = (k:Int) ∧ (runS M N D z).2.1.Dot = (D:Int) ∧
   (D ≤ 256 → (runS M N D z).2.1.S.V = worldPl (x + 8 * (((D - 1) / 8:Nat):Int)) Y) ∧ (D = 257 → (runS M N D z).2.1.S.V = worldPl (x + 248) (Y + 1)) ∧ (258 ≤ D → (runS M N D z).2.1.S.V = worldPl x (Y + 1)) ∧
   (∀ d:Nat,d < 256 → d + 2 ≤ D → (runS M N D z).2.2.1 (256 * k + d) = dotW r0 M (worldPl (x + 8 * (((d / 8:Nat):Int))) Y) (((d % 8:Nat):Int) + r0.S.X))
 | 0,_ => ⟨h,hl,hd,fun _ => by show z.2.1.S.V = _;rw [hV];exact world_congr (by omega),fun k => by omega,fun k => by omega,fun d _ k => by omega⟩
 | D + 1,hD => by
  obtain ⟨s,l,d,v1,v2,v3,v4⟩:=line_go h hk hl hd hx hY hV hT D (by omega)
  rw [runS_succ]
  generalize runS M N D z = w at *
  have st:=one_ref (M:=M) (N:=N) s
  obtain ⟨q1,q2,q3⟩:=one_in (M:=M) (N:=N) s (by rw [d];omega) (.inl (by rw [l];omega))
  have eV:(oneS M N w).2.1.S.V = (kkS w.2.1 w.2.1.S).V:=by rw [st.V,if_pos (.inl (by rw [l];omega))]
  refine ⟨st.stat,q1.trans l,by rw [q2,d];omega,fun c => ?_,fun c => ?_,fun c => ?_,fun j hj c => ?_⟩
  ·rw [eV]
   unfold kkS
   rw [l,d]
   have u:=v1 (by omega)
   by_cases c1:0 < (D:Int) ∧ (D:Int) < 256 ∧ (D:Int) % 8 = 0
   ·rw [if_pos c1,world_right (by omega) _ u]
    exact world_congr (by omega)
   ·rw [if_neg c1,if_neg (by omega),if_neg (by omega),if_neg (by omega),u]
    exact world_congr (by omega)
  ·rw [eV]
   unfold kkS
   rw [l,d,if_neg (by omega),if_pos (by omega),world_down hY _ (v1 (by omega))]
   exact world_congr (by omega)
  ·rw [eV]
   unfold kkS
   rw [l,d,if_neg (by omega),if_neg (by omega)]
   by_cases c1:(D:Int) = 257
   ·rw [if_pos c1]
    unfold rLine
    have u:=v2 (by omega)
    obtain ⟨t1,t2⟩:=hT (Y + 1)
    simp only
    rw [u,s.T,t1,t2]
    unfold worldPl
    rfl
   ·rw [if_neg c1,if_neg (by omega)]
    exact v3 (by omega)
  ·rw [st.S,l,d]
   by_cases c1:(k:Int) < 240 ∧ 0 < (D:Int) ∧ (D:Int) < 257
   ·rw [if_pos c1]
    unfold upd
    by_cases c2:j + 1 = D
    ·rw [show Nat.beq (256 * k + j) (256 * (k:Int) + ((D:Int) - 1)).toNat = true from by rw [show 256 * k + j = (256 * (k:Int) + ((D:Int) - 1)).toNat by omega];exact Nat.beq_refl _]
     simp only [cond_true]
     rw [v1 (by omega)]
     congr 1
     ·exact world_congr (by omega)
     ·omega
    ·rw [show Nat.beq (256 * k + j) (256 * (k:Int) + ((D:Int) - 1)).toNat = false from by
      cases e:Nat.beq (256 * k + j) (256 * (k:Int) + ((D:Int) - 1)).toNat with
      | false => rfl
      | true => have:=Nat.eq_of_beq_eq_true e;omega]
     simp only [cond_false]
     exact v4 j hj (by omega)
   ·rw [if_neg c1]
    exact v4 j hj (by omega)
theorem line_end {z:St} {x Y:Int} {k:Nat} (h:Stat r0 z.2.1) (hk:k < 240) (hl:z.2.1.Line = (k:Int)) (hd:z.2.1.Dot = 0) (hx:0 ≤ x) (hY:0 ≤ Y) (hV:z.2.1.S.V = worldPl x Y)
  (hT:∀ y,r0.S.T.Column = (worldPl x y).Column ∧ r0.S.T.Across = (worldPl x y).Across) :
  Stat r0 (runS M N 341 z).2.1 ∧ (runS M N 341 z).2.1.Line = ((k + 1:Nat):Int) ∧ (runS M N 341 z).2.1.Dot = 0 ∧ (runS M N 341 z).2.1.S.V = worldPl x (Y + 1) ∧
   (∀ d:Nat,d < 256 → (runS M N 341 z).2.2.1 (256 * k + d) = dotW r0 M (worldPl (x + 8 * (((d / 8:Nat):Int))) Y) (((d % 8:Nat):Int) + r0.S.X)):=by
 obtain ⟨s,l,d,v1,v2,v3,v4⟩:=line_go (M:=M) (N:=N) h hk hl hd hx hY hV hT 340 (by decide)
 rw [show (341:Nat) = 340 + 1 from rfl,runS_succ]
 generalize runS M N 340 z = w at *
 have st:=one_ref (M:=M) (N:=N) s
 obtain ⟨q1,q2,_⟩:=one_out (M:=M) (N:=N) s (by rw [d];rfl)
 obtain ⟨q3,q4⟩:=q2 (by rw [l];omega)
 refine ⟨st.stat,by rw [q3,l];omega,q1,?_,fun j hj => ?_⟩
 ·rw [st.V,if_pos (.inl (by rw [l];omega))]
  unfold kkS
  rw [l,d,if_neg (by decide),if_neg (by decide),if_neg (by decide),if_neg (by omega)]
  exact v3 (by decide)
 ·rw [st.S,if_neg (by rw [d];omega)]
  exact v4 j hj (by omega)
theorem lines_go {z:St} {x Y:Int} (h:Stat r0 z.2.1) (hl:z.2.1.Line = 0) (hd:z.2.1.Dot = 0) (hx:0 ≤ x) (hY:0 ≤ Y) (hV:z.2.1.S.V = worldPl x Y)
  (hT:∀ y,r0.S.T.Column = (worldPl x y).Column ∧ r0.S.T.Across = (worldPl x y).Across):∀ k:Nat,k ≤ 240 →
  Stat r0 (runS M N (341 * k) z).2.1 ∧ (runS M N (341 * k) z).2.1.Line = (k:Int) ∧ (runS M N (341 * k) z).2.1.Dot = 0 ∧ (runS M N (341 * k) z).2.1.S.V = worldPl x (Y + k)
 | 0,_ => ⟨h,hl,hd,by show z.2.1.S.V = _;rw [hV];congr 1;omega⟩
 | k + 1,hk => by
  obtain ⟨s,l,d,v⟩:=lines_go h hl hd hx hY hV hT k (by omega)
  obtain ⟨a,b,c,e,_⟩:=line_end (M:=M) (N:=N) (k:=k) s (by omega) l d hx (by omega) v hT
  rw [show 341 * (k + 1) = 341 * k + 341 by omega,runS_add]
  exact ⟨a,b,c,by rw [e];congr 1;omega⟩
theorem second_line {z:St} {x Y:Int} {y:Nat} (h:Stat r0 z.2.1) (hl:z.2.1.Line = 0) (hd:z.2.1.Dot = 0) (hb:z.2.1.Begun = 1) (hx:0 ≤ x) (hY:0 ≤ Y) (hy:y < 240) (hT:r0.S.T = worldPl x Y) (hX:r0.S.X = x % 8) :
  Stat r0 (runS M N (89342 + 341 * (y + 1)) z).2.1 ∧ ∀ d:Nat,d < 256 → (runS M N (89342 + 341 * (y + 1)) z).2.2.1 (256 * y + d) = rPeek r0 M (fun _ => 0) (fun _ => 0) [] (16128 + atW (rSeenF r0 M (fun _ => 0) (fun _ => 0) [] (x + d) (Y + y))):=by
 have hT2:∀ y',r0.S.T.Column = (worldPl x y').Column ∧ r0.S.T.Across = (worldPl x y').Across:=fun y' => by rw [hT];exact ⟨rfl,rfl⟩
 obtain ⟨s,l,d,v⟩:=second_begin (M:=M) (N:=N) h hl hd hb
 rw [runS_add,show 341 * (y + 1) = 341 * y + 341 by omega,runS_add]
 obtain ⟨s1,l1,d1,v1⟩:=lines_go (M:=M) (N:=N) s l d hx hY (v.trans hT) hT2 y (by omega)
 obtain ⟨a,_,_,_,e⟩:=line_end (M:=M) (N:=N) (k:=y) s1 hy l1 d1 hx (by omega) v1 hT2
 refine ⟨a,fun j hj => ?_⟩
 rw [e j hj,hX]
 have:=dot_seen r0 M (x:=x) (d:=(j:Int)) (y:=Y + y) hx (by omega)
 rw [← this]
 rw [show (((j / 8:Nat):Int)) = (j:Int) / 8 by omega,show (((j % 8:Nat):Int)) = (j:Int) % 8 by omega]
end
end Go.Proofs.Ytgnhhnmpeklciaa
namespace Go.Proofs.Ytgnhhnmpeklciaa
open Go VX
open Go.IntKind (i64 u8 u16)
theorem zero_same:Same picZero rZero (fun _ => 0) (fun _ => 0):=
 ⟨zero_ok,fun _ _ => by show (0:Int) < 64;decide,fun _ _ => rfl,fun _ _ => rfl,fun _ _ => rfl,fun _ _ => rfl,rfl,
  ⟨good_of 0 0 0 false ⟨by decide,by decide⟩ ⟨by decide,by decide⟩ ⟨by decide,by decide⟩,rfl,rfl,rfl,rfl⟩,rfl,rfl,rfl,rfl,rfl,rfl⟩
theorem zero_both:Both picZero ([]:List Sprite) rZero (fun _ => 0) (fun _ => 0) (fun _ => 0) ([]:List Man):=
 ⟨zero_same,fun _ => rng0,fun _ => rng0,rfl,rfl,⟨by decide,by decide⟩,⟨by decide,by decide⟩,rfl,rfl,fun _ _ => rfl,rfl,fun _ h => absurd h (by simp),by decide⟩
section
variable {p:Pic} {L:List Sprite} {r:RPic} {M N S:Nat → Int} {C:List Man} (b:Both p L r M N S C)
include b
theorem Both.A:0 ≤ r.At ∧ r.At < ((256:Nat):Int):=by rw [b.same.man];exact b.same.ok.man
theorem Both.B:0 ≤ rBits r.S.V:=by rw [bits_same b.same];exact b.same.sc.good.v0
theorem Both.put (reg v:Int) (wr:rng 256 reg) (wv:rng 256 v):Both (both p r M N S reg v L C).1 L (both p r M N S reg v L C).2.1 (both p r M N S reg v L C).2.2.1 (both p r M N S reg v L C).2.2.2 S C:=by
 have q:=both_put b reg v wr wv
 have e:both p r M N S reg v L C = (pPut p L reg v,(rPut r M N S C reg v).1,(rPut r M N S C reg v).2.1,(rPut r M N S C reg v).2.2):=by
  unfold both;rw [rw256 wr,rw256 wv]
 rw [e];exact q
theorem Both.step (n:Int):BothS M N (stepF p r M N S n L C):=run_both n.toNat (z:=(p,r,S,L,C)) b
end
end Go.Proofs.Ytgnhhnmpeklciaa
namespace Go.Proofs.Ytgnhhnmpeklciaa
open Go VX
open Go.IntKind (i64 u8 u16)
theorem put4_keep (r:RPic) (M N S:Nat → Int) (C:List Man) (b:Int):(rPut r M N S C 4 b).1.S = r.S ∧ (rPut r M N S C 4 b).1.Line = r.Line ∧ (rPut r M N S C 4 b).1.Dot = r.Dot ∧ (rPut r M N S C 4 b).1.Begun = r.Begun:=by
 unfold rPut
 rw [if_neg (by decide),if_neg (by decide),if_neg (by decide),if_pos (by decide)]
 exact ⟨rfl,rfl,rfl,rfl⟩
theorem putY_keep (L:List Sprite) (S:Nat → Int) (C:List Man) (f:Int → Int):∀ (n k:Nat) (z:Ly),(upto (putY L S C f) n k z).2.1.S = z.2.1.S ∧ (upto (putY L S C f) n k z).2.1.Line = z.2.1.Line ∧ (upto (putY L S C f) n k z).2.1.Dot = z.2.1.Dot ∧ (upto (putY L S C f) n k z).2.1.Begun = z.2.1.Begun
 | 0,_,_ => ⟨rfl,rfl,rfl,rfl⟩
 | n + 1,k,z => by
  obtain ⟨a,b,c,d⟩:=putY_keep L S C f n (k + 1) (putY L S C f k z)
  obtain ⟨e,g,h,i⟩:=put4_keep z.2.1 z.2.2.1 z.2.2.2 S C (f k)
  exact ⟨a.trans e,b.trans g,c.trans h,d.trans i⟩
theorem layT_keep (a b c d:Int → Int) (S:Nat → Int) (L:List Sprite) (C:List Man) (z:Ly):(layT a b c d S L C z).2.1.S = z.2.1.S ∧ (layT a b c d S L C z).2.1.Line = z.2.1.Line ∧ (layT a b c d S L C z).2.1.Dot = z.2.1.Dot ∧ (layT a b c d S L C z).2.1.Begun = z.2.1.Begun:=by
 unfold layT
 have k1:=(pokeY_keep L S C a 0 8192 0 z).1
 have k2:=(pokeY_keep L S C b 8192 4096 0 (upto (pokeY L S C a 0) 8192 0 z)).1
 have k3:=(pokeY_keep L S C c 16128 32 0 (upto (pokeY L S C b 8192) 4096 0 (upto (pokeY L S C a 0) 8192 0 z))).1
 obtain ⟨q1,q2,q3,q4⟩:=putY_keep L S C d 256 0 (upto (pokeY L S C c 16128) 32 0 (upto (pokeY L S C b 8192) 4096 0 (upto (pokeY L S C a 0) 8192 0 z)))
 have e:=k3.trans (k2.trans k1)
 exact ⟨q1.trans (congrArg (·.S) e),q2.trans (congrArg (·.Line) e),q3.trans (congrArg (·.Dot) e),q4.trans (congrArg (·.Begun) e)⟩
theorem both_ref {p:Pic} {r:RPic} {M N S:Nat → Int} {reg v:Int} {L:List Sprite} {C:List Man} (wr:rng 256 reg) (wv:rng 256 v):(both p r M N S reg v L C).2.1 = (rPut r M N S C reg v).1:=by
 unfold both;rw [rw256 wr,rw256 wv]
theorem put0 (r:RPic) (M N S:Nat → Int) (C:List Man) (b:Int):(rPut r M N S C 0 b).1 = { r with S:=rControl r.S b,Control:=b,Bus:=b }:=by
 unfold rPut;rw [if_pos (by decide)]
theorem put1 (r:RPic) (M N S:Nat → Int) (C:List Man) (b:Int):(rPut r M N S C 1 b).1 = { r with Mask:=b,Bus:=b }:=by
 unfold rPut;rw [if_neg (by decide),if_pos (by decide)]
theorem put5 (r:RPic) (M N S:Nat → Int) (C:List Man) (b:Int):(rPut r M N S C 5 b).1 = { r with S:=rOffset r.S b,Bus:=b }:=by
 unfold rPut;rw [if_neg (by decide),if_neg (by decide),if_neg (by decide),if_neg (by decide),if_pos (by decide)]
theorem scroll_told {s:RScroll} (hw:s.W = false) {c a d:Int} (h0:0 ≤ c) (h1:c < 4) (ha:rng 256 a) (hd:0 ≤ d ∧ d < 240):(rOffset (rOffset (rControl s c) a) d).T = worldPl (256 * (c % 2) + a) (240 * (c / 2) + d) ∧ (rOffset (rOffset (rControl s c) a) d).X = (256 * (c % 2) + a) % 8:=by
 have a0:=ha.1
 have a1:a < 256:=ha.2
 have e1:rOffset (rControl s c) a = { V:=s.V,T:=({ (rControl s c).T with Column:=i64.wrap (Int.tdiv a 8) }:Place),X:=Int.tmod a 8,W:=true }:=by
  unfold rOffset
  have:(rControl s c).W = false:=hw
  rw [if_neg (by rw [this];decide),this]
  rfl
 rw [e1]
 unfold rOffset
 rw [if_pos rfl]
 unfold rControl worldPl
 simp only [Place.mk.injEq]
 rw [td_e 8 a0,td_e 8 hd.1,td_e 2 h0,tm_e 8 a0,tm_e 8 hd.1,tm_e 2 h0,w64 (x:=a / 8) (by omega) (by omega),w64 (x:=d / 8) (by omega) (by omega),w64 (x:=c / 2) (by omega) (by omega),tm_e 2 (show 0 ≤ c / 2 by omega)]
 refine ⟨⟨?_,?_,?_,?_,?_⟩,?_⟩ <;> omega
theorem scrolls_true (nTz:Nat) (dTz:Nat) (sTz:Nat → Int) (nNz:Nat) (dNz:Nat) (sNz:Nat → Int) (nKz:Nat) (dKz:Nat) (sKz:Nat → Int) (nMz:Nat) (dMz:Nat) (sMz:Nat → Int) (sUz:Bool) (which right down line:Int)
  (w1:∀ j,rng 256 (sTz j)) (w2:∀ j,rng 256 (sNz j)) (w3:∀ j,rng 256 (sKz j)) (w4:∀ j,rng 256 (sMz j)) (ww:rng 256 which) (wr:rng 256 right) (wd:rng 256 down) (wl:rng 256 line) :
  FnSpec Try.prog 10 1004 [.agg ⟨[sd 1000 dTz nTz,sd 1001 dNz nNz,sd 1002 dKz nKz,sd 1003 dMz nMz,.bool sUz]⟩,.int .u8 which,.int .u8 right,.int .u8 down,.int .u8 line] [(1000,gB dTz nTz sTz),(1001,gB dNz nNz sNz),(1002,gB dKz nKz sKz),(1003,gB dMz nMz sMz)] (.bool true) []:=by
 have h0:=ww.1
 have h1:which < 256:=ww.2
 have r0:=wr.1
 have r1:right < 256:=wr.2
 have d0:=wd.1
 have d1:down < 256:=wd.2
 have l0:=wl.1
 have l1:line < 256:=wl.2
 have eW:bAnd .u8 which 3 = which % 4:=and_u8_3 h0 h1
 have eD:Int.tmod down 240 = down % 240:=tm_e 240 d0
 have eL:i64.wrap (Int.tmod line 240) = line % 240:=by rw [tm_e 240 l0,w64 (by omega) (by omega)]
 have eB:i64.wrap (i64.wrap (i64.wrap (240 * i64.wrap (bAnd .u8 (bShr .u8 which 1) 1)) + i64.wrap (Int.tmod down 240)) + i64.wrap (Int.tmod line 240)) = 240 * (which % 4 / 2) + down % 240 + line % 240:=by
  rw [eL,eD,shr_u8_1,and_u8_1 (by omega) (by omega),w64 (x:=which / 2 % 2) (by omega) (by omega),w64 (x:=down % 240) (by omega) (by omega),w64 (x:=240 * (which / 2 % 2)) (by omega) (by omega),w64 (x:=240 * (which / 2 % 2) + down % 240) (by omega) (by omega),w64 (by omega) (by omega)]
  omega
 have eA:∀ d:Nat,d < 256 → i64.wrap (i64.wrap (i64.wrap (256 * i64.wrap (bAnd .u8 which 1)) + i64.wrap right) + (d:Int)) = 256 * (which % 4 % 2) + right + d:=by
  intro d hd
  rw [and_u8_1 h0 h1,w64 (x:=which % 2) (by omega) (by omega),w64 (x:=right) (by omega) (by omega),w64 (x:=256 * (which % 2)) (by omega) (by omega),w64 (x:=256 * (which % 2) + right) (by omega) (by omega),w64 (by omega) (by omega)]
  omega
 have en:i64.wrap (89342 + i64.wrap (341 * i64.wrap (i64.wrap (Int.tmod line 240) + 1))) = ((89342 + 341 * ((line % 240).toNat + 1):Nat):Int):=by
  rw [eL,w64 (x:=line % 240 + 1) (by omega) (by omega),w64 (x:=341 * (line % 240 + 1)) (by omega) (by omega),w64 (by omega) (by omega)]
  omega
 obtain ⟨z1,e1⟩:∃ z,z = layF picZero rZero (fun _ => 0) (fun _ => 0) (fun _ => 0) nTz dTz sTz nNz dNz sNz nKz dKz sKz nMz dMz sMz sUz ([]:List Sprite) ([]:List Man):=⟨_,rfl⟩
 have b1:Both z1.1 [] z1.2.1 z1.2.2.1 z1.2.2.2 (fun _ => 0) []:=by
  rw [e1];exact (lay_both picZero rZero (fun _ => 0) (fun _ => 0) (fun _ => 0) nTz dTz sTz nNz dNz sNz nKz dKz sKz nMz dMz sMz sUz [] [] w1 w2 w3 w4 zero_both).2
 have k1:z1.2.1.S.W = false ∧ z1.2.1.Line = 0 ∧ z1.2.1.Dot = 0 ∧ z1.2.1.Begun = 1:=by
  obtain ⟨q1,q2,q3,q4⟩:=layT_keep (againF nTz dTz sTz) (againF nNz dNz sNz) (againF nKz dKz sKz) (againF nMz dMz sMz) (fun _ => 0) [] [] (pUpright picZero [] sUz,{ rZero with Upright:=sUz },(fun _ => 0),(fun _ => 0))
  rw [e1];unfold layF
  exact ⟨by rw [q1];rfl,by rw [q2];rfl,by rw [q3];rfl,by rw [q4];rfl⟩
 obtain ⟨z2,e2⟩:∃ z,z = both z1.1 z1.2.1 z1.2.2.1 z1.2.2.2 (fun _ => 0) 0 (bAnd .u8 which 3) [] []:=⟨_,rfl⟩
 have wc:rng 256 (bAnd .u8 which 3):=by rw [eW];exact ⟨by omega,show which % 4 < 256 by omega⟩
 have b2:Both z2.1 [] z2.2.1 z2.2.2.1 z2.2.2.2 (fun _ => 0) []:=by rw [e2];exact b1.put 0 _ (by decide) wc
 have k2:=both_ref (p:=z1.1) (r:=z1.2.1) (M:=z1.2.2.1) (N:=z1.2.2.2) (S:=fun _ => 0) (reg:=0) (L:=[]) (C:=[]) (by decide) wc
 rw [← e2,put0] at k2
 obtain ⟨z3,e3⟩:∃ z,z = both z2.1 z2.2.1 z2.2.2.1 z2.2.2.2 (fun _ => 0) 1 10 [] []:=⟨_,rfl⟩
 have b3:Both z3.1 [] z3.2.1 z3.2.2.1 z3.2.2.2 (fun _ => 0) []:=by rw [e3];exact b2.put 1 10 (by decide) (by decide)
 have k3:=both_ref (p:=z2.1) (r:=z2.2.1) (M:=z2.2.2.1) (N:=z2.2.2.2) (S:=fun _ => 0) (reg:=1) (v:=10) (L:=[]) (C:=[]) (by decide) (by decide)
 rw [← e3,put1] at k3
 obtain ⟨z4,e4⟩:∃ z,z = both z3.1 z3.2.1 z3.2.2.1 z3.2.2.2 (fun _ => 0) 5 right [] []:=⟨_,rfl⟩
 have b4:Both z4.1 [] z4.2.1 z4.2.2.1 z4.2.2.2 (fun _ => 0) []:=by rw [e4];exact b3.put 5 right (by decide) wr
 have k4:=both_ref (p:=z3.1) (r:=z3.2.1) (M:=z3.2.2.1) (N:=z3.2.2.2) (S:=fun _ => 0) (reg:=5) (L:=[]) (C:=[]) (by decide) wr
 rw [← e4,put5] at k4
 obtain ⟨z5,e5⟩:∃ z,z = both z4.1 z4.2.1 z4.2.2.1 z4.2.2.2 (fun _ => 0) 5 (Int.tmod down 240) [] []:=⟨_,rfl⟩
 have wdn:rng 256 (Int.tmod down 240):=by rw [eD];exact ⟨by omega,show down % 240 < 256 by omega⟩
 have b5:Both z5.1 [] z5.2.1 z5.2.2.1 z5.2.2.2 (fun _ => 0) []:=by rw [e5];exact b4.put 5 _ (by decide) wdn
 have k5:=both_ref (p:=z4.1) (r:=z4.2.1) (M:=z4.2.2.1) (N:=z4.2.2.2) (S:=fun _ => 0) (reg:=5) (L:=[]) (C:=[]) (by decide) wdn
 rw [← e5,put5] at k5
 have m5:z5.2.1.Mask = 10:=by rw [k5,k4,k3]
 have L5:z5.2.1.Line = 0:=by rw [k5,k4,k3,k2];exact k1.2.1
 have D5:z5.2.1.Dot = 0:=by rw [k5,k4,k3,k2];exact k1.2.2.1
 have B5:z5.2.1.Begun = 1:=by rw [k5,k4,k3,k2];exact k1.2.2.2
 have s5:z5.2.1.S = rOffset (rOffset (rControl z1.2.1.S (which % 4)) right) (down % 240):=by rw [k5,k4,k3,k2,eW,eD]
 obtain ⟨t5,x5⟩:=scroll_told k1.1 (c:=which % 4) (a:=right) (d:=down % 240) (by omega) (by omega) wr (by omega)
 rw [← s5] at t5 x5
 obtain ⟨n,hn⟩:∃ n,n = i64.wrap (89342 + i64.wrap (341 * i64.wrap (i64.wrap (Int.tmod line 240) + 1))):=⟨_,rfl⟩
 have hnb:0 ≤ n ∧ n < 1000000000:=by rw [hn,en];omega
 obtain ⟨z6,e6⟩:∃ z,z = stepF z5.1 z5.2.1 z5.2.2.1 z5.2.2.2 (fun _ => 0) n [] []:=⟨_,rfl⟩
 have b6:Both z6.1 z6.2.2.2.1 z6.2.1 z5.2.2.1 z5.2.2.2 z6.2.2.1 z6.2.2.2.2:=by rw [e6];exact b5.step n
 obtain ⟨st6,sc6⟩:=second_line (M:=z5.2.2.1) (N:=z5.2.2.2) (r0:=z5.2.1) (z:=(z5.1,z5.2.1,(fun _ => 0),[],[])) (x:=256 * (which % 4 % 2) + right) (Y:=240 * (which % 4 / 2) + down % 240) (y:=(line % 240).toNat) ⟨m5,rfl,rfl,rfl,rfl⟩ L5 D5 B5 (by omega) (by omega) (by omega) t5 x5
 have e6':z6 = runS z5.2.2.1 z5.2.2.2 (89342 + 341 * ((line % 240).toNat + 1)) (z5.1,z5.2.1,(fun _ => 0),[],[]):=by
  rw [e6];unfold stepF;rw [hn,en,Int.toNat_natCast]
 rw [← e6'] at st6 sc6
 have wM:∀ j,rng 256 (z5.2.2.1 j):=b5.wM
 have loop:∀ (m k:Nat),k + m = 256 → LoopR (lawScrolls_L1 which right down line z5 z6) ((k:Int),false) (256,false):=by
  intro m
  induction m with
  | zero =>
   intro k hk
   have:k = 256:=by omega
   subst this
   exact .last (.p3 (decide_eq_false (by show ¬ (((256:Nat):Int) < 256);omega)))
  | succ m ih =>
   intro k hk
   have hA:=eA k (by omega)
   have hw:i64.wrap ((k:Int) + 1) = ((k + 1:Nat):Int):=by rw [w64 (by omega) (by omega)];omega
   have c1:(decide ((k:Int) < 256)) = true:=decide_eq_true (by omega)
   have c2:0 ≤ (k:Int) ∧ (k:Int) < ((256:Nat):Int):=by omega
   have sk:=sc6 k (by omega)
   have yA:Int.toNat (i64.wrap (Int.tmod line 240)) * 256 + Int.toNat (k:Int) = 256 * (line % 240).toNat + k:=by rw [eL,Int.toNat_natCast];omega
   have scr:z6.1.screen (Int.toNat (i64.wrap (Int.tmod line 240)) * 256 + Int.toNat (k:Int)) = z6.2.2.1 (256 * (line % 240).toNat + k):=by rw [yA,b6.screen _ (by omega)]
   have seen:rSeenF z6.2.1 z5.2.2.1 z5.2.2.2 z6.2.2.1 z6.2.2.2.2 (256 * (which % 4 % 2) + right + k) (240 * (which % 4 / 2) + down % 240 + line % 240) = rSeenF z5.2.1 z5.2.2.1 (fun _ => 0) (fun _ => 0) [] (256 * (which % 4 % 2) + right + k) (240 * (which % 4 / 2) + down % 240 + ((line % 240).toNat:Int)):=by
    rw [show ((line % 240).toNat:Int) = line % 240 by omega]
    unfold rSeenF
    exact tile_cong st6.up st6.ctl _ _ _ _ _ _ _ _ _
   obtain ⟨t,ht⟩:∃ t,t = rSeenF z6.2.1 z5.2.2.1 z5.2.2.2 z6.2.2.1 z6.2.2.2.2 (256 * (which % 4 % 2) + right + k) (240 * (which % 4 / 2) + down % 240 + line % 240):=⟨_,rfl⟩
   have rt:(0 ≤ t.1 ∧ t.1 < 4) ∧ 0 ≤ t.2 ∧ t.2 < 4:=by rw [ht];exact tileF_rng wM _ _
   have sk2:z6.1.screen (Int.toNat (i64.wrap (Int.tmod line 240)) * 256 + Int.toNat (k:Int)) = rPeek z6.2.1 z5.2.2.1 z5.2.2.2 z6.2.2.1 z6.2.2.2.2 (16128 + atW t):=by
    rw [scr,sk,ht,seen]
    exact (peek_cong st6.up _ _ _ _ _ _ _ _).symm
   have wS:rng 256 (z6.1.screen (Int.toNat (i64.wrap (Int.tmod line 240)) * 256 + Int.toNat (k:Int))):=by rw [sk2];exact rPeek_rng wM _
   by_cases c:0 < t.1
   ·have hat:i64.wrap (16128 + i64.wrap (i64.wrap (4 * t.2) + t.1)) = 16128 + atW t:=by
     unfold atW
     rw [if_pos c,w64 (x:=4 * t.2) (by omega) (by omega),w64 (x:=4 * t.2 + t.1) (by omega) (by omega),w64 (by omega) (by omega)]
    have st:=lawScrolls_L1.p1 (which:=which) (right:=right) (down:=down) (line:=line) (s22c:=z5) (s25c:=z6) (xd:=((k:Int),false)) c1 c2 wM
     (by show 0 ≤ i64.wrap (i64.wrap (i64.wrap (256 * i64.wrap (bAnd .u8 which 1)) + i64.wrap right) + (k:Int)) ∧ i64.wrap (i64.wrap (i64.wrap (256 * i64.wrap (bAnd .u8 which 1)) + i64.wrap right) + (k:Int)) < 100000;rw [hA];omega)
     (by rw [eB];omega)
     (by
      show (decide ((rSeenF z6.2.1 z5.2.2.1 z5.2.2.2 z6.2.2.1 z6.2.2.2.2 (i64.wrap (i64.wrap (i64.wrap (256 * i64.wrap (bAnd .u8 which 1)) + i64.wrap right) + (k:Int))) (i64.wrap (i64.wrap (i64.wrap (240 * i64.wrap (bAnd .u8 (bShr .u8 which 1) 1)) + i64.wrap (Int.tmod down 240)) + i64.wrap (Int.tmod line 240)))).1 > 0)) = true
      rw [hA,eB,← ht];exact decide_eq_true c)
     (by
      show 0 ≤ i64.wrap (16128 + i64.wrap (i64.wrap (4 * (rSeenF z6.2.1 z5.2.2.1 z5.2.2.2 z6.2.2.1 z6.2.2.2.2 (i64.wrap (i64.wrap (i64.wrap (256 * i64.wrap (bAnd .u8 which 1)) + i64.wrap right) + (k:Int))) (i64.wrap (i64.wrap (i64.wrap (240 * i64.wrap (bAnd .u8 (bShr .u8 which 1) 1)) + i64.wrap (Int.tmod down 240)) + i64.wrap (Int.tmod line 240)))).2) + (rSeenF z6.2.1 z5.2.2.1 z5.2.2.2 z6.2.2.1 z6.2.2.2.2 (i64.wrap (i64.wrap (i64.wrap (256 * i64.wrap (bAnd .u8 which 1)) + i64.wrap right) + (k:Int))) (i64.wrap (i64.wrap (i64.wrap (240 * i64.wrap (bAnd .u8 (bShr .u8 which 1) 1)) + i64.wrap (Int.tmod down 240)) + i64.wrap (Int.tmod line 240)))).1))
      rw [hA,eB,← ht,hat];unfold atW;rw [if_pos c];omega)
     (by
      show (i64.wrap (z6.1.screen (Int.toNat (i64.wrap (Int.tmod line 240)) * 256 + Int.toNat (k:Int))) != rPeek z6.2.1 z5.2.2.1 z5.2.2.2 z6.2.2.1 z6.2.2.2.2 (i64.wrap (16128 + i64.wrap (i64.wrap (4 * (rSeenF z6.2.1 z5.2.2.1 z5.2.2.2 z6.2.2.1 z6.2.2.2.2 (i64.wrap (i64.wrap (i64.wrap (256 * i64.wrap (bAnd .u8 which 1)) + i64.wrap right) + (k:Int))) (i64.wrap (i64.wrap (i64.wrap (240 * i64.wrap (bAnd .u8 (bShr .u8 which 1) 1)) + i64.wrap (Int.tmod down 240)) + i64.wrap (Int.tmod line 240)))).2) + (rSeenF z6.2.1 z5.2.2.1 z5.2.2.2 z6.2.2.1 z6.2.2.2.2 (i64.wrap (i64.wrap (i64.wrap (256 * i64.wrap (bAnd .u8 which 1)) + i64.wrap right) + (k:Int))) (i64.wrap (i64.wrap (i64.wrap (240 * i64.wrap (bAnd .u8 (bShr .u8 which 1) 1)) + i64.wrap (Int.tmod down 240)) + i64.wrap (Int.tmod line 240)))).1)))) = false
      rw [hA,eB,← ht,hat,rw256 wS,sk2];simp)
    simp only [hw] at st
    exact .more st (ih (k + 1) (by omega))
   ·have hat:(16128:Int) = 16128 + atW t:=by unfold atW;rw [if_neg c];rfl
    have st:=lawScrolls_L1.p2 (which:=which) (right:=right) (down:=down) (line:=line) (s22c:=z5) (s25c:=z6) (xd:=((k:Int),false)) c1 c2 wM
     (by show 0 ≤ i64.wrap (i64.wrap (i64.wrap (256 * i64.wrap (bAnd .u8 which 1)) + i64.wrap right) + (k:Int)) ∧ i64.wrap (i64.wrap (i64.wrap (256 * i64.wrap (bAnd .u8 which 1)) + i64.wrap right) + (k:Int)) < 100000;rw [hA];omega)
     (by rw [eB];omega)
     (by
      show (decide ((rSeenF z6.2.1 z5.2.2.1 z5.2.2.2 z6.2.2.1 z6.2.2.2.2 (i64.wrap (i64.wrap (i64.wrap (256 * i64.wrap (bAnd .u8 which 1)) + i64.wrap right) + (k:Int))) (i64.wrap (i64.wrap (i64.wrap (240 * i64.wrap (bAnd .u8 (bShr .u8 which 1) 1)) + i64.wrap (Int.tmod down 240)) + i64.wrap (Int.tmod line 240)))).1 > 0)) = false
      rw [hA,eB,← ht];exact decide_eq_false c)
     (by
      show (i64.wrap (z6.1.screen (Int.toNat (i64.wrap (Int.tmod line 240)) * 256 + Int.toNat (k:Int))) != rPeek z6.2.1 z5.2.2.1 z5.2.2.2 z6.2.2.1 z6.2.2.2.2 16128) = false
      rw [rw256 wS,sk2,← hat];simp)
    simp only [hw] at st
    exact .more st (ih (k + 1) (by omega))
 exact lawScrolls_p1 nTz dTz sTz nNz dNz sNz nKz dKz sKz nMz dMz sMz sUz which right down line w1 w2 w3 w4 zero_both z1 e1
  b1.same.ok b1.A b1.B z2 e2 b2.same.ok b2.A b2.B z3 e3 b3.same.ok b3.A b3.B z4 e4 b4.same.ok b4.A b4.B z5 e5 b5 (by have q:=hnb;rw [hn] at q;exact q) z6 (by have q:=e6;rw [hn] at q;exact q) (by rw [eL];omega) (256,false) (loop 256 0 rfl)
end Go.Proofs.Ytgnhhnmpeklciaa
namespace Go.Proofs.Ytgnhhnmpeklciaa.VX
open Go Go.RowKit Go.WideShapes Go.ChangeShapes Go.WideElems
def HandedAt (W:World) (z:Nat) (cells:Nat → List Value) (N d:Nat) (v:Value):Prop:=
 ∃ b,b < W.heap.size ∧ (∀ μ ty,BlkRel μ ⟨[.gap d,.rows N z cells],ty,true⟩ W.heap[b]?) ∧ ∀ (μ:Mu) (id:Nat),μ id = some b → VRel μ (.slice (some ⟨id,0,some d⟩) N 0) v
theorem lt_of_some {α:Type} {a:Array α} {i:Nat} {x:α} (h:a[i]? = some x):i < a.size:=by
 apply Classical.byContradiction
 intro hc
 rw [Array.getElem?_eq_none (by omega)] at h
 cases h
end Go.Proofs.Ytgnhhnmpeklciaa.VX
namespace Go.Proofs.Ytgnhhnmpeklciaa.VX
open Go Go.RowKit Go.WideShapes Go.ChangeShapes Go.WideElems
def HandedInts (W:World) (k:IntKind) (f:Nat → Int) (N d:Nat) (v:Value):Prop:=
 ∃ b,b < W.heap.size ∧ (∀ μ ty,BlkRel μ ⟨[.gap d,.ints k N f],ty,true⟩ W.heap[b]?) ∧ ∀ (μ:Mu) (id:Nat),μ id = some b → VRel μ (.slice (some ⟨id,0,some d⟩) N 0) v
theorem handed_ints {W:World} {k:IntKind} {f:Nat → Int} {N d:Nat} {v:Value} (h:HandedAt W 1 (fun i => [.int k (f i)]) N d v):HandedInts W k f N d v:=by
 obtain ⟨b,hb,hB,hR⟩:=h
 refine ⟨b,hb,fun μ ty => ?_,hR⟩
 obtain ⟨cs,t,fr,ho,h1,h2⟩:=hB μ ty
 refine ⟨cs,t,fr,ho,(fun hro => nomatch hro),fun off u hu => h2 off u ?_⟩
 have e1:(Blk.get? ⟨[.gap d,.ints k N f],ty,true⟩ off) = (bif Nat.blt off d then none else bif Nat.blt (off - d) N then (bif Nat.blt (off - d) N then some (.int k (f (off - d))) else none) else none):=rfl
 have e2:(Blk.get? ⟨[.gap d,.rows N 1 fun i => [.int k (f i)]],ty,true⟩ off) = (bif Nat.blt off d then none else bif Nat.blt (off - d) (N * 1) then (bif Nat.blt (off - d) (N * 1) then [Value.int k (f ((off - d) / 1))][(off - d) % 1]? else none) else none):=rfl
 rw [e1] at hu
 rw [e2,Nat.mul_one,Nat.div_one,Nat.mod_one]
 exact hu
end Go.Proofs.Ytgnhhnmpeklciaa.VX
namespace Go.Proofs.Ytgnhhnmpeklciaa
open Go VX Go.ChangeShapes Go.WideShapes Go.RowKit Go.Joins Go.Deep
def isCells:Option Obj → Bool
 | some (.cells _ _ _) => true
 | _ => false
theorem glob0:Try.prog.globals.size = 0:=by kernel_rfl
theorem any_open {W:World} (h:W.ShapedOpen Try.prog):∃ (b:Nat) (cs:Array Value) (ty:TypeId) (fr:Nat × Nat),W.heap[b]? = some (Obj.cells cs ty fr):=by
 have h0:isCells ((begin Try.prog (fun _ _ => 0) default).world.heap[0]?) = true:=by kernel_rfl
 have hsz:0 < (begin Try.prog (fun _ _ => 0) default).world.heap.size:=by
  have:decide (0 < (begin Try.prog (fun _ _ => 0) default).world.heap.size) = true:=by kernel_rfl
  exact of_decide_eq_true this
 obtain ⟨o,o0,e1,e2,e3⟩:=h.2 0 (by rw [glob0];exact Nat.le_refl _) hsz
 have hl:World.looseAt (0 - Try.prog.globals.size) = false:=by kernel_rfl
 rw [if_neg (by rw [hl];decide)] at e3
 subst e3
 rw [e2] at h0
 cases o with
 | cells cs t fr => exact ⟨0,cs,t,fr,e1⟩
 | _ => cases h0
section
variable {H:Type} {enc:TypeId × Value → H} {W:World} {base:Nat} {sp:Nat → Bool} {held:Bool}
theorem c1_5:Try.prog.cellsOf 5 = 1:=by kernel_rfl
end
end Go.Proofs.Ytgnhhnmpeklciaa
namespace Go.Proofs.Ytgnhhnmpeklciaa.VX
open Go Go.RowKit Go.WideShapes Go.ChangeShapes Go.WideElems Go.Deep
theorem open_handedF {H:Type} {enc:TypeId × Value → H} {P:Program} {W:World} {base:Nat} {sp:Nat → Bool} {held:Bool} {t e:TypeId} {v:Value} {x0:DataW H × List MemPlace} {z fuel:Nat}
  (ht:P.underlying t = some (.slice e)) (hz:P.cellsOf e = z) (hpos:0 < z) {α:Type} (cells:α → List Value) (ok:α → Prop) (a0:α) (ha0:ok a0) (hfl:∀ a,(cells a).all scalar = true)
  (open1:∀ (fuel:Nat) (cs:List Value) (x:DataW H × List MemPlace),DataW.trod enc P W base sp held fuel e cs = some x → ∃ a,ok a ∧ cs = cells a)
  (hany:∃ (b:Nat) (cs:Array Value) (ty:TypeId) (fr:Nat × Nat),W.heap[b]? = some (Obj.cells cs ty fr))
  (hf:DataW.trod enc P W base sp held fuel t [v] = some x0) :
  ∃ (N d:Nat) (g:Nat → α),((∀ j,ok (g j)) ∧ N ≤ 9223372036854775807) ∧ HandedAt W z (fun i => cells (g i)) N d v:=by
 obtain ⟨ba,ca,ta,fa,hba⟩:=hany
 have empty:∀ (a:Option Addr) (c:Nat),v = .slice a 0 c → ∃ (N d:Nat) (g:Nat → α),((∀ j,ok (g j)) ∧ N ≤ 9223372036854775807) ∧ HandedAt W z (fun i => cells (g i)) N d v:=by
  rintro a c rfl
  refine ⟨0,0,fun _ => a0,⟨fun _ => ha0,by decide⟩,ba,lt_of_some hba,fun μ ty => ⟨ca,ta,fa,hba,(fun hro => nomatch hro),fun off u hu => ?_⟩,fun μ id hid => .sliceE _ _ _ _ _ _ (.inl rfl)⟩
  exfalso
  simp only [Blk.get?] at hu
  have e5:segsGet? [.gap 0,.rows 0 z (fun i => cells a0)] off = (bif Nat.blt off 0 then none else bif Nat.blt (off - 0) (0 * z) then (Seg.rows 0 z (fun i => cells a0)).get? (off - 0) else none):=rfl
  rw [e5,Nat.zero_mul] at hu
  have e6:∀ n,Nat.blt n 0 = false:=fun n => by cases h:Nat.blt n 0 with | false => rfl | true => have:=blt_tt h;omega
  rw [e6,e6] at hu
  simp at hu
 rcases Go.Deep.open_slice ht hf with ⟨h1,_⟩ | ⟨a',len,cap,m,n,D,Pl,h1,_,hl,hcm,hm,_,hel⟩
 ·simp only [List.cons.injEq,and_true] at h1
  exact empty _ _ h1
 ·simp only [List.cons.injEq,and_true] at h1
  subst h1
  by_cases h0:len = 0
  ·subst h0
   exact empty _ _ rfl
  have hlm:len ≤ m:=by rw [hm];split <;> omega
  have hle:len ≤ 9223372036854775807:=by
   have:maxLen = 9223372036854775807:=by decide
   omega
  have hch:∀ i,i < len → ∃ x:α,ok x ∧ ∀ j,j < z → W.cell? ((a'.add (i * z)).add j) = (cells x)[j]?:=by
   intro i hi
   obtain ⟨cs',hc,ht'⟩:=hel i (by omega)
   obtain ⟨x,hx,rfl⟩:=open1 _ _ _ ht'
   rw [hz] at hc
   obtain ⟨_,_,hcell⟩:=World.cells?_some hc
   exact ⟨x,hx,hcell⟩
  haveI:Inhabited α:=⟨a0⟩
  obtain ⟨g0,hg0⟩:=Go.Deep.choose_lt (p:=fun i x => ok x ∧ ∀ j,j < z → W.cell? ((a'.add (i * z)).add j) = (cells x)[j]?) hch
  obtain ⟨b,off,spot⟩:=a'
  have first:∃ v0,W.cell? (((⟨b,off,spot⟩:Addr).add (0 * z)).add 0) = some v0:=by
   obtain ⟨cs',hc,_⟩:=hel 0 (by omega)
   rw [hz] at hc
   obtain ⟨_,hl',hcell⟩:=World.cells?_some hc
   exact ⟨cs'[0]'(by omega),by rw [hcell 0 hpos,List.getElem?_eq_getElem]⟩
  obtain ⟨v0,hv0⟩:=first
  have hspot:spot = none:=by
   have:=World.cell?_spot hv0
   simpa [Addr.add] using this
  subst hspot
  have hblk:∃ cs ty fr,W.heap[b]? = some (.cells cs ty fr) ∧ ∀ o u,W.cell? ⟨b,o,none⟩ = some u → cs[o]? = some u:=by
   rw [add_plain,add_plain] at hv0
   unfold World.cell? at hv0
   split at hv0
   ·rename_i c ty fr hh
    exact ⟨c,ty,fr,hh,fun o u hu => by unfold World.cell? at hu;simp only [hh] at hu;simpa using hu⟩
   ·cases hv0
  obtain ⟨cs,ty0,fr,hh,hcs⟩:=hblk
  classical
  refine ⟨len,off,fun j => if j < len then g0 j else a0,⟨fun j => (show ok (if j < len then g0 j else a0) by
   by_cases hj:j < len
   ·rw [if_pos hj];exact (hg0 j hj).1
   ·rw [if_neg hj];exact ha0),hle⟩,b,lt_of_some hh,fun μ ty => ⟨cs,ty0,fr,hh,(fun hro => nomatch hro),fun o u hu => ?_⟩,fun μ id hid => ?_⟩
  ·have e5:(Blk.get? ⟨[.gap off,.rows len z (fun i => cells (if i < len then g0 i else a0))],ty,true⟩ o) = (bif Nat.blt o off then none else bif Nat.blt (o - off) (len * z) then (Seg.rows len z (fun i => cells (if i < len then g0 i else a0))).get? (o - off) else none):=rfl
   rw [e5] at hu
   cases h1:Nat.blt o off <;> rw [h1] at hu
   ·simp only [cond_false] at hu
    cases h2:Nat.blt (o - off) (len * z) <;> rw [h2] at hu
    ·simp at hu
    ·simp only [cond_true,Seg.get?,h2] at hu
     have hlt:=blt_tt h2
     have hge:=blt_ff h1
     have hq:(o - off) / z < len:=Nat.div_lt_of_lt_mul (by rw [Nat.mul_comm];exact hlt)
     have hr:(o - off) % z < z:=Nat.mod_lt _ hpos
     rw [if_pos hq] at hu
     have hcell:=(hg0 _ hq).2 _ hr
     rw [add_plain,add_plain,hu] at hcell
     have heq:off + (o - off) / z * z + (o - off) % z = o:=by
      have:=Nat.div_add_mod (o - off) z
      rw [Nat.mul_comm] at this
      omega
     rw [heq] at hcell
     exact ⟨u,hcs o u hcell,.of_scalar (List.all_eq_true.1 (hfl _) u (List.mem_of_getElem? hu))⟩
   ·simp at hu
  ·have:=VRel.sliceS hid off 0 len 0 cap hl (.inl rfl)
   rwa [Nat.add_zero] at this
def muL (P:Program) (bs:List Nat):Mu:=⟨fun i => if i < P.globals.size then some i else if i < 1000 then none else bs[i - 1000]?,fun _ => 0,fun _ => none⟩
theorem muL_at {P:Program} (hG:P.globals.size ≤ 1000) {bs:List Nat} {j b:Nat} (h:bs[j]? = some b):muL P bs (1000 + j) = some b:=by
 show (if 1000 + j < P.globals.size then some (1000 + j) else if 1000 + j < 1000 then none else bs[1000 + j - 1000]?) = some b
 rw [if_neg (by omega),if_neg (by omega),Nat.add_sub_cancel_left];exact h
def Hands (P:Program) (bs:List Nat) (W:World) (Hl:Heap):Prop:=∀ i B,lk Hl i = some B → B.ro = true ∧ ∃ b',muL P bs i = some b' ∧ BlkRel (muL P bs) B W.heap[b']?
theorem hands_nil {P:Program} {bs:List Nat} {W:World}:Hands P bs W []:=fun i B h => by simp [lk] at h
theorem hands_cons {P:Program} {bs:List Nat} {W:World} {i b:Nat} {B:Blk} {Hl:Heap} (hi:muL P bs i = some b) (hro:B.ro = true) (hB:BlkRel (muL P bs) B W.heap[b]?) (ht:Hands P bs W Hl):Hands P bs W ((i,B) :: Hl):=by
 intro j C h
 simp only [lk] at h
 cases e:Nat.beq j i <;> rw [e] at h
 ·exact ht j C h
 ·simp at h;subst h
  rw [beq_tt e]
  exact ⟨hro,b,hi,hB⟩
theorem calls_of_spec_hands {P:Program} {f:FuncId} {A:List Value} {Hl H':Heap} (hG:P.globals.size ≤ 1000) (bs:List Nat) {n0:Nat} (sp:FnSpec P f n0 A Hl (.bool true) H') (hn:n0 = 1000 + bs.length) {W:World} {args:Array Value} (hg:P.globals.size ≤ W.heap.size) (hbs:∀ b ∈ bs,b < W.heap.size)
  (hb:Hands P bs W Hl) (ha:VRels (muL P bs) A args.toList) :
  Calls P f args W fun e W' => e = .returned (.bool true) ∧ Below W.heap.size W W':=by
 subst hn
 have hr:Rep (muL P bs) (lk Hl) W:=by
  refine ⟨fun i B e _ => (hb i B e).2,fun i j A B b e1 e2 _ _ _ => ⟨(hb i A e1).1,(hb j B e2).1⟩,fun i b' e => ?_,fun i B b e hr => (by rw [(hb i B e).1] at hr;cases hr),(fun b cs e => nomatch e),fun i B b e hr => (by rw [(hb i B e).1] at hr;cases hr)⟩
  simp only [muL] at e
  split at e
  ·simp at e;omega
  ·split at e
   ·cases e
   ·exact hbs _ (List.mem_of_getElem? e)
 have:=sp.runs (muL P bs) W args.toList (fun g h => by simp [muL,h]) (fun i hi => by simp only [muL];rw [if_neg (by omega),if_neg (by omega)];exact List.getElem?_eq_none (by omega)) ha hr
 refine this.mono fun e W' ⟨μ',rv,_,_,hv,he,k⟩ => ?_
 cases hv
 exact ⟨he,⟨k.os,k.tape,k.output,k.size,fun b hb' => k.same b hb' (by rintro ⟨i,B,e,hr,_⟩;rw [(hb i B e).1] at hr;cases hr)⟩⟩
section
variable {H:Type} {enc:TypeId × Value → H} {P:Program} {w:World} {base:Nat} {spare:Nat → Bool} {held:Bool}
theorem open_agg5 {r:Reach} {b0:Nat} {t:TypeId} {f0 f1 f2 f3 f4:Field} {v:Value} {d:DataW H} {p:List MemPlace} (hs:P.underlying t = some (.struct #[f0,f1,f2,f3,f4])) (hone:oneCellFields P #[f0,f1,f2,f3,f4] = true) (hC:P.cellsOf t = 5)
  (hv:Value.okWide P w r b0 t v) (h:DataW.Trod enc P w base spare held t v d p) :
  ∃ (v0 v1 v2 v3 v4:Value) (y0 y1 y2 y3 y4:DataW H × List MemPlace) (n:Nat),v = .agg #[v0,v1,v2,v3,v4] ∧ d = .agg [y0.1,y1.1,y2.1,y3.1,y4.1] ∧ p = y0.2 ++ (y1.2 ++ (y2.2 ++ (y3.2 ++ y4.2))) ∧
   DataW.trod enc P w base spare held n f0.type [v0] = some y0 ∧ DataW.trod enc P w base spare held n f1.type [v1] = some y1 ∧ DataW.trod enc P w base spare held n f2.type [v2] = some y2 ∧ DataW.trod enc P w base spare held n f3.type [v3] = some y3 ∧ DataW.trod enc P w base spare held n f4.type [v4] = some y4:=by
 obtain ⟨cs,rfl,hsz⟩:=okWide_struct hs hv
 obtain ⟨l⟩:=cs
 match l,hsz.trans hC with
 | [c0,c1,c2,c3,c4],_ =>
  obtain ⟨fuel,hf⟩:=h
  obtain ⟨xs,n,_,hx,_,hlen,hg⟩:=DataW.trod_struct hs hf
  obtain ⟨o0,k0⟩:=hone_of hone 0 f0 rfl
  obtain ⟨o1,k1⟩:=hone_of hone 1 f1 rfl
  obtain ⟨o2,k2⟩:=hone_of hone 2 f2 rfl
  obtain ⟨o3,k3⟩:=hone_of hone 3 f3 rfl
  obtain ⟨o4,k4⟩:=hone_of hone 4 f4 rfl
  match xs,hlen with
  | [y0,y1,y2,y3,y4],_ =>
   simp only [Prod.mk.injEq] at hx
   exact ⟨c0,c1,c2,c3,c4,y0,y1,y2,y3,y4,n,rfl,by simpa using hx.1,by simpa using hx.2,by simpa [Value.cells,o0,k0] using hg 0 f0 rfl,by simpa [Value.cells,o1,k1] using hg 1 f1 rfl,by simpa [Value.cells,o2,k2] using hg 2 f2 rfl,by simpa [Value.cells,o3,k3] using hg 3 f3 rfl,by simpa [Value.cells,o4,k4] using hg 4 f4 rfl⟩
end
end Go.Proofs.Ytgnhhnmpeklciaa.VX
namespace Go.Proofs.Ytgnhhnmpeklciaa
open Go VX Go.ChangeShapes Go.WideShapes Go.RowKit Go.Joins Go.Deep
section
variable {H:Type} {enc:TypeId × Value → H} {W:World} {base:Nat} {sp:Nat → Bool} {held:Bool}
theorem open_linesF {fuel:Nat} {v:Value} {x0:DataW H × List MemPlace} (hany:∃ (b:Nat) (cs:Array Value) (ty:TypeId) (fr:Nat × Nat),W.heap[b]? = some (Obj.cells cs ty fr))
  (hf:DataW.trod enc Try.prog W base sp held fuel 23 [v] = some x0):∃ (N k:Nat) (f:Nat → Int),(∀ j,rng 256 (f j)) ∧ HandedInts W .u8 f N k v:=by
 obtain ⟨N,k,g,hg,hh⟩:=open_handedF Try.underlying23 c1_5 (by decide) (fun a:Int => [.int .u8 a]) (rng 256) 0 (by decide) (fun _ => rfl) (fun fuel cs x hx => by
  obtain ⟨z,h1,_,h2⟩:=DataW.trod_int Try.underlying5 hx
  exact ⟨z,wf_u8 h2,h1⟩) hany hf
 exact ⟨N,k,g,hg.1,handed_ints hh⟩
theorem open_scene {r:Reach} {b0:Nat} {v:Value} {d:DataW H} {p:List MemPlace} (hany:∃ (b:Nat) (cs:Array Value) (ty:TypeId) (fr:Nat × Nat),W.heap[b]? = some (Obj.cells cs ty fr))
  (hv:Value.okWide Try.prog W r b0 45 v) (h:DataW.Trod enc Try.prog W base sp held 45 v d p) :
  ∃ (N0 k0:Nat) (f0:Nat → Int) (N1 k1:Nat) (f1:Nat → Int) (N2 k2:Nat) (f2:Nat → Int) (N3 k3:Nat) (f3:Nat → Int) (u:Bool) (v0 v1 v2 v3:Value),v = .agg #[v0,v1,v2,v3,.bool u] ∧
   (∀ j,rng 256 (f0 j)) ∧ (∀ j,rng 256 (f1 j)) ∧ (∀ j,rng 256 (f2 j)) ∧ (∀ j,rng 256 (f3 j)) ∧ HandedInts W .u8 f0 N0 k0 v0 ∧ HandedInts W .u8 f1 N1 k1 v1 ∧ HandedInts W .u8 f2 N2 k2 v2 ∧ HandedInts W .u8 f3 N3 k3 v3:=by
 obtain ⟨c0,c1,c2,c3,c4,y0,y1,y2,y3,y4,m,rfl,rfl,rfl,hy0,hy1,hy2,hy3,hy4⟩:=open_agg5 Try.underlying45 (by kernel_rfl) (by kernel_rfl) hv h
 obtain ⟨N0,k0,f0,w0,g0⟩:=open_linesF hany hy0
 obtain ⟨N1,k1,f1,w1,g1⟩:=open_linesF hany hy1
 obtain ⟨N2,k2,f2,w2,g2⟩:=open_linesF hany hy2
 obtain ⟨N3,k3,f3,w3,g3⟩:=open_linesF hany hy3
 obtain ⟨u,e4,_⟩:=DataW.trod_bool Try.underlying4 hy4
 simp only [List.cons.injEq,and_true] at e4
 subst e4
 exact ⟨N0,k0,f0,N1,k1,f1,N2,k2,f2,N3,k3,f3,u,c0,c1,c2,c3,rfl,w0,w1,w2,w3,g0,g1,g2,g3⟩
end
end Go.Proofs.Ytgnhhnmpeklciaa
namespace Go.Proofs.Ytgnhhnmpeklciaa
open Go VX
structure Act where
 Do:Int
 Reg:Int
 B:Int
 At:Int
 N:Int
def Act.enc (s:Act):Value:=.agg ⟨[.int .u8 s.Do,.int .u8 s.Reg,.int .u8 s.B,.int .u16 s.At,.int .u16 s.N]⟩
def Act.blk (s:Act):Blk:=⟨[.one (.int .u8 s.Do),.one (.int .u8 s.Reg),.one (.int .u8 s.B),.one (.int .u16 s.At),.one (.int .u16 s.N)],50,false⟩
def Act.cells (s:Act):List Value:=[.int .u8 s.Do,.int .u8 s.Reg,.int .u8 s.B,.int .u16 s.At,.int .u16 s.N]
structure Act.ok (s:Act):Prop where
 Do:rng 256 s.Do
 Reg:rng 256 s.Reg
 B:rng 256 s.B
 At:rng 65536 s.At
 N:rng 65536 s.N
end Go.Proofs.Ytgnhhnmpeklciaa
namespace Go.Proofs.Ytgnhhnmpeklciaa
open Go VX Go.ChangeShapes Go.WideShapes Go.RowKit Go.Joins Go.Deep
section
variable {H:Type} {enc:TypeId × Value → H} {W:World} {base:Nat} {sp:Nat → Bool} {held:Bool}
end
end Go.Proofs.Ytgnhhnmpeklciaa
