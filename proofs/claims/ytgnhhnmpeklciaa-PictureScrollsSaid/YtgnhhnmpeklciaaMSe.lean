/-
  Texts laid together: NH, NI, NJ, KO, NL, NM, NN, NO, PT, NP, KP, NQ, NR, NS, NT, NU, NV, NX, NY. No condition.
-/
import Derived.Test.YtgnhhnmpeklciaaMSd
set_option linter.unusedVariables false
set_option linter.unusedSimpArgs false
set_option linter.unusedSectionVars false
set_option maxRecDepth 100000
set_option maxHeartbeats 4000000
namespace Go.Proofs.Ytgnhhnmpeklciaa
open Go VX
open Go.IntKind (i64 u8 u16)
def heightR (r:RPic):Int:=if rBit r.Control 32 = true then 16 else 8
def rowR (r:RPic) (N:Nat → Int) (k:Nat):Int:=r.Line - N (4 * k)
def rowT (r:RPic) (N:Nat → Int) (k:Nat):Int:=if rBit (N (4 * k + 2)) 128 = true then heightR r - 1 - rowR r N k else rowR r N k
def fromR (r:RPic) (N:Nat → Int) (k:Nat):Int:=
 if heightR r = 16 then 4096 * (N (4 * k + 1) % 2) + 16 * (N (4 * k + 1) - N (4 * k + 1) % 2 + rowT r N k / 8) + rowT r N k % 8
 else 16 * N (4 * k + 1) + rowT r N k + if rBit r.Control 8 = true then 4096 else 0
def numsR (r:RPic) (M N:Nat → Int) (k:Nat):Nat → Int:=rNum (M (fromR r N k).toNat) (M (fromR r N k + 8).toNat)
def oneR (r:RPic) (M N:Nat → Int) (k:Nat):Man:=
 { X:=N (4 * k + 3),Look:=N (4 * k + 2),First:=((k:Int) == 0),Dots:=if rBit (N (4 * k + 2)) 64 = true then rev8 (numsR r M N k) else numsR r M N k,Full:=true }
def chooseR (r:RPic) (M N:Nat → Int):Nat → Nat → List Man → List Man × Bool
 | 0,_,L => (L,false)
 | n + 1,k,L =>
  if rowR r N k < 0 ∨ rowR r N k ≥ heightR r then chooseR r M N n (k + 1) L
  else if L.length = 8 then (L,true)
  else chooseR r M N n (k + 1) (L ++ [oneR r M N k])
def rChooseF (r:RPic) (rM:Nat → Int) (rN:Nat → Int) (rS:Nat → Int) (rC:List Man):RPic × List Man:=
 if r.Line > 239 ∨ r.Mask / 8 % 4 = 0 then (r,[]) else (if (chooseR r rM rN 64 0 []).2 = true then { r with Many:=true } else r,(chooseR r rM rN 64 0 []).1)
theorem j2n_eq (r:RPic):qHJ2n r = heightR r:=rfl
theorem height_or (r:RPic):heightR r = 16 ∨ heightR r = 8:=by unfold heightR;split <;> simp
theorem rowT_rng {r:RPic} {N:Nat → Int} {k:Nat} (h0:0 ≤ rowR r N k) (h1:rowR r N k < heightR r):0 ≤ rowT r N k ∧ rowT r N k < heightR r:=by
 unfold rowT;split <;> omega
theorem fromR_rng {r:RPic} {N:Nat → Int} (w:∀ j,rng 256 (N j)) {k:Nat} (h0:0 ≤ rowR r N k) (h1:rowR r N k < heightR r):0 ≤ fromR r N k ∧ fromR r N k + 8 < 16384:=by
 obtain ⟨t0,t1⟩:=rowT_rng h0 h1
 have a0:=(w (4 * k + 1)).1;have a1:N (4 * k + 1) < 256:=(w (4 * k + 1)).2
 have hh:=height_or r
 unfold fromR
 split
 ·omega
 ·split <;> omega
theorem rev8_rng {f:Nat → Int} (h:∀ j,0 ≤ f j ∧ f j < 4) (j:Nat):0 ≤ rev8 f j ∧ rev8 f j < 4:=by
 rcases Nat.lt_or_ge j 8 with h8 | h8
 ·rw [rev8_eq f h8];exact h _
 ·unfold rev8;rw [List.getD_eq_getElem?_getD,List.getElem?_eq_none (by simpa using h8)];exact ⟨Int.le_refl 0,show (0:Int) < 4 by decide⟩
theorem choose_loopR (r:RPic) (rM rN rS:Nat → Int) (w:∀ j,rng 256 (rM j)) (wN:∀ j,rng 256 (rN j)) (hl:0 ≤ r.Line ∧ r.Line < 300):∀ (n k:Nat) (L:List Man),n + k = 64 → L.length ≤ 8 →
  ((chooseR r rM rN n k L).2 = false ∧ LoopR (qHL3n r rM rN rS) (L,(k:Int),r) (.inl ((chooseR r rM rN n k L).1,64,r))) ∨
  ((chooseR r rM rN n k L).2 = true ∧ ∃ i,LoopR (qHL3n r rM rN rS) (L,(k:Int),r) (.inr ((chooseR r rM rN n k L).1,i,({ r with Many:=true }:RPic))))
 | 0,k,L,hk,hL => by
  have:k = 64:=by omega
  subst this
  exact .inl ⟨rfl,.last (.p5 (decide_eq_false (by simp)))⟩
 | n + 1,k,L,hk,hL => by
  have hd:(decide (((L,(k:Int),r):List Man × Int × RPic).2.1 < 64)) = true:=decide_eq_true (by show (k:Int) < 64;omega)
  have e0:i64.wrap (4 * (k:Int)) = 4 * (k:Int):=w64 (by omega) (by omega)
  have e1:i64.wrap (4 * (k:Int) + 1) = 4 * (k:Int) + 1:=w64 (by omega) (by omega)
  have e2:i64.wrap (4 * (k:Int) + 2) = 4 * (k:Int) + 2:=w64 (by omega) (by omega)
  have e3:i64.wrap (4 * (k:Int) + 3) = 4 * (k:Int) + 3:=w64 (by omega) (by omega)
  have t0:(4 * (k:Int)).toNat = 4 * k:=by omega
  have t1:(4 * (k:Int) + 1).toNat = 4 * k + 1:=by omega
  have t2:(4 * (k:Int) + 2).toNat = 4 * k + 2:=by omega
  have t3:(4 * (k:Int) + 3).toNat = 4 * k + 3:=by omega
  have v1:=wN (4 * k + 1)
  have eR:i64.wrap (r.Line - rN (4 * k)) = rowR r rN k:=by
   have a0:=(wN (4 * k)).1;have a1:rN (4 * k) < 256:=(wN (4 * k)).2
   exact w64 (by omega) (by omega)
  have ek:i64.wrap ((k:Int) + 1) = ((k + 1:Nat):Int):=by rw [w64 (by omega) (by omega)];omega
  have g4:∀ xe:Int × Int × Int × Int,xe.2.2.2 = rowR r rN k → qHJ4ny r (L,(k:Int),r) xe = decide (rowR r rN k < 0 ∨ rowR r rN k ≥ heightR r):=by
   intro xe h
   unfold qHJ4ny
   rw [h,j2n_eq]
   by_cases c:rowR r rN k < 0
   ·simp [c]
   ·simp [c]
  have b0:0 ≤ 4 * (k:Int) ∧ 4 * (k:Int) < ((256:Nat):Int):=by omega
  have b1:0 ≤ 4 * (k:Int) + 1 ∧ 4 * (k:Int) + 1 < ((256:Nat):Int):=by omega
  have b2:0 ≤ 4 * (k:Int) + 2 ∧ 4 * (k:Int) + 2 < ((256:Nat):Int):=by omega
  have b3:0 ≤ 4 * (k:Int) + 3 ∧ 4 * (k:Int) + 3 < ((256:Nat):Int):=by omega
  unfold chooseR
  by_cases c1:rowR r rN k < 0 ∨ rowR r rN k ≥ heightR r
  ·rw [if_pos c1]
   have st:=qHL3n.p1 (r:=r) (rM:=rM) (rN:=rN) (rS:=rS) (xd:=(L,(k:Int),r)) hd
   simp only [e0,e1,e2,e3,t0,t1,t2,t3,rw256 (wN _),eR,ek] at st
   have st:=st b0 b1 b2 b3 (by rw [g4 _ rfl];exact decide_eq_true c1)
   rcases choose_loopR r rM rN rS w wN hl n (k + 1) L (by omega) hL with ⟨q,t⟩ | ⟨q,i,t⟩
   ·exact .inl ⟨q,.more st t⟩
   ·exact .inr ⟨q,i,.more st t⟩
  ·rw [if_neg c1]
   have c1f:=decide_eq_false c1
   by_cases c2:L.length = 8
   ·rw [if_pos c2]
    have st:=qHL3n.p2 (r:=r) (rM:=rM) (rN:=rN) (rS:=rS) (xd:=(L,(k:Int),r)) hd
    simp only [e0,e1,e2,e3,t0,t1,t2,t3,rw256 (wN _),eR,ek] at st
    have st:=st b0 b1 b2 b3 (by rw [g4 _ rfl];exact c1f) (by rw [c2];rfl)
    exact .inr ⟨rfl,_,.last st⟩
   ·rw [if_neg c2]
    have h0:0 ≤ rowR r rN k:=by omega
    have h1:rowR r rN k < heightR r:=by omega
    obtain ⟨u0,u1⟩:=rowT_rng h0 h1
    obtain ⟨f0,f1⟩:=fromR_rng wN h0 h1
    have hh:=height_or r
    have a0:=v1.1;have a1:rN (4 * k + 1) < 256:=v1.2
    have e5:∀ b:Bool,b = rBit (rN (4 * k + 2)) 128 → qHJ5nynn r rN (L,(k:Int),r) b = rowT r rN k:=by
     intro b hb
     unfold qHJ5nynn rowT
     simp only [e0,t0,rw256 (wN _),eR,j2n_eq,hb]
     rw [w64 (x:=heightR r - 1) (by omega) (by omega),w64 (x:=heightR r - 1 - _) (by omega) (by omega)]
    have e6:qHJ6nynn r rN (L,(k:Int),r) (rowT r rN k,i64.wrap (i64.wrap (16 * rN (4 * k + 1)) + rowT r rN k)) = fromR r rN k:=by
     have q:i64.wrap (i64.wrap (16 * rN (4 * k + 1)) + rowT r rN k) = 16 * rN (4 * k + 1) + rowT r rN k:=by
      rw [w64 (x:=16 * rN (4 * k + 1)) (by omega) (by omega),w64 (by omega) (by omega)]
     rw [q]
     unfold qHJ6nynn qHJ7nynnn fromR
     simp only [e0,e1,t0,t1,rw256 (wN _),j2n_eq]
     rw [tm_e 2 a0,td_e 8 u0,tm_e 8 u0,w64 (x:=4096 * _) (by omega) (by omega),w64 (x:=_ - _ % 2) (by omega) (by omega),w64 (x:=rowT r rN k / 8) (by omega) (by omega),w64 (x:=_ + rowT r rN k / 8) (by omega) (by omega),w64 (x:=16 * _) (by omega) (by omega),w64 (x:=4096 * _ + _) (by omega) (by omega),w64 (x:=_ + rowT r rN k % 8) (by omega) (by omega),w64 (x:=_ + 4096) (by omega) (by omega)]
     rcases hh with hh | hh
     ·rw [hh];simp
     ·rw [hh];simp;split <;> simp
    have hlen:(L.length:Int) ≠ 8:=by omega
    have ih:=choose_loopR r rM rN rS w wN hl n (k + 1) (L ++ [oneR r rM rN k]) (by omega) (by simp;omega)
    have st:qHL3n r rM rN rS (L,(k:Int),r) (.inl (L ++ [oneR r rM rN k],((k + 1:Nat):Int),r)):=by
     cases c4:rBit (rN (4 * k + 2)) 64 with
     | true =>
      have st:=qHL3n.p3 (r:=r) (rM:=rM) (rN:=rN) (rS:=rS) (xd:=(L,(k:Int),r)) hd
      simp only [e0,e1,e2,e3,t0,t1,t2,t3,rw256 (wN _),eR,ek,e5 _ rfl,e6,rw256 (w _)] at st
      have e8:i64.wrap (fromR r rN k + 8) = fromR r rN k + 8:=w64 (by omega) (by omega)
      simp only [e8] at st
      have st:=st b0 b1 b2 b3 (by rw [g4 _ rfl];exact c1f) (beq_eq_false_iff_ne.2 hlen) (by omega) (by omega) c4 (by omega)
      have eo:oneR r rM rN k = { X:=rN (4 * k + 3),Look:=rN (4 * k + 2),First:=((k:Int) == 0),Dots:=rev8 (numsR r rM rN k),Full:=true }:=by unfold oneR;rw [if_pos c4]
      rw [eo];exact st
     | false =>
      have st:=qHL3n.p4 (r:=r) (rM:=rM) (rN:=rN) (rS:=rS) (xd:=(L,(k:Int),r)) hd
      simp only [e0,e1,e2,e3,t0,t1,t2,t3,rw256 (wN _),eR,ek,e5 _ rfl,e6,rw256 (w _)] at st
      have e8:i64.wrap (fromR r rN k + 8) = fromR r rN k + 8:=w64 (by omega) (by omega)
      simp only [e8] at st
      have st:=st b0 b1 b2 b3 (by rw [g4 _ rfl];exact c1f) (beq_eq_false_iff_ne.2 hlen) (by omega) (by omega) c4 (by omega)
      have eo:oneR r rM rN k = { X:=rN (4 * k + 3),Look:=rN (4 * k + 2),First:=((k:Int) == 0),Dots:=numsR r rM rN k,Full:=true }:=by unfold oneR;rw [if_neg (nt c4)]
      rw [eo];exact st
    rcases ih with ⟨q,t⟩ | ⟨q,i,t⟩
    ·exact .inl ⟨q,.more st t⟩
    ·exact .inr ⟨q,i,.more st t⟩
theorem rChooseF_ok (r:RPic) (rM:Nat → Int) (rN:Nat → Int) (rS:Nat → Int) (rC:List Man) (w:∀ j,rng 256 (rM j)) (wN:∀ j,rng 256 (rN j)) (hl:0 ≤ r.Line ∧ r.Line < 300) (hm:rng 256 r.Mask):FnSpec Try.prog 83 1005 [pt 1000] [(1000,(RPic.bl r (sl 1001 16384 1) (sl 1002 256 1) (sl 1004 (List.length rC) 4) (sl 1003 61440 1) false)),(1001,iB 16384 rM false),(1002,iB 256 rN false),(1003,iB 61440 rS false),(1004,mB rC false)] (.tuple ⟨[]⟩) [(1000,(RPic.bl (rChooseF r rM rN rS rC).1 (sl 1001 16384 1) (sl 1002 256 1) (sl 1005 (List.length (rChooseF r rM rN rS rC).2) 4) (sl 1003 61440 1) false)),(1001,iB 16384 rM false),(1002,iB 256 rN false),(1003,iB 61440 rS false),(1005,⟨[rowsL Man.cells Man.nil 4 (rChooseF r rM rN rS rC).2],119,false⟩)]:=by
 have hj:qHJ1 r = decide (r.Line > 239 ∨ r.Mask / 8 % 4 = 0):=by
  have m0:=hm.1;have m1:r.Mask < 256:=hm.2
  unfold qHJ1
  rw [td_e 8 m0,w64 (by omega) (by omega),tm_e 4 (by omega)]
  by_cases c:r.Line > 239
  ·simp [c]
  ·simp only [c,decide_false,false_or]
   rw [if_neg (by decide)]
   by_cases c':r.Mask / 8 % 4 = 0 <;> simp [c']
 unfold rChooseF
 by_cases c:r.Line > 239 ∨ r.Mask / 8 % 4 = 0
 ·rw [if_pos c]
  exact rChoose_p1 r rM rN rS rC (by rw [hj];exact decide_eq_true c)
 ·rw [if_neg c]
  rcases choose_loopR r rM rN rS w wN hl 64 0 [] rfl (by decide) with ⟨q,t⟩ | ⟨q,i,t⟩
  ·rw [if_neg (nt q)]
   exact rChoose_p2 r rM rN rS rC (by rw [hj];exact decide_eq_false c) _ t
  ·rw [if_pos q]
   exact rChoose_p3 r rM rN rS rC (by rw [hj];exact decide_eq_false c) _ t
end Go.Proofs.Ytgnhhnmpeklciaa
namespace Go.Proofs.Ytgnhhnmpeklciaa
open Go VX
open Go.IntKind (i64 u8 u16)
def qCJ1 (r:RPic) (rC:List Man):Bool:=
 if (r.Line == 241) = true then
  (r.Dot == 1)
 else
  false
def qCJ1_T (r:RPic) (rC:List Man):Tm:=[(0,pt 1000)]
def qCJ1_H (r:RPic) (rC:List Man):Heap:=[(1000,(RPic.bl r (sl 1001 16384 1) (sl 1002 256 1) (sl 1004 (List.length rC) 4) (sl 1003 61440 1) false))]
def qCJ1_T1 (r:RPic) (rC:List Man) (r_:Bool):Tm:=[(0,pt 1000),(15,.bool r_)]
def qCJ1_H1 (r:RPic) (rC:List Man) (r_:Bool):Heap:=[(1000,(RPic.bl r (sl 1001 16384 1) (sl 1002 256 1) (sl 1004 (List.length rC) 4) (sl 1003 61440 1) false))]
theorem qCJ1_p1 (r:RPic) (rC:List Man) (d1:(r.Line == 241) = true):Runs Try.prog 244 (bodyOf Try.f58 [0,0]) (qCJ1_T r rC) (qCJ1_H r rC) 1005 .normal (qCJ1_T1 r rC (r.Dot == 1)) (qCJ1_H1 r rC (r.Dot == 1)) 1005:=by
 exact runs_of_x hG hM 400 [.yes,.yes,.yes,.yes,.yes,.yes] (J d1 (J d1 (J d1 (J d1 (J d1 (J d1 trivial)))))) (by kernel_rfl)
theorem qCJ1_p2 (r:RPic) (rC:List Man) (d1:(r.Line == 241) = false):Runs Try.prog 244 (bodyOf Try.f58 [0,0]) (qCJ1_T r rC) (qCJ1_H r rC) 1005 .normal (qCJ1_T1 r rC false) (qCJ1_H1 r rC false) 1005:=by
 exact runs_of_x hG hM 400 [.no,.no,.no,.no,.no,.no] (J d1 (J d1 (J d1 (J d1 (J d1 (J d1 trivial)))))) (by kernel_rfl)
theorem qCJ1_runs (r:RPic) (rC:List Man):Runs Try.prog 244 (bodyOf Try.f58 [0,0]) (qCJ1_T r rC) (qCJ1_H r rC) 1005 .normal (qCJ1_T1 r rC (qCJ1 r rC)) (qCJ1_H1 r rC (qCJ1 r rC)) 1005:=by
 rcases bt (r.Line == 241) with d1 | d1
 ·
  rw [show qCJ1 r rC = (r.Dot == 1) from by unfold qCJ1;rw [if_pos d1]]
  exact qCJ1_p1 r rC d1
 ·
  rw [show qCJ1 r rC = false from by unfold qCJ1;rw [if_neg (nt d1)]]
  exact qCJ1_p2 r rC d1
def qCJ2 (r:RPic) (rC:List Man) (xd:RPic):RPic:=
 if (qCJ1 r rC) = true then
  ({ xd with Blank:=true,Done:=(i64.wrap (xd.Done + 1)) }:RPic)
 else
  xd
def qCJ2_T (r:RPic) (rC:List Man) (xd:RPic):Tm:=[(0,pt 1000),(15,.bool (qCJ1 r rC))]
def qCJ2_H (r:RPic) (rC:List Man) (xd:RPic):Heap:=[(1000,(RPic.bl xd (sl 1001 16384 1) (sl 1002 256 1) (sl 1004 (List.length rC) 4) (sl 1003 61440 1) false))]
def qCJ2_T1 (r:RPic) (rC:List Man) (xd:RPic) (r_:RPic):Tm:=[(0,pt 1000)]
def qCJ2_H1 (r:RPic) (rC:List Man) (xd:RPic) (r_:RPic):Heap:=[(1000,(RPic.bl r_ (sl 1001 16384 1) (sl 1002 256 1) (sl 1004 (List.length rC) 4) (sl 1003 61440 1) false))]
theorem qCJ2_p1 (r:RPic) (rC:List Man) (xd:RPic) (d1:(qCJ1 r rC) = true):Runs Try.prog 244 (bodyOf Try.f58 [0,1]) (qCJ2_T r rC xd) (qCJ2_H r rC xd) 1005 .normal (qCJ2_T1 r rC xd ({ xd with Blank:=true,Done:=(i64.wrap (xd.Done + 1)) }:RPic)) (qCJ2_H1 r rC xd ({ xd with Blank:=true,Done:=(i64.wrap (xd.Done + 1)) }:RPic)) 1005:=by
 exact runs_of_x hG hM 400 [.yes] (J d1 trivial) (by kernel_rfl)
theorem qCJ2_p2 (r:RPic) (rC:List Man) (xd:RPic) (d1:(qCJ1 r rC) = false):Runs Try.prog 244 (bodyOf Try.f58 [0,1]) (qCJ2_T r rC xd) (qCJ2_H r rC xd) 1005 .normal (qCJ2_T1 r rC xd xd) (qCJ2_H1 r rC xd xd) 1005:=by
 exact runs_of_x hG hM 400 [.no] (J d1 trivial) (by kernel_rfl)
theorem qCJ2_runs (r:RPic) (rC:List Man) (xd:RPic):Runs Try.prog 244 (bodyOf Try.f58 [0,1]) (qCJ2_T r rC xd) (qCJ2_H r rC xd) 1005 .normal (qCJ2_T1 r rC xd (qCJ2 r rC xd)) (qCJ2_H1 r rC xd (qCJ2 r rC xd)) 1005:=by
 rcases bt (qCJ1 r rC) with d1 | d1
 ·
  rw [show qCJ2 r rC xd = ({ xd with Blank:=true,Done:=(i64.wrap (xd.Done + 1)) }:RPic) from by unfold qCJ2;rw [if_pos d1]]
  exact qCJ2_p1 r rC xd d1
 ·
  rw [show qCJ2 r rC xd = xd from by unfold qCJ2;rw [if_neg (nt d1)]]
  exact qCJ2_p2 r rC xd d1
def qCJ3 (r:RPic) (rC:List Man):Bool:=
 if (((qCJ2 r rC r).Line:Int) == 261) = true then
  (((qCJ2 r rC r).Dot:Int) == 1)
 else
  false
def qCJ3_T (r:RPic) (rC:List Man):Tm:=[(0,pt 1000)]
def qCJ3_H (r:RPic) (rC:List Man):Heap:=[(1000,(RPic.bl (qCJ2 r rC r) (sl 1001 16384 1) (sl 1002 256 1) (sl 1004 (List.length rC) 4) (sl 1003 61440 1) false))]
def qCJ3_T1 (r:RPic) (rC:List Man) (r_:Bool):Tm:=[(0,pt 1000),(37,.bool r_)]
def qCJ3_H1 (r:RPic) (rC:List Man) (r_:Bool):Heap:=[(1000,(RPic.bl (qCJ2 r rC r) (sl 1001 16384 1) (sl 1002 256 1) (sl 1004 (List.length rC) 4) (sl 1003 61440 1) false))]
theorem qCJ3_p1 (r:RPic) (rC:List Man) (d1:(((qCJ2 r rC r).Line:Int) == 261) = true):Runs Try.prog 244 (bodyOf Try.f58 [1,0,0]) (qCJ3_T r rC) (qCJ3_H r rC) 1005 .normal (qCJ3_T1 r rC (((qCJ2 r rC r).Dot:Int) == 1)) (qCJ3_H1 r rC (((qCJ2 r rC r).Dot:Int) == 1)) 1005:=by
 exact runs_of_x hG hM 400 [.yes,.yes,.yes,.yes,.yes,.yes] (J d1 (J d1 (J d1 (J d1 (J d1 (J d1 trivial)))))) (by kernel_rfl)
theorem qCJ3_p2 (r:RPic) (rC:List Man) (d1:(((qCJ2 r rC r).Line:Int) == 261) = false):Runs Try.prog 244 (bodyOf Try.f58 [1,0,0]) (qCJ3_T r rC) (qCJ3_H r rC) 1005 .normal (qCJ3_T1 r rC false) (qCJ3_H1 r rC false) 1005:=by
 exact runs_of_x hG hM 400 [.no,.no,.no,.no,.no,.no] (J d1 (J d1 (J d1 (J d1 (J d1 (J d1 trivial)))))) (by kernel_rfl)
theorem qCJ3_runs (r:RPic) (rC:List Man):Runs Try.prog 244 (bodyOf Try.f58 [1,0,0]) (qCJ3_T r rC) (qCJ3_H r rC) 1005 .normal (qCJ3_T1 r rC (qCJ3 r rC)) (qCJ3_H1 r rC (qCJ3 r rC)) 1005:=by
 rcases bt (((qCJ2 r rC r).Line:Int) == 261) with d1 | d1
 ·
  rw [show qCJ3 r rC = (((qCJ2 r rC r).Dot:Int) == 1) from by unfold qCJ3;rw [if_pos d1]]
  exact qCJ3_p1 r rC d1
 ·
  rw [show qCJ3 r rC = false from by unfold qCJ3;rw [if_neg (nt d1)]]
  exact qCJ3_p2 r rC d1
def qCJ4 (r:RPic) (rC:List Man) (xd:RPic):RPic:=
 if (qCJ3 r rC) = true then
  ({ xd with Blank:=false,Hit:=false,Many:=false }:RPic)
 else
  xd
def qCJ4_T (r:RPic) (rC:List Man) (xd:RPic):Tm:=[(0,pt 1000),(37,.bool (qCJ3 r rC))]
def qCJ4_H (r:RPic) (rC:List Man) (xd:RPic):Heap:=[(1000,(RPic.bl xd (sl 1001 16384 1) (sl 1002 256 1) (sl 1004 (List.length rC) 4) (sl 1003 61440 1) false))]
def qCJ4_T1 (r:RPic) (rC:List Man) (xd:RPic) (r_:RPic):Tm:=[(0,pt 1000)]
def qCJ4_H1 (r:RPic) (rC:List Man) (xd:RPic) (r_:RPic):Heap:=[(1000,(RPic.bl r_ (sl 1001 16384 1) (sl 1002 256 1) (sl 1004 (List.length rC) 4) (sl 1003 61440 1) false))]
theorem qCJ4_p1 (r:RPic) (rC:List Man) (xd:RPic) (d1:(qCJ3 r rC) = true):Runs Try.prog 244 (bodyOf Try.f58 [1,0,1]) (qCJ4_T r rC xd) (qCJ4_H r rC xd) 1005 .normal (qCJ4_T1 r rC xd ({ xd with Blank:=false,Hit:=false,Many:=false }:RPic)) (qCJ4_H1 r rC xd ({ xd with Blank:=false,Hit:=false,Many:=false }:RPic)) 1005:=by
 exact runs_of_x hG hM 400 [.yes] (J d1 trivial) (by kernel_rfl)
theorem qCJ4_p2 (r:RPic) (rC:List Man) (xd:RPic) (d1:(qCJ3 r rC) = false):Runs Try.prog 244 (bodyOf Try.f58 [1,0,1]) (qCJ4_T r rC xd) (qCJ4_H r rC xd) 1005 .normal (qCJ4_T1 r rC xd xd) (qCJ4_H1 r rC xd xd) 1005:=by
 exact runs_of_x hG hM 400 [.no] (J d1 trivial) (by kernel_rfl)
theorem qCJ4_runs (r:RPic) (rC:List Man) (xd:RPic):Runs Try.prog 244 (bodyOf Try.f58 [1,0,1]) (qCJ4_T r rC xd) (qCJ4_H r rC xd) 1005 .normal (qCJ4_T1 r rC xd (qCJ4 r rC xd)) (qCJ4_H1 r rC xd (qCJ4 r rC xd)) 1005:=by
 rcases bt (qCJ3 r rC) with d1 | d1
 ·
  rw [show qCJ4 r rC xd = ({ xd with Blank:=false,Hit:=false,Many:=false }:RPic) from by unfold qCJ4;rw [if_pos d1]]
  exact qCJ4_p1 r rC xd d1
 ·
  rw [show qCJ4 r rC xd = xd from by unfold qCJ4;rw [if_neg (nt d1)]]
  exact qCJ4_p2 r rC xd d1
def qCJ5 (r:RPic) (rC:List Man):Bool:=
 if (decide (((qCJ4 r rC (qCJ2 r rC r)).Line:Int) < 240)) = true then
  if (decide (((qCJ4 r rC (qCJ2 r rC r)).Dot:Int) > 0)) = true then
   (decide (((qCJ4 r rC (qCJ2 r rC r)).Dot:Int) < 257))
  else
   false
 else
  false
def qCJ5_T (r:RPic) (rC:List Man):Tm:=[(0,pt 1000)]
def qCJ5_H (r:RPic) (rC:List Man):Heap:=[(1000,(RPic.bl (qCJ4 r rC (qCJ2 r rC r)) (sl 1001 16384 1) (sl 1002 256 1) (sl 1004 (List.length rC) 4) (sl 1003 61440 1) false))]
def qCJ5_T1 (r:RPic) (rC:List Man) (r_:Bool):Tm:=[(0,pt 1000),(65,.bool r_)]
def qCJ5_H1 (r:RPic) (rC:List Man) (r_:Bool):Heap:=[(1000,(RPic.bl (qCJ4 r rC (qCJ2 r rC r)) (sl 1001 16384 1) (sl 1002 256 1) (sl 1004 (List.length rC) 4) (sl 1003 61440 1) false))]
theorem qCJ5_p1 (r:RPic) (rC:List Man) (d1:(decide (((qCJ4 r rC (qCJ2 r rC r)).Line:Int) < 240)) = true) (d2:(decide (((qCJ4 r rC (qCJ2 r rC r)).Dot:Int) > 0)) = true):Runs Try.prog 244 (bodyOf Try.f58 [1,1,0,0]) (qCJ5_T r rC) (qCJ5_H r rC) 1005 .normal (qCJ5_T1 r rC (decide (((qCJ4 r rC (qCJ2 r rC r)).Dot:Int) < 257))) (qCJ5_H1 r rC (decide (((qCJ4 r rC (qCJ2 r rC r)).Dot:Int) < 257))) 1005:=by
 exact runs_of_x hG hM 400 [.yes,.yes,.yes,.yes,.yes,.yes,.yes,.yes,.yes,.yes,.yes,.yes] (J d1 (J d1 (J d1 (J d1 (J d1 (J d1 (J d2 (J d2 (J d2 (J d2 (J d2 (J d2 trivial)))))))))))) (by kernel_rfl)
theorem qCJ5_p2 (r:RPic) (rC:List Man) (d1:(decide (((qCJ4 r rC (qCJ2 r rC r)).Line:Int) < 240)) = true) (d2:(decide (((qCJ4 r rC (qCJ2 r rC r)).Dot:Int) > 0)) = false):Runs Try.prog 244 (bodyOf Try.f58 [1,1,0,0]) (qCJ5_T r rC) (qCJ5_H r rC) 1005 .normal (qCJ5_T1 r rC false) (qCJ5_H1 r rC false) 1005:=by
 exact runs_of_x hG hM 400 [.yes,.yes,.yes,.yes,.yes,.yes,.no,.no,.no,.no,.no,.no] (J d1 (J d1 (J d1 (J d1 (J d1 (J d1 (J d2 (J d2 (J d2 (J d2 (J d2 (J d2 trivial)))))))))))) (by kernel_rfl)
theorem qCJ5_p3 (r:RPic) (rC:List Man) (d1:(decide (((qCJ4 r rC (qCJ2 r rC r)).Line:Int) < 240)) = false):Runs Try.prog 244 (bodyOf Try.f58 [1,1,0,0]) (qCJ5_T r rC) (qCJ5_H r rC) 1005 .normal (qCJ5_T1 r rC false) (qCJ5_H1 r rC false) 1005:=by
 exact runs_of_x hG hM 400 [.no,.no,.no,.no,.no,.no,.no,.no,.no,.no,.no,.no] (J d1 (J d1 (J d1 (J d1 (J d1 (J d1 (J T0 (J T0 (J T0 (J T0 (J T0 (J T0 trivial)))))))))))) (by kernel_rfl)
abbrev NIk6 (r:RPic) (rC:List Man):=(qCJ4 r rC (qCJ2 r rC r))
theorem qCJ5_runs (r:RPic) (rC:List Man):Runs Try.prog 244 (bodyOf Try.f58 [1,1,0,0]) (qCJ5_T r rC) (qCJ5_H r rC) 1005 .normal (qCJ5_T1 r rC (qCJ5 r rC)) (qCJ5_H1 r rC (qCJ5 r rC)) 1005:=by
 rcases bt (decide (((NIk6 r rC).Line:Int) < 240)) with d1 | d1
 ·
  rcases bt (decide (((NIk6 r rC).Dot:Int) > 0)) with d2 | d2
  ·
   rw [show qCJ5 r rC = (decide (((NIk6 r rC).Dot:Int) < 257)) from by unfold qCJ5;rw [if_pos d1,if_pos d2]]
   exact qCJ5_p1 r rC d1 d2
  ·
   rw [show qCJ5 r rC = false from by unfold qCJ5;rw [if_pos d1,if_neg (nt d2)]]
   exact qCJ5_p2 r rC d1 d2
 ·
  rw [show qCJ5 r rC = false from by unfold qCJ5;rw [if_neg (nt d1)]]
  exact qCJ5_p3 r rC d1
def qCJ6 (r:RPic) (rM:Nat → Int) (rN:Nat → Int) (rC:List Man) (xd:RPic × (Nat → Int)):RPic × (Nat → Int):=
 if (qCJ5 r rC) = true then
  ((rDrawF xd.1 rM rN xd.2 rC (i64.wrap (xd.1.Dot - 1))).1,(rDrawF xd.1 rM rN xd.2 rC (i64.wrap (xd.1.Dot - 1))).2)
 else
  (xd.1,xd.2)
def qCJ6_T (r:RPic) (rM:Nat → Int) (rN:Nat → Int) (rC:List Man) (xd:RPic × (Nat → Int)):Tm:=[(0,pt 1000),(65,.bool (qCJ5 r rC))]
def qCJ6_H (r:RPic) (rM:Nat → Int) (rN:Nat → Int) (rC:List Man) (xd:RPic × (Nat → Int)):Heap:=[(1000,(RPic.bl xd.1 (sl 1001 16384 1) (sl 1002 256 1) (sl 1004 (List.length rC) 4) (sl 1003 61440 1) false)),(1001,iB 16384 rM false),(1002,iB 256 rN false),(1003,⟨[.ints .u8 61440 xd.2],5,false⟩),(1004,mB rC false)]
def qCJ6_T1 (r:RPic) (rM:Nat → Int) (rN:Nat → Int) (rC:List Man) (xd:RPic × (Nat → Int)) (r_:RPic × (Nat → Int)):Tm:=[(0,pt 1000)]
def qCJ6_H1 (r:RPic) (rM:Nat → Int) (rN:Nat → Int) (rC:List Man) (xd:RPic × (Nat → Int)) (r_:RPic × (Nat → Int)):Heap:=[(1000,(RPic.bl r_.1 (sl 1001 16384 1) (sl 1002 256 1) (sl 1004 (List.length rC) 4) (sl 1003 61440 1) false)),(1001,iB 16384 rM false),(1002,iB 256 rN false),(1003,⟨[.ints .u8 61440 r_.2],5,false⟩),(1004,mB rC false)]
theorem qCJ6_p1 (r:RPic) (rM:Nat → Int) (rN:Nat → Int) (rC:List Man) (xd:RPic × (Nat → Int)) (v1d:∀ j,rng 256 (rM j)) (v2d:PlaceOk xd.1.S.V) (v3d:0 ≤ xd.1.S.X ∧ xd.1.S.X < 8) (v4d:(qCJ5 r rC) = true → 0 ≤ (i64.wrap (xd.1.Dot - 1)) ∧ (i64.wrap (xd.1.Dot - 1)) < 256) (v5d:(qCJ5 r rC) = true → 0 ≤ xd.1.Line ∧ xd.1.Line < 240) (v6d:∀ c ∈ rC,ManOk c) (v7d:rC.length ≤ 8) (d1:(qCJ5 r rC) = true):Runs Try.prog 244 (bodyOf Try.f58 [1,1,0,1]) (qCJ6_T r rM rN rC xd) (qCJ6_H r rM rN rC xd) 1005 .normal (qCJ6_T1 r rM rN rC xd ((rDrawF xd.1 rM rN xd.2 rC (i64.wrap (xd.1.Dot - 1))).1,(rDrawF xd.1 rM rN xd.2 rC (i64.wrap (xd.1.Dot - 1))).2)) (qCJ6_H1 r rM rN rC xd ((rDrawF xd.1 rM rN xd.2 rC (i64.wrap (xd.1.Dot - 1))).1,(rDrawF xd.1 rM rN xd.2 rC (i64.wrap (xd.1.Dot - 1))).2)) 1005:=by
 exact runs_of_x hG hM 400 [.yes,.call [(1000,1000),(1001,1001),(1002,1002),(1003,1003),(1004,1004)] [] 1005 (.tuple ⟨[]⟩) [(1000,(RPic.bl ((rDrawF xd.1 rM rN xd.2 rC (i64.wrap (xd.1.Dot - 1))).1) (sl 1001 16384 1) (sl 1002 256 1) (sl 1004 (List.length rC) 4) (sl 1003 61440 1) false)),(1001,iB 16384 rM false),(1002,iB 256 rN false),(1003,⟨[.ints .u8 61440 ((rDrawF xd.1 rM rN xd.2 rC (i64.wrap (xd.1.Dot - 1))).2)],5,false⟩),(1004,mB rC false)]] (J d1 (J (rDrawF_ok xd.1 rM rN xd.2 rC (i64.wrap (xd.1.Dot - 1)) v1d v2d v3d (v4d d1) (v5d d1) v6d v7d) trivial)) (by kernel_rfl)
theorem qCJ6_p2 (r:RPic) (rM:Nat → Int) (rN:Nat → Int) (rC:List Man) (xd:RPic × (Nat → Int)) (v1d:∀ j,rng 256 (rM j)) (v2d:PlaceOk xd.1.S.V) (v3d:0 ≤ xd.1.S.X ∧ xd.1.S.X < 8) (v4d:(qCJ5 r rC) = true → 0 ≤ (i64.wrap (xd.1.Dot - 1)) ∧ (i64.wrap (xd.1.Dot - 1)) < 256) (v5d:(qCJ5 r rC) = true → 0 ≤ xd.1.Line ∧ xd.1.Line < 240) (v6d:∀ c ∈ rC,ManOk c) (v7d:rC.length ≤ 8) (d1:(qCJ5 r rC) = false):Runs Try.prog 244 (bodyOf Try.f58 [1,1,0,1]) (qCJ6_T r rM rN rC xd) (qCJ6_H r rM rN rC xd) 1005 .normal (qCJ6_T1 r rM rN rC xd (xd.1,xd.2)) (qCJ6_H1 r rM rN rC xd (xd.1,xd.2)) 1005:=by
 exact runs_of_x hG hM 400 [.no] (J d1 trivial) (by kernel_rfl)
theorem qCJ6_runs (r:RPic) (rM:Nat → Int) (rN:Nat → Int) (rC:List Man) (xd:RPic × (Nat → Int)) (v1d:∀ j,rng 256 (rM j)) (v2d:PlaceOk xd.1.S.V) (v3d:0 ≤ xd.1.S.X ∧ xd.1.S.X < 8) (v4d:(qCJ5 r rC) = true → 0 ≤ (i64.wrap (xd.1.Dot - 1)) ∧ (i64.wrap (xd.1.Dot - 1)) < 256) (v5d:(qCJ5 r rC) = true → 0 ≤ xd.1.Line ∧ xd.1.Line < 240) (v6d:∀ c ∈ rC,ManOk c) (v7d:rC.length ≤ 8):Runs Try.prog 244 (bodyOf Try.f58 [1,1,0,1]) (qCJ6_T r rM rN rC xd) (qCJ6_H r rM rN rC xd) 1005 .normal (qCJ6_T1 r rM rN rC xd (qCJ6 r rM rN rC xd)) (qCJ6_H1 r rM rN rC xd (qCJ6 r rM rN rC xd)) 1005:=by
 rcases bt (qCJ5 r rC) with d1 | d1
 ·
  rw [show qCJ6 r rM rN rC xd = ((rDrawF xd.1 rM rN xd.2 rC (i64.wrap (xd.1.Dot - 1))).1,(rDrawF xd.1 rM rN xd.2 rC (i64.wrap (xd.1.Dot - 1))).2) from by unfold qCJ6;rw [if_pos d1]]
  exact qCJ6_p1 r rM rN rC xd v1d v2d v3d v4d v5d v6d v7d d1
 ·
  rw [show qCJ6 r rM rN rC xd = (xd.1,xd.2) from by unfold qCJ6;rw [if_neg (nt d1)]]
  exact qCJ6_p2 r rM rN rC xd v1d v2d v3d v4d v5d v6d v7d d1
def qCJ7 (r:RPic) (rM:Nat → Int) (rN:Nat → Int) (rS:Nat → Int) (rC:List Man) (xd:Bool):Bool:=
 if xd = true then
  if (decide ((((qCJ6 r rM rN rC ((qCJ4 r rC (qCJ2 r rC r)),rS)).1).Line:Int) < 240)) = true then
   true
  else
   ((((qCJ6 r rM rN rC ((qCJ4 r rC (qCJ2 r rC r)),rS)).1).Line:Int) == 261)
 else
  false
def qCJ7_T (r:RPic) (rM:Nat → Int) (rN:Nat → Int) (rS:Nat → Int) (rC:List Man) (xd:Bool):Tm:=[(0,pt 1000),(2,.bool xd)]
def qCJ7_H (r:RPic) (rM:Nat → Int) (rN:Nat → Int) (rS:Nat → Int) (rC:List Man) (xd:Bool):Heap:=[(1000,(RPic.bl ((qCJ6 r rM rN rC ((qCJ4 r rC (qCJ2 r rC r)),rS)).1) (sl 1001 16384 1) (sl 1002 256 1) (sl 1004 (List.length rC) 4) (sl 1003 61440 1) false))]
def qCJ7_T1 (r:RPic) (rM:Nat → Int) (rN:Nat → Int) (rS:Nat → Int) (rC:List Man) (xd:Bool) (r_:Bool):Tm:=[(0,pt 1000),(2,.bool xd),(94,.bool r_)]
def qCJ7_H1 (r:RPic) (rM:Nat → Int) (rN:Nat → Int) (rS:Nat → Int) (rC:List Man) (xd:Bool) (r_:Bool):Heap:=[(1000,(RPic.bl ((qCJ6 r rM rN rC ((qCJ4 r rC (qCJ2 r rC r)),rS)).1) (sl 1001 16384 1) (sl 1002 256 1) (sl 1004 (List.length rC) 4) (sl 1003 61440 1) false))]
theorem qCJ7_p1 (r:RPic) (rM:Nat → Int) (rN:Nat → Int) (rS:Nat → Int) (rC:List Man) (xd:Bool) (d1:xd = true) (d2:(decide ((((qCJ6 r rM rN rC ((qCJ4 r rC (qCJ2 r rC r)),rS)).1).Line:Int) < 240)) = true):Runs Try.prog 244 (bodyOf Try.f58 [1,1,1,1,0,0]) (qCJ7_T r rM rN rS rC xd) (qCJ7_H r rM rN rS rC xd) 1005 .normal (qCJ7_T1 r rM rN rS rC xd true) (qCJ7_H1 r rM rN rS rC xd true) 1005:=by
 exact runs_of_x hG hM 400 [.yes,.yes,.yes,.yes,.yes,.yes,.yes,.yes,.yes,.yes,.yes,.yes,.yes,.yes] (J d1 (J d1 (J d1 (J d1 (J d1 (J d1 (J d2 (J d2 (J d2 (J d2 (J d2 (J d1 (J d2 (J d1 trivial)))))))))))))) (by kernel_rfl)
theorem qCJ7_p2 (r:RPic) (rM:Nat → Int) (rN:Nat → Int) (rS:Nat → Int) (rC:List Man) (xd:Bool) (d1:xd = true) (d2:(decide ((((qCJ6 r rM rN rC ((qCJ4 r rC (qCJ2 r rC r)),rS)).1).Line:Int) < 240)) = false):Runs Try.prog 244 (bodyOf Try.f58 [1,1,1,1,0,0]) (qCJ7_T r rM rN rS rC xd) (qCJ7_H r rM rN rS rC xd) 1005 .normal (qCJ7_T1 r rM rN rS rC xd ((((qCJ6 r rM rN rC ((qCJ4 r rC (qCJ2 r rC r)),rS)).1).Line:Int) == 261)) (qCJ7_H1 r rM rN rS rC xd ((((qCJ6 r rM rN rC ((qCJ4 r rC (qCJ2 r rC r)),rS)).1).Line:Int) == 261)) 1005:=by
 exact runs_of_x hG hM 400 [.yes,.yes,.yes,.yes,.yes,.yes,.no,.no,.no,.no,.no,.yes,.no,.yes] (J d1 (J d1 (J d1 (J d1 (J d1 (J d1 (J d2 (J d2 (J d2 (J d2 (J d2 (J d1 (J d2 (J d1 trivial)))))))))))))) (by kernel_rfl)
theorem qCJ7_p3 (r:RPic) (rM:Nat → Int) (rN:Nat → Int) (rS:Nat → Int) (rC:List Man) (xd:Bool) (d1:xd = false):Runs Try.prog 244 (bodyOf Try.f58 [1,1,1,1,0,0]) (qCJ7_T r rM rN rS rC xd) (qCJ7_H r rM rN rS rC xd) 1005 .normal (qCJ7_T1 r rM rN rS rC xd false) (qCJ7_H1 r rM rN rS rC xd false) 1005:=by
 exact runs_of_x hG hM 400 [.no,.no,.no,.no,.no,.no,.no,.no] (J d1 (J d1 (J d1 (J d1 (J d1 (J d1 (J d1 (J d1 trivial)))))))) (by kernel_rfl)
theorem qCJ7_runs (r:RPic) (rM:Nat → Int) (rN:Nat → Int) (rS:Nat → Int) (rC:List Man) (xd:Bool):Runs Try.prog 244 (bodyOf Try.f58 [1,1,1,1,0,0]) (qCJ7_T r rM rN rS rC xd) (qCJ7_H r rM rN rS rC xd) 1005 .normal (qCJ7_T1 r rM rN rS rC xd (qCJ7 r rM rN rS rC xd)) (qCJ7_H1 r rM rN rS rC xd (qCJ7 r rM rN rS rC xd)) 1005:=by
 rcases bt xd with d1 | d1
 ·
  rcases bt (decide ((((qCJ6 r rM rN rC ((NIk6 r rC),rS)).1).Line:Int) < 240)) with d2 | d2
  ·
   rw [show qCJ7 r rM rN rS rC xd = true from by unfold qCJ7;rw [if_pos d1,if_pos d2]]
   exact qCJ7_p1 r rM rN rS rC xd d1 d2
  ·
   rw [show qCJ7 r rM rN rS rC xd = ((((qCJ6 r rM rN rC ((NIk6 r rC),rS)).1).Line:Int) == 261) from by unfold qCJ7;rw [if_pos d1,if_neg (nt d2)]]
   exact qCJ7_p2 r rM rN rS rC xd d1 d2
 ·
  rw [show qCJ7 r rM rN rS rC xd = false from by unfold qCJ7;rw [if_neg (nt d1)]]
  exact qCJ7_p3 r rM rN rS rC xd d1
def qCJ9y (rC:List Man) (xd:RPic × Bool × Bool):Bool:=
 if (decide (xd.1.Dot > 0)) = true then
  if (decide (xd.1.Dot < 256)) = true then
   ((Int.tmod xd.1.Dot 8) == 0)
  else
   false
 else
  false
def qCJ9y_T (rC:List Man) (xd:RPic × Bool × Bool):Tm:=[(0,pt 1000),(2,.bool xd.2.1)]
def qCJ9y_H (rC:List Man) (xd:RPic × Bool × Bool):Heap:=[(1000,(RPic.bl xd.1 (sl 1001 16384 1) (sl 1002 256 1) (sl 1004 (List.length rC) 4) (sl 1003 61440 1) false))]
def qCJ9y_T1 (rC:List Man) (xd:RPic × Bool × Bool) (r_:Bool):Tm:=[(0,pt 1000),(2,.bool xd.2.1),(114,.bool r_)]
def qCJ9y_H1 (rC:List Man) (xd:RPic × Bool × Bool) (r_:Bool):Heap:=[(1000,(RPic.bl xd.1 (sl 1001 16384 1) (sl 1002 256 1) (sl 1004 (List.length rC) 4) (sl 1003 61440 1) false))]
theorem qCJ9y_p1 (rC:List Man) (xd:RPic × Bool × Bool) (e1:(decide (xd.1.Dot > 0)) = true) (e2:(decide (xd.1.Dot < 256)) = true):Runs Try.prog 244 (bodyOf Try.f58 [1,1,1,1,0,1,0,0,0]) (qCJ9y_T rC xd) (qCJ9y_H rC xd) 1005 .normal (qCJ9y_T1 rC xd ((Int.tmod xd.1.Dot 8) == 0)) (qCJ9y_H1 rC xd ((Int.tmod xd.1.Dot 8) == 0)) 1005:=by
 exact runs_of_x hG hM 400 [.yes,.yes,.yes,.yes,.yes,.yes,.yes,.yes,.yes,.yes,.yes,.yes,.yes] (J e1 (J e1 (J e1 (J e1 (J e1 (J e1 (J e2 (J e2 (J e2 (J e2 (J e2 (J (by decide:((8:Int) ≠ 0)) (J e2 (J e2 trivial)))))))))))))) (by kernel_rfl)
theorem qCJ9y_p2 (rC:List Man) (xd:RPic × Bool × Bool) (e1:(decide (xd.1.Dot > 0)) = true) (e2:(decide (xd.1.Dot < 256)) = false):Runs Try.prog 244 (bodyOf Try.f58 [1,1,1,1,0,1,0,0,0]) (qCJ9y_T rC xd) (qCJ9y_H rC xd) 1005 .normal (qCJ9y_T1 rC xd false) (qCJ9y_H1 rC xd false) 1005:=by
 exact runs_of_x hG hM 400 [.yes,.yes,.yes,.yes,.yes,.yes,.no,.no,.no,.no,.no,.no,.no] (J e1 (J e1 (J e1 (J e1 (J e1 (J e1 (J e2 (J e2 (J e2 (J e2 (J e2 (J e2 (J e2 trivial))))))))))))) (by kernel_rfl)
theorem qCJ9y_p3 (rC:List Man) (xd:RPic × Bool × Bool) (e1:(decide (xd.1.Dot > 0)) = false):Runs Try.prog 244 (bodyOf Try.f58 [1,1,1,1,0,1,0,0,0]) (qCJ9y_T rC xd) (qCJ9y_H rC xd) 1005 .normal (qCJ9y_T1 rC xd false) (qCJ9y_H1 rC xd false) 1005:=by
 exact runs_of_x hG hM 400 [.no,.no,.no,.no,.no,.no,.no,.no,.no,.no,.no,.no,.no] (J e1 (J e1 (J e1 (J e1 (J e1 (J e1 (J T0 (J T0 (J T0 (J T0 (J T0 (J T0 (J T0 trivial))))))))))))) (by kernel_rfl)
theorem qCJ9y_runs (rC:List Man) (xd:RPic × Bool × Bool):Runs Try.prog 244 (bodyOf Try.f58 [1,1,1,1,0,1,0,0,0]) (qCJ9y_T rC xd) (qCJ9y_H rC xd) 1005 .normal (qCJ9y_T1 rC xd (qCJ9y rC xd)) (qCJ9y_H1 rC xd (qCJ9y rC xd)) 1005:=by
 rcases bt (decide (xd.1.Dot > 0)) with e1 | e1
 ·
  rcases bt (decide (xd.1.Dot < 256)) with e2 | e2
  ·
   rw [show qCJ9y rC xd = ((Int.tmod xd.1.Dot 8) == 0) from by unfold qCJ9y;rw [if_pos e1,if_pos e2]]
   exact qCJ9y_p1 rC xd e1 e2
  ·
   rw [show qCJ9y rC xd = false from by unfold qCJ9y;rw [if_pos e1,if_neg (nt e2)]]
   exact qCJ9y_p2 rC xd e1 e2
 ·
  rw [show qCJ9y rC xd = false from by unfold qCJ9y;rw [if_neg (nt e1)]]
  exact qCJ9y_p3 rC xd e1
def qCJ10y (rC:List Man) (xd:RPic × Bool × Bool) (xe:RPic):RPic:=
 if (qCJ9y rC xd) = true then
  ({ xe with S:=(rRight xe.S) }:RPic)
 else
  xe
def qCJ10y_T (rC:List Man) (xd:RPic × Bool × Bool) (xe:RPic):Tm:=[(0,pt 1000),(2,.bool xd.2.1),(114,.bool (qCJ9y rC xd))]
def qCJ10y_H (rC:List Man) (xd:RPic × Bool × Bool) (xe:RPic):Heap:=[(1000,(RPic.bl xe (sl 1001 16384 1) (sl 1002 256 1) (sl 1004 (List.length rC) 4) (sl 1003 61440 1) false))]
def qCJ10y_T1 (rC:List Man) (xd:RPic × Bool × Bool) (xe:RPic) (r_:RPic):Tm:=[(0,pt 1000),(2,.bool xd.2.1)]
def qCJ10y_H1 (rC:List Man) (xd:RPic × Bool × Bool) (xe:RPic) (r_:RPic):Heap:=[(1000,(RPic.bl r_ (sl 1001 16384 1) (sl 1002 256 1) (sl 1004 (List.length rC) 4) (sl 1003 61440 1) false))]
theorem qCJ10y_p1 (rC:List Man) (xd:RPic × Bool × Bool) (xe:RPic) (e1:(qCJ9y rC xd) = true):Runs Try.prog 244 (bodyOf Try.f58 [1,1,1,1,0,1,0,0,1]) (qCJ10y_T rC xd xe) (qCJ10y_H rC xd xe) 1005 .normal (qCJ10y_T1 rC xd xe ({ xe with S:=(rRight xe.S) }:RPic)) (qCJ10y_H1 rC xd xe ({ xe with S:=(rRight xe.S) }:RPic)) 1005:=by
 exact runs_of_x hG hM 400 [.yes,.call [] [] 1000 (RScroll.enc (rRight xe.S)) []] (J e1 (J (rRight_ok xe.S) trivial)) (by kernel_rfl)
theorem qCJ10y_p2 (rC:List Man) (xd:RPic × Bool × Bool) (xe:RPic) (e1:(qCJ9y rC xd) = false):Runs Try.prog 244 (bodyOf Try.f58 [1,1,1,1,0,1,0,0,1]) (qCJ10y_T rC xd xe) (qCJ10y_H rC xd xe) 1005 .normal (qCJ10y_T1 rC xd xe xe) (qCJ10y_H1 rC xd xe xe) 1005:=by
 exact runs_of_x hG hM 400 [.no] (J e1 trivial) (by kernel_rfl)
theorem qCJ10y_runs (rC:List Man) (xd:RPic × Bool × Bool) (xe:RPic):Runs Try.prog 244 (bodyOf Try.f58 [1,1,1,1,0,1,0,0,1]) (qCJ10y_T rC xd xe) (qCJ10y_H rC xd xe) 1005 .normal (qCJ10y_T1 rC xd xe (qCJ10y rC xd xe)) (qCJ10y_H1 rC xd xe (qCJ10y rC xd xe)) 1005:=by
 rcases bt (qCJ9y rC xd) with e1 | e1
 ·
  rw [show qCJ10y rC xd xe = ({ xe with S:=(rRight xe.S) }:RPic) from by unfold qCJ10y;rw [if_pos e1]]
  exact qCJ10y_p1 rC xd xe e1
 ·
  rw [show qCJ10y rC xd xe = xe from by unfold qCJ10y;rw [if_neg (nt e1)]]
  exact qCJ10y_p2 rC xd xe e1
def qCJ11y (rC:List Man) (xd:RPic × Bool × Bool) (xe:RPic × Bool):RPic:=
 if xe.2 = true then
  ({ xe.1 with S:=(rDown xe.1.S) }:RPic)
 else
  xe.1
def qCJ11y_T (rC:List Man) (xd:RPic × Bool × Bool) (xe:RPic × Bool):Tm:=[(0,pt 1000),(2,.bool xd.2.1),(127,.bool xe.2)]
def qCJ11y_H (rC:List Man) (xd:RPic × Bool × Bool) (xe:RPic × Bool):Heap:=[(1000,(RPic.bl xe.1 (sl 1001 16384 1) (sl 1002 256 1) (sl 1004 (List.length rC) 4) (sl 1003 61440 1) false))]
def qCJ11y_T1 (rC:List Man) (xd:RPic × Bool × Bool) (xe:RPic × Bool) (r_:RPic):Tm:=[(0,pt 1000),(2,.bool xd.2.1)]
def qCJ11y_H1 (rC:List Man) (xd:RPic × Bool × Bool) (xe:RPic × Bool) (r_:RPic):Heap:=[(1000,(RPic.bl r_ (sl 1001 16384 1) (sl 1002 256 1) (sl 1004 (List.length rC) 4) (sl 1003 61440 1) false))]
theorem qCJ11y_p1 (rC:List Man) (xd:RPic × Bool × Bool) (xe:RPic × Bool) (e1:xe.2 = true):Runs Try.prog 244 (bodyOf Try.f58 [1,1,1,1,0,1,0,1,0,1]) (qCJ11y_T rC xd xe) (qCJ11y_H rC xd xe) 1005 .normal (qCJ11y_T1 rC xd xe ({ xe.1 with S:=(rDown xe.1.S) }:RPic)) (qCJ11y_H1 rC xd xe ({ xe.1 with S:=(rDown xe.1.S) }:RPic)) 1005:=by
 exact runs_of_x hG hM 400 [.yes,.call [] [] 1000 (RScroll.enc (rDown xe.1.S)) []] (J e1 (J (rDown_ok xe.1.S) trivial)) (by kernel_rfl)
theorem qCJ11y_p2 (rC:List Man) (xd:RPic × Bool × Bool) (xe:RPic × Bool) (e1:xe.2 = false):Runs Try.prog 244 (bodyOf Try.f58 [1,1,1,1,0,1,0,1,0,1]) (qCJ11y_T rC xd xe) (qCJ11y_H rC xd xe) 1005 .normal (qCJ11y_T1 rC xd xe xe.1) (qCJ11y_H1 rC xd xe xe.1) 1005:=by
 exact runs_of_x hG hM 400 [.no] (J e1 trivial) (by kernel_rfl)
theorem qCJ11y_runs (rC:List Man) (xd:RPic × Bool × Bool) (xe:RPic × Bool):Runs Try.prog 244 (bodyOf Try.f58 [1,1,1,1,0,1,0,1,0,1]) (qCJ11y_T rC xd xe) (qCJ11y_H rC xd xe) 1005 .normal (qCJ11y_T1 rC xd xe (qCJ11y rC xd xe)) (qCJ11y_H1 rC xd xe (qCJ11y rC xd xe)) 1005:=by
 rcases bt xe.2 with e1 | e1
 ·
  rw [show qCJ11y rC xd xe = ({ xe.1 with S:=(rDown xe.1.S) }:RPic) from by unfold qCJ11y;rw [if_pos e1]]
  exact qCJ11y_p1 rC xd xe e1
 ·
  rw [show qCJ11y rC xd xe = xe.1 from by unfold qCJ11y;rw [if_neg (nt e1)]]
  exact qCJ11y_p2 rC xd xe e1
def qCJ12y (rC:List Man) (xd:RPic × Bool × Bool) (xe:RPic × Bool):RPic:=
 if xe.2 = true then
  ({ xe.1 with S:=(rLine xe.1.S) }:RPic)
 else
  xe.1
def qCJ12y_T (rC:List Man) (xd:RPic × Bool × Bool) (xe:RPic × Bool):Tm:=[(0,pt 1000),(2,.bool xd.2.1),(140,.bool xe.2)]
def qCJ12y_H (rC:List Man) (xd:RPic × Bool × Bool) (xe:RPic × Bool):Heap:=[(1000,(RPic.bl xe.1 (sl 1001 16384 1) (sl 1002 256 1) (sl 1004 (List.length rC) 4) (sl 1003 61440 1) false))]
def qCJ12y_T1 (rC:List Man) (xd:RPic × Bool × Bool) (xe:RPic × Bool) (r_:RPic):Tm:=[(0,pt 1000),(2,.bool xd.2.1)]
def qCJ12y_H1 (rC:List Man) (xd:RPic × Bool × Bool) (xe:RPic × Bool) (r_:RPic):Heap:=[(1000,(RPic.bl r_ (sl 1001 16384 1) (sl 1002 256 1) (sl 1004 (List.length rC) 4) (sl 1003 61440 1) false))]
theorem qCJ12y_p1 (rC:List Man) (xd:RPic × Bool × Bool) (xe:RPic × Bool) (e1:xe.2 = true):Runs Try.prog 244 (bodyOf Try.f58 [1,1,1,1,0,1,0,1,1,0,1]) (qCJ12y_T rC xd xe) (qCJ12y_H rC xd xe) 1005 .normal (qCJ12y_T1 rC xd xe ({ xe.1 with S:=(rLine xe.1.S) }:RPic)) (qCJ12y_H1 rC xd xe ({ xe.1 with S:=(rLine xe.1.S) }:RPic)) 1005:=by
 exact runs_of_x hG hM 400 [.yes,.call [] [] 1000 (RScroll.enc (rLine xe.1.S)) []] (J e1 (J (rLine_ok xe.1.S) trivial)) (by kernel_rfl)
theorem qCJ12y_p2 (rC:List Man) (xd:RPic × Bool × Bool) (xe:RPic × Bool) (e1:xe.2 = false):Runs Try.prog 244 (bodyOf Try.f58 [1,1,1,1,0,1,0,1,1,0,1]) (qCJ12y_T rC xd xe) (qCJ12y_H rC xd xe) 1005 .normal (qCJ12y_T1 rC xd xe xe.1) (qCJ12y_H1 rC xd xe xe.1) 1005:=by
 exact runs_of_x hG hM 400 [.no] (J e1 trivial) (by kernel_rfl)
theorem qCJ12y_runs (rC:List Man) (xd:RPic × Bool × Bool) (xe:RPic × Bool):Runs Try.prog 244 (bodyOf Try.f58 [1,1,1,1,0,1,0,1,1,0,1]) (qCJ12y_T rC xd xe) (qCJ12y_H rC xd xe) 1005 .normal (qCJ12y_T1 rC xd xe (qCJ12y rC xd xe)) (qCJ12y_H1 rC xd xe (qCJ12y rC xd xe)) 1005:=by
 rcases bt xe.2 with e1 | e1
 ·
  rw [show qCJ12y rC xd xe = ({ xe.1 with S:=(rLine xe.1.S) }:RPic) from by unfold qCJ12y;rw [if_pos e1]]
  exact qCJ12y_p1 rC xd xe e1
 ·
  rw [show qCJ12y rC xd xe = xe.1 from by unfold qCJ12y;rw [if_neg (nt e1)]]
  exact qCJ12y_p2 rC xd xe e1
def qCJ13y (rC:List Man) (xd:RPic × Bool × Bool):Bool:=
 if (((qCJ12y rC xd ((qCJ11y rC xd ((qCJ10y rC xd xd.1),(((qCJ10y rC xd xd.1).Dot:Int) == 256))),(((qCJ11y rC xd ((qCJ10y rC xd xd.1),(((qCJ10y rC xd xd.1).Dot:Int) == 256))).Dot:Int) == 257))).Line:Int) == 261) = true then
  if (decide (((qCJ12y rC xd ((qCJ11y rC xd ((qCJ10y rC xd xd.1),(((qCJ10y rC xd xd.1).Dot:Int) == 256))),(((qCJ11y rC xd ((qCJ10y rC xd xd.1),(((qCJ10y rC xd xd.1).Dot:Int) == 256))).Dot:Int) == 257))).Dot:Int) > 279)) = true then
   (decide (((qCJ12y rC xd ((qCJ11y rC xd ((qCJ10y rC xd xd.1),(((qCJ10y rC xd xd.1).Dot:Int) == 256))),(((qCJ11y rC xd ((qCJ10y rC xd xd.1),(((qCJ10y rC xd xd.1).Dot:Int) == 256))).Dot:Int) == 257))).Dot:Int) < 305))
  else
   false
 else
  false
def qCJ13y_T (rC:List Man) (xd:RPic × Bool × Bool):Tm:=[(0,pt 1000),(2,.bool xd.2.1)]
def qCJ13y_H (rC:List Man) (xd:RPic × Bool × Bool):Heap:=[(1000,(RPic.bl (qCJ12y rC xd ((qCJ11y rC xd ((qCJ10y rC xd xd.1),(((qCJ10y rC xd xd.1).Dot:Int) == 256))),(((qCJ11y rC xd ((qCJ10y rC xd xd.1),(((qCJ10y rC xd xd.1).Dot:Int) == 256))).Dot:Int) == 257))) (sl 1001 16384 1) (sl 1002 256 1) (sl 1004 (List.length rC) 4) (sl 1003 61440 1) false))]
def qCJ13y_T1 (rC:List Man) (xd:RPic × Bool × Bool) (r_:Bool):Tm:=[(0,pt 1000),(2,.bool xd.2.1),(167,.bool r_)]
def qCJ13y_H1 (rC:List Man) (xd:RPic × Bool × Bool) (r_:Bool):Heap:=[(1000,(RPic.bl (qCJ12y rC xd ((qCJ11y rC xd ((qCJ10y rC xd xd.1),(((qCJ10y rC xd xd.1).Dot:Int) == 256))),(((qCJ11y rC xd ((qCJ10y rC xd xd.1),(((qCJ10y rC xd xd.1).Dot:Int) == 256))).Dot:Int) == 257))) (sl 1001 16384 1) (sl 1002 256 1) (sl 1004 (List.length rC) 4) (sl 1003 61440 1) false))]
theorem qCJ13y_p1 (rC:List Man) (xd:RPic × Bool × Bool) (e1:(((qCJ12y rC xd ((qCJ11y rC xd ((qCJ10y rC xd xd.1),(((qCJ10y rC xd xd.1).Dot:Int) == 256))),(((qCJ11y rC xd ((qCJ10y rC xd xd.1),(((qCJ10y rC xd xd.1).Dot:Int) == 256))).Dot:Int) == 257))).Line:Int) == 261) = true) (e2:(decide (((qCJ12y rC xd ((qCJ11y rC xd ((qCJ10y rC xd xd.1),(((qCJ10y rC xd xd.1).Dot:Int) == 256))),(((qCJ11y rC xd ((qCJ10y rC xd xd.1),(((qCJ10y rC xd xd.1).Dot:Int) == 256))).Dot:Int) == 257))).Dot:Int) > 279)) = true):Runs Try.prog 244 (bodyOf Try.f58 [1,1,1,1,0,1,0,1,1,1,0]) (qCJ13y_T rC xd) (qCJ13y_H rC xd) 1005 .normal (qCJ13y_T1 rC xd (decide (((qCJ12y rC xd ((qCJ11y rC xd ((qCJ10y rC xd xd.1),(((qCJ10y rC xd xd.1).Dot:Int) == 256))),(((qCJ11y rC xd ((qCJ10y rC xd xd.1),(((qCJ10y rC xd xd.1).Dot:Int) == 256))).Dot:Int) == 257))).Dot:Int) < 305))) (qCJ13y_H1 rC xd (decide (((qCJ12y rC xd ((qCJ11y rC xd ((qCJ10y rC xd xd.1),(((qCJ10y rC xd xd.1).Dot:Int) == 256))),(((qCJ11y rC xd ((qCJ10y rC xd xd.1),(((qCJ10y rC xd xd.1).Dot:Int) == 256))).Dot:Int) == 257))).Dot:Int) < 305))) 1005:=by
 exact runs_of_x hG hM 400 [.yes,.yes,.yes,.yes,.yes,.yes,.yes,.yes,.yes,.yes,.yes,.yes] (J e1 (J e1 (J e1 (J e1 (J e1 (J e1 (J e2 (J e2 (J e2 (J e2 (J e2 (J e2 trivial)))))))))))) (by kernel_rfl)
theorem qCJ13y_p2 (rC:List Man) (xd:RPic × Bool × Bool) (e1:(((qCJ12y rC xd ((qCJ11y rC xd ((qCJ10y rC xd xd.1),(((qCJ10y rC xd xd.1).Dot:Int) == 256))),(((qCJ11y rC xd ((qCJ10y rC xd xd.1),(((qCJ10y rC xd xd.1).Dot:Int) == 256))).Dot:Int) == 257))).Line:Int) == 261) = true) (e2:(decide (((qCJ12y rC xd ((qCJ11y rC xd ((qCJ10y rC xd xd.1),(((qCJ10y rC xd xd.1).Dot:Int) == 256))),(((qCJ11y rC xd ((qCJ10y rC xd xd.1),(((qCJ10y rC xd xd.1).Dot:Int) == 256))).Dot:Int) == 257))).Dot:Int) > 279)) = false):Runs Try.prog 244 (bodyOf Try.f58 [1,1,1,1,0,1,0,1,1,1,0]) (qCJ13y_T rC xd) (qCJ13y_H rC xd) 1005 .normal (qCJ13y_T1 rC xd false) (qCJ13y_H1 rC xd false) 1005:=by
 exact runs_of_x hG hM 400 [.yes,.yes,.yes,.yes,.yes,.yes,.no,.no,.no,.no,.no,.no] (J e1 (J e1 (J e1 (J e1 (J e1 (J e1 (J e2 (J e2 (J e2 (J e2 (J e2 (J e2 trivial)))))))))))) (by kernel_rfl)
theorem qCJ13y_p3 (rC:List Man) (xd:RPic × Bool × Bool) (e1:(((qCJ12y rC xd ((qCJ11y rC xd ((qCJ10y rC xd xd.1),(((qCJ10y rC xd xd.1).Dot:Int) == 256))),(((qCJ11y rC xd ((qCJ10y rC xd xd.1),(((qCJ10y rC xd xd.1).Dot:Int) == 256))).Dot:Int) == 257))).Line:Int) == 261) = false):Runs Try.prog 244 (bodyOf Try.f58 [1,1,1,1,0,1,0,1,1,1,0]) (qCJ13y_T rC xd) (qCJ13y_H rC xd) 1005 .normal (qCJ13y_T1 rC xd false) (qCJ13y_H1 rC xd false) 1005:=by
 exact runs_of_x hG hM 400 [.no,.no,.no,.no,.no,.no,.no,.no,.no,.no,.no,.no] (J e1 (J e1 (J e1 (J e1 (J e1 (J e1 (J T0 (J T0 (J T0 (J T0 (J T0 (J T0 trivial)))))))))))) (by kernel_rfl)
abbrev NIk7 (rC:List Man) (xd:RPic × Bool × Bool):=((qCJ10y rC xd xd.1),(((qCJ10y rC xd xd.1).Dot:Int) == 256))
abbrev NIk2 (rC:List Man) (xd:RPic × Bool × Bool):=((qCJ11y rC xd (NIk7 rC xd)),(((qCJ11y rC xd (NIk7 rC xd)).Dot:Int) == 257))
theorem qCJ13y_runs (rC:List Man) (xd:RPic × Bool × Bool):Runs Try.prog 244 (bodyOf Try.f58 [1,1,1,1,0,1,0,1,1,1,0]) (qCJ13y_T rC xd) (qCJ13y_H rC xd) 1005 .normal (qCJ13y_T1 rC xd (qCJ13y rC xd)) (qCJ13y_H1 rC xd (qCJ13y rC xd)) 1005:=by
 rcases bt (((qCJ12y rC xd (NIk2 rC xd)).Line:Int) == 261) with e1 | e1
 ·
  rcases bt (decide (((qCJ12y rC xd (NIk2 rC xd)).Dot:Int) > 279)) with e2 | e2
  ·
   rw [show qCJ13y rC xd = (decide (((qCJ12y rC xd (NIk2 rC xd)).Dot:Int) < 305)) from by unfold qCJ13y;rw [if_pos e1,if_pos e2]]
   exact qCJ13y_p1 rC xd e1 e2
  ·
   rw [show qCJ13y rC xd = false from by unfold qCJ13y;rw [if_pos e1,if_neg (nt e2)]]
   exact qCJ13y_p2 rC xd e1 e2
 ·
  rw [show qCJ13y rC xd = false from by unfold qCJ13y;rw [if_neg (nt e1)]]
  exact qCJ13y_p3 rC xd e1
def qCJ14y (rC:List Man) (xd:RPic × Bool × Bool) (xe:RPic):RPic:=
 if (qCJ13y rC xd) = true then
  ({ xe with S:=(rTop xe.S) }:RPic)
 else
  xe
def qCJ14y_T (rC:List Man) (xd:RPic × Bool × Bool) (xe:RPic):Tm:=[(0,pt 1000),(2,.bool xd.2.1),(167,.bool (qCJ13y rC xd))]
def qCJ14y_H (rC:List Man) (xd:RPic × Bool × Bool) (xe:RPic):Heap:=[(1000,(RPic.bl xe (sl 1001 16384 1) (sl 1002 256 1) (sl 1004 (List.length rC) 4) (sl 1003 61440 1) false))]
def qCJ14y_T1 (rC:List Man) (xd:RPic × Bool × Bool) (xe:RPic) (r_:RPic):Tm:=[(0,pt 1000),(2,.bool xd.2.1)]
def qCJ14y_H1 (rC:List Man) (xd:RPic × Bool × Bool) (xe:RPic) (r_:RPic):Heap:=[(1000,(RPic.bl r_ (sl 1001 16384 1) (sl 1002 256 1) (sl 1004 (List.length rC) 4) (sl 1003 61440 1) false))]
theorem qCJ14y_p1 (rC:List Man) (xd:RPic × Bool × Bool) (xe:RPic) (e1:(qCJ13y rC xd) = true):Runs Try.prog 244 (bodyOf Try.f58 [1,1,1,1,0,1,0,1,1,1,1]) (qCJ14y_T rC xd xe) (qCJ14y_H rC xd xe) 1005 .normal (qCJ14y_T1 rC xd xe ({ xe with S:=(rTop xe.S) }:RPic)) (qCJ14y_H1 rC xd xe ({ xe with S:=(rTop xe.S) }:RPic)) 1005:=by
 exact runs_of_x hG hM 400 [.yes,.call [] [] 1000 (RScroll.enc (rTop xe.S)) []] (J e1 (J (rTop_ok xe.S) trivial)) (by kernel_rfl)
theorem qCJ14y_p2 (rC:List Man) (xd:RPic × Bool × Bool) (xe:RPic) (e1:(qCJ13y rC xd) = false):Runs Try.prog 244 (bodyOf Try.f58 [1,1,1,1,0,1,0,1,1,1,1]) (qCJ14y_T rC xd xe) (qCJ14y_H rC xd xe) 1005 .normal (qCJ14y_T1 rC xd xe xe) (qCJ14y_H1 rC xd xe xe) 1005:=by
 exact runs_of_x hG hM 400 [.no] (J e1 trivial) (by kernel_rfl)
theorem qCJ14y_runs (rC:List Man) (xd:RPic × Bool × Bool) (xe:RPic):Runs Try.prog 244 (bodyOf Try.f58 [1,1,1,1,0,1,0,1,1,1,1]) (qCJ14y_T rC xd xe) (qCJ14y_H rC xd xe) 1005 .normal (qCJ14y_T1 rC xd xe (qCJ14y rC xd xe)) (qCJ14y_H1 rC xd xe (qCJ14y rC xd xe)) 1005:=by
 rcases bt (qCJ13y rC xd) with e1 | e1
 ·
  rw [show qCJ14y rC xd xe = ({ xe with S:=(rTop xe.S) }:RPic) from by unfold qCJ14y;rw [if_pos e1]]
  exact qCJ14y_p1 rC xd xe e1
 ·
  rw [show qCJ14y rC xd xe = xe from by unfold qCJ14y;rw [if_neg (nt e1)]]
  exact qCJ14y_p2 rC xd xe e1
def qCJ8 (rC:List Man) (xd:RPic × Bool × Bool):RPic:=
 if xd.2.2 = true then
  (qCJ14y rC xd (qCJ12y rC xd ((qCJ11y rC xd ((qCJ10y rC xd xd.1),(((qCJ10y rC xd xd.1).Dot:Int) == 256))),(((qCJ11y rC xd ((qCJ10y rC xd xd.1),(((qCJ10y rC xd xd.1).Dot:Int) == 256))).Dot:Int) == 257))))
 else
  xd.1
def qCJ8_T (rC:List Man) (xd:RPic × Bool × Bool):Tm:=[(0,pt 1000),(2,.bool xd.2.1),(94,.bool xd.2.2)]
def qCJ8_H (rC:List Man) (xd:RPic × Bool × Bool):Heap:=[(1000,(RPic.bl xd.1 (sl 1001 16384 1) (sl 1002 256 1) (sl 1004 (List.length rC) 4) (sl 1003 61440 1) false))]
def qCJ8_T1 (rC:List Man) (xd:RPic × Bool × Bool) (r_:RPic):Tm:=[(0,pt 1000),(2,.bool xd.2.1)]
def qCJ8_H1 (rC:List Man) (xd:RPic × Bool × Bool) (r_:RPic):Heap:=[(1000,(RPic.bl r_ (sl 1001 16384 1) (sl 1002 256 1) (sl 1004 (List.length rC) 4) (sl 1003 61440 1) false))]
theorem qCJ8_p1 (rC:List Man) (xd:RPic × Bool × Bool) (d1:xd.2.2 = true):Runs Try.prog 244 (bodyOf Try.f58 [1,1,1,1,0,1]) (qCJ8_T rC xd) (qCJ8_H rC xd) 1005 .normal (qCJ8_T1 rC xd (qCJ14y rC xd (qCJ12y rC xd ((qCJ11y rC xd ((qCJ10y rC xd xd.1),(((qCJ10y rC xd xd.1).Dot:Int) == 256))),(((qCJ11y rC xd ((qCJ10y rC xd xd.1),(((qCJ10y rC xd xd.1).Dot:Int) == 256))).Dot:Int) == 257))))) (qCJ8_H1 rC xd (qCJ14y rC xd (qCJ12y rC xd ((qCJ11y rC xd ((qCJ10y rC xd xd.1),(((qCJ10y rC xd xd.1).Dot:Int) == 256))),(((qCJ11y rC xd ((qCJ10y rC xd xd.1),(((qCJ10y rC xd xd.1).Dot:Int) == 256))).Dot:Int) == 257))))) 1005:=by
 exact runs_of_x hG hM 400 [.yes,.segk 0 9 [0,2] [1000] .normal (qCJ9y_T1 rC xd (qCJ9y rC xd)) (qCJ9y_H1 rC xd (qCJ9y rC xd)) 1005,.segk 2 0 [0,2,114] [1000] .normal (qCJ10y_T1 rC xd xd.1 (qCJ10y rC xd xd.1)) (qCJ10y_H1 rC xd xd.1 (qCJ10y rC xd xd.1)) 1005,.segk 2 0 [0,2,127] [1000] .normal (qCJ11y_T1 rC xd (NIk7 rC xd) (qCJ11y rC xd (NIk7 rC xd))) (qCJ11y_H1 rC xd (NIk7 rC xd) (qCJ11y rC xd (NIk7 rC xd))) 1005,.segk 2 0 [0,2,140] [1000] .normal (qCJ12y_T1 rC xd (NIk2 rC xd) (qCJ12y rC xd (NIk2 rC xd))) (qCJ12y_H1 rC xd (NIk2 rC xd) (qCJ12y rC xd (NIk2 rC xd))) 1005,.segk 0 15 [0,2] [1000] .normal (qCJ13y_T1 rC xd (qCJ13y rC xd)) (qCJ13y_H1 rC xd (qCJ13y rC xd)) 1005,.segk 2 0 [0,2,167] [1000] .normal (qCJ14y_T1 rC xd (qCJ12y rC xd (NIk2 rC xd)) (qCJ14y rC xd (qCJ12y rC xd (NIk2 rC xd)))) (qCJ14y_H1 rC xd (qCJ12y rC xd (NIk2 rC xd)) (qCJ14y rC xd (qCJ12y rC xd (NIk2 rC xd)))) 1005] (J d1 (J (qCJ9y_runs rC xd) (J (qCJ10y_runs rC xd xd.1) (J (qCJ11y_runs rC xd (NIk7 rC xd)) (J (qCJ12y_runs rC xd (NIk2 rC xd)) (J (qCJ13y_runs rC xd) (J (qCJ14y_runs rC xd (qCJ12y rC xd (NIk2 rC xd))) trivial))))))) (by kernel_rfl)
theorem qCJ8_p2 (rC:List Man) (xd:RPic × Bool × Bool) (d1:xd.2.2 = false):Runs Try.prog 244 (bodyOf Try.f58 [1,1,1,1,0,1]) (qCJ8_T rC xd) (qCJ8_H rC xd) 1005 .normal (qCJ8_T1 rC xd xd.1) (qCJ8_H1 rC xd xd.1) 1005:=by
 exact runs_of_x hG hM 400 [.no] (J d1 trivial) (by kernel_rfl)
theorem qCJ8_runs (rC:List Man) (xd:RPic × Bool × Bool):Runs Try.prog 244 (bodyOf Try.f58 [1,1,1,1,0,1]) (qCJ8_T rC xd) (qCJ8_H rC xd) 1005 .normal (qCJ8_T1 rC xd (qCJ8 rC xd)) (qCJ8_H1 rC xd (qCJ8 rC xd)) 1005:=by
 rcases bt xd.2.2 with d1 | d1
 ·
  rw [show qCJ8 rC xd = (qCJ14y rC xd (qCJ12y rC xd (NIk2 rC xd))) from by unfold qCJ8;rw [if_pos d1]]
  exact qCJ8_p1 rC xd d1
 ·
  rw [show qCJ8 rC xd = xd.1 from by unfold qCJ8;rw [if_neg (nt d1)]]
  exact qCJ8_p2 rC xd d1
def qCJ15y (r:RPic) (rM:Nat → Int) (rN:Nat → Int) (rS:Nat → Int) (rC:List Man):Bool:=
 if ((((rChooseF (qCJ8 rC ((qCJ6 r rM rN rC ((qCJ4 r rC (qCJ2 r rC r)),rS)).1,(decide ((Int.tmod (i64.wrap (Int.tdiv (((qCJ6 r rM rN rC ((qCJ4 r rC (qCJ2 r rC r)),rS)).1).Mask) 8)) 4) > 0)),(qCJ7 r rM rN rS rC (decide ((Int.tmod (i64.wrap (Int.tdiv (((qCJ6 r rM rN rC ((qCJ4 r rC (qCJ2 r rC r)),rS)).1).Mask) 8)) 4) > 0))))) rM rN ((qCJ6 r rM rN rC ((qCJ4 r rC (qCJ2 r rC r)),rS)).2) rC).1).Line:Int) == 261) = true then
  if (((Int.tmod (((rChooseF (qCJ8 rC ((qCJ6 r rM rN rC ((qCJ4 r rC (qCJ2 r rC r)),rS)).1,(decide ((Int.tmod (i64.wrap (Int.tdiv (((qCJ6 r rM rN rC ((qCJ4 r rC (qCJ2 r rC r)),rS)).1).Mask) 8)) 4) > 0)),(qCJ7 r rM rN rS rC (decide ((Int.tmod (i64.wrap (Int.tdiv (((qCJ6 r rM rN rC ((qCJ4 r rC (qCJ2 r rC r)),rS)).1).Mask) 8)) 4) > 0))))) rM rN ((qCJ6 r rM rN rC ((qCJ4 r rC (qCJ2 r rC r)),rS)).2) rC).1).Begun) 2):Int) == 0) = true then
   if (decide ((Int.tmod (i64.wrap (Int.tdiv (((qCJ6 r rM rN rC ((qCJ4 r rC (qCJ2 r rC r)),rS)).1).Mask) 8)) 4) > 0)) = true then
    ((((rChooseF (qCJ8 rC ((qCJ6 r rM rN rC ((qCJ4 r rC (qCJ2 r rC r)),rS)).1,(decide ((Int.tmod (i64.wrap (Int.tdiv (((qCJ6 r rM rN rC ((qCJ4 r rC (qCJ2 r rC r)),rS)).1).Mask) 8)) 4) > 0)),(qCJ7 r rM rN rS rC (decide ((Int.tmod (i64.wrap (Int.tdiv (((qCJ6 r rM rN rC ((qCJ4 r rC (qCJ2 r rC r)),rS)).1).Mask) 8)) 4) > 0))))) rM rN ((qCJ6 r rM rN rC ((qCJ4 r rC (qCJ2 r rC r)),rS)).2) rC).1).Dot:Int) == 339)
   else
    false
  else
   false
 else
  false
def qCJ15y_T (r:RPic) (rM:Nat → Int) (rN:Nat → Int) (rS:Nat → Int) (rC:List Man):Tm:=[(0,pt 1000),(2,.bool (decide ((Int.tmod (i64.wrap (Int.tdiv (((qCJ6 r rM rN rC ((qCJ4 r rC (qCJ2 r rC r)),rS)).1).Mask) 8)) 4) > 0))),(3,.int .i64 340)]
def qCJ15y_H (r:RPic) (rM:Nat → Int) (rN:Nat → Int) (rS:Nat → Int) (rC:List Man):Heap:=[(1000,(RPic.bl ((rChooseF (qCJ8 rC ((qCJ6 r rM rN rC ((qCJ4 r rC (qCJ2 r rC r)),rS)).1,(decide ((Int.tmod (i64.wrap (Int.tdiv (((qCJ6 r rM rN rC ((qCJ4 r rC (qCJ2 r rC r)),rS)).1).Mask) 8)) 4) > 0)),(qCJ7 r rM rN rS rC (decide ((Int.tmod (i64.wrap (Int.tdiv (((qCJ6 r rM rN rC ((qCJ4 r rC (qCJ2 r rC r)),rS)).1).Mask) 8)) 4) > 0))))) rM rN ((qCJ6 r rM rN rC ((qCJ4 r rC (qCJ2 r rC r)),rS)).2) rC).1) (sl 1001 16384 1) (sl 1002 256 1) (sl 1005 (List.length ((rChooseF (qCJ8 rC ((qCJ6 r rM rN rC ((qCJ4 r rC (qCJ2 r rC r)),rS)).1,(decide ((Int.tmod (i64.wrap (Int.tdiv (((qCJ6 r rM rN rC ((qCJ4 r rC (qCJ2 r rC r)),rS)).1).Mask) 8)) 4) > 0)),(qCJ7 r rM rN rS rC (decide ((Int.tmod (i64.wrap (Int.tdiv (((qCJ6 r rM rN rC ((qCJ4 r rC (qCJ2 r rC r)),rS)).1).Mask) 8)) 4) > 0))))) rM rN ((qCJ6 r rM rN rC ((qCJ4 r rC (qCJ2 r rC r)),rS)).2) rC).2)) 4) (sl 1003 61440 1) false))]
def qCJ15y_T1 (r:RPic) (rM:Nat → Int) (rN:Nat → Int) (rS:Nat → Int) (rC:List Man) (r_:Bool):Tm:=[(0,pt 1000),(3,.int .i64 340),(205,.bool r_)]
def qCJ15y_H1 (r:RPic) (rM:Nat → Int) (rN:Nat → Int) (rS:Nat → Int) (rC:List Man) (r_:Bool):Heap:=[(1000,(RPic.bl ((rChooseF (qCJ8 rC ((qCJ6 r rM rN rC ((qCJ4 r rC (qCJ2 r rC r)),rS)).1,(decide ((Int.tmod (i64.wrap (Int.tdiv (((qCJ6 r rM rN rC ((qCJ4 r rC (qCJ2 r rC r)),rS)).1).Mask) 8)) 4) > 0)),(qCJ7 r rM rN rS rC (decide ((Int.tmod (i64.wrap (Int.tdiv (((qCJ6 r rM rN rC ((qCJ4 r rC (qCJ2 r rC r)),rS)).1).Mask) 8)) 4) > 0))))) rM rN ((qCJ6 r rM rN rC ((qCJ4 r rC (qCJ2 r rC r)),rS)).2) rC).1) (sl 1001 16384 1) (sl 1002 256 1) (sl 1005 (List.length ((rChooseF (qCJ8 rC ((qCJ6 r rM rN rC ((qCJ4 r rC (qCJ2 r rC r)),rS)).1,(decide ((Int.tmod (i64.wrap (Int.tdiv (((qCJ6 r rM rN rC ((qCJ4 r rC (qCJ2 r rC r)),rS)).1).Mask) 8)) 4) > 0)),(qCJ7 r rM rN rS rC (decide ((Int.tmod (i64.wrap (Int.tdiv (((qCJ6 r rM rN rC ((qCJ4 r rC (qCJ2 r rC r)),rS)).1).Mask) 8)) 4) > 0))))) rM rN ((qCJ6 r rM rN rC ((qCJ4 r rC (qCJ2 r rC r)),rS)).2) rC).2)) 4) (sl 1003 61440 1) false))]
theorem qCJ15y_p1 (r:RPic) (rM:Nat → Int) (rN:Nat → Int) (rS:Nat → Int) (rC:List Man) (d1:((((rChooseF (qCJ8 rC ((qCJ6 r rM rN rC ((qCJ4 r rC (qCJ2 r rC r)),rS)).1,(decide ((Int.tmod (i64.wrap (Int.tdiv (((qCJ6 r rM rN rC ((qCJ4 r rC (qCJ2 r rC r)),rS)).1).Mask) 8)) 4) > 0)),(qCJ7 r rM rN rS rC (decide ((Int.tmod (i64.wrap (Int.tdiv (((qCJ6 r rM rN rC ((qCJ4 r rC (qCJ2 r rC r)),rS)).1).Mask) 8)) 4) > 0))))) rM rN ((qCJ6 r rM rN rC ((qCJ4 r rC (qCJ2 r rC r)),rS)).2) rC).1).Line:Int) == 261) = true) (d2:(((Int.tmod (((rChooseF (qCJ8 rC ((qCJ6 r rM rN rC ((qCJ4 r rC (qCJ2 r rC r)),rS)).1,(decide ((Int.tmod (i64.wrap (Int.tdiv (((qCJ6 r rM rN rC ((qCJ4 r rC (qCJ2 r rC r)),rS)).1).Mask) 8)) 4) > 0)),(qCJ7 r rM rN rS rC (decide ((Int.tmod (i64.wrap (Int.tdiv (((qCJ6 r rM rN rC ((qCJ4 r rC (qCJ2 r rC r)),rS)).1).Mask) 8)) 4) > 0))))) rM rN ((qCJ6 r rM rN rC ((qCJ4 r rC (qCJ2 r rC r)),rS)).2) rC).1).Begun) 2):Int) == 0) = true) (d3:(decide ((Int.tmod (i64.wrap (Int.tdiv (((qCJ6 r rM rN rC ((qCJ4 r rC (qCJ2 r rC r)),rS)).1).Mask) 8)) 4) > 0)) = true):Runs Try.prog 244 (bodyOf Try.f58 [1,1,1,1,1,1,1,0,0]) (qCJ15y_T r rM rN rS rC) (qCJ15y_H r rM rN rS rC) 1006 .normal (qCJ15y_T1 r rM rN rS rC ((((rChooseF (qCJ8 rC ((qCJ6 r rM rN rC ((qCJ4 r rC (qCJ2 r rC r)),rS)).1,(decide ((Int.tmod (i64.wrap (Int.tdiv (((qCJ6 r rM rN rC ((qCJ4 r rC (qCJ2 r rC r)),rS)).1).Mask) 8)) 4) > 0)),(qCJ7 r rM rN rS rC (decide ((Int.tmod (i64.wrap (Int.tdiv (((qCJ6 r rM rN rC ((qCJ4 r rC (qCJ2 r rC r)),rS)).1).Mask) 8)) 4) > 0))))) rM rN ((qCJ6 r rM rN rC ((qCJ4 r rC (qCJ2 r rC r)),rS)).2) rC).1).Dot:Int) == 339)) (qCJ15y_H1 r rM rN rS rC ((((rChooseF (qCJ8 rC ((qCJ6 r rM rN rC ((qCJ4 r rC (qCJ2 r rC r)),rS)).1,(decide ((Int.tmod (i64.wrap (Int.tdiv (((qCJ6 r rM rN rC ((qCJ4 r rC (qCJ2 r rC r)),rS)).1).Mask) 8)) 4) > 0)),(qCJ7 r rM rN rS rC (decide ((Int.tmod (i64.wrap (Int.tdiv (((qCJ6 r rM rN rC ((qCJ4 r rC (qCJ2 r rC r)),rS)).1).Mask) 8)) 4) > 0))))) rM rN ((qCJ6 r rM rN rC ((qCJ4 r rC (qCJ2 r rC r)),rS)).2) rC).1).Dot:Int) == 339)) 1006:=by
 exact runs_of_x hG hM 400 [.yes,.yes,.yes,.yes,.yes,.yes,.yes,.yes,.yes,.yes,.yes,.yes,.yes,.yes,.yes] (J d1 (J d1 (J d1 (J d1 (J d1 (J (by decide:((2:Int) ≠ 0)) (J d1 (J d1 (J d2 (J d2 (J d3 (J d3 (J d3 (J d3 (J d3 (J d3 trivial)))))))))))))))) (by kernel_rfl)
theorem qCJ15y_p2 (r:RPic) (rM:Nat → Int) (rN:Nat → Int) (rS:Nat → Int) (rC:List Man) (d1:((((rChooseF (qCJ8 rC ((qCJ6 r rM rN rC ((qCJ4 r rC (qCJ2 r rC r)),rS)).1,(decide ((Int.tmod (i64.wrap (Int.tdiv (((qCJ6 r rM rN rC ((qCJ4 r rC (qCJ2 r rC r)),rS)).1).Mask) 8)) 4) > 0)),(qCJ7 r rM rN rS rC (decide ((Int.tmod (i64.wrap (Int.tdiv (((qCJ6 r rM rN rC ((qCJ4 r rC (qCJ2 r rC r)),rS)).1).Mask) 8)) 4) > 0))))) rM rN ((qCJ6 r rM rN rC ((qCJ4 r rC (qCJ2 r rC r)),rS)).2) rC).1).Line:Int) == 261) = true) (d2:(((Int.tmod (((rChooseF (qCJ8 rC ((qCJ6 r rM rN rC ((qCJ4 r rC (qCJ2 r rC r)),rS)).1,(decide ((Int.tmod (i64.wrap (Int.tdiv (((qCJ6 r rM rN rC ((qCJ4 r rC (qCJ2 r rC r)),rS)).1).Mask) 8)) 4) > 0)),(qCJ7 r rM rN rS rC (decide ((Int.tmod (i64.wrap (Int.tdiv (((qCJ6 r rM rN rC ((qCJ4 r rC (qCJ2 r rC r)),rS)).1).Mask) 8)) 4) > 0))))) rM rN ((qCJ6 r rM rN rC ((qCJ4 r rC (qCJ2 r rC r)),rS)).2) rC).1).Begun) 2):Int) == 0) = true) (d3:(decide ((Int.tmod (i64.wrap (Int.tdiv (((qCJ6 r rM rN rC ((qCJ4 r rC (qCJ2 r rC r)),rS)).1).Mask) 8)) 4) > 0)) = false):Runs Try.prog 244 (bodyOf Try.f58 [1,1,1,1,1,1,1,0,0]) (qCJ15y_T r rM rN rS rC) (qCJ15y_H r rM rN rS rC) 1006 .normal (qCJ15y_T1 r rM rN rS rC false) (qCJ15y_H1 r rM rN rS rC false) 1006:=by
 exact runs_of_x hG hM 400 [.yes,.yes,.yes,.yes,.yes,.yes,.yes,.yes,.yes,.no,.no,.no,.no,.no,.no] (J d1 (J d1 (J d1 (J d1 (J d1 (J (by decide:((2:Int) ≠ 0)) (J d1 (J d1 (J d2 (J d2 (J d3 (J d3 (J d3 (J d3 (J d3 (J d3 trivial)))))))))))))))) (by kernel_rfl)
theorem qCJ15y_p3 (r:RPic) (rM:Nat → Int) (rN:Nat → Int) (rS:Nat → Int) (rC:List Man) (d1:((((rChooseF (qCJ8 rC ((qCJ6 r rM rN rC ((qCJ4 r rC (qCJ2 r rC r)),rS)).1,(decide ((Int.tmod (i64.wrap (Int.tdiv (((qCJ6 r rM rN rC ((qCJ4 r rC (qCJ2 r rC r)),rS)).1).Mask) 8)) 4) > 0)),(qCJ7 r rM rN rS rC (decide ((Int.tmod (i64.wrap (Int.tdiv (((qCJ6 r rM rN rC ((qCJ4 r rC (qCJ2 r rC r)),rS)).1).Mask) 8)) 4) > 0))))) rM rN ((qCJ6 r rM rN rC ((qCJ4 r rC (qCJ2 r rC r)),rS)).2) rC).1).Line:Int) == 261) = true) (d2:(((Int.tmod (((rChooseF (qCJ8 rC ((qCJ6 r rM rN rC ((qCJ4 r rC (qCJ2 r rC r)),rS)).1,(decide ((Int.tmod (i64.wrap (Int.tdiv (((qCJ6 r rM rN rC ((qCJ4 r rC (qCJ2 r rC r)),rS)).1).Mask) 8)) 4) > 0)),(qCJ7 r rM rN rS rC (decide ((Int.tmod (i64.wrap (Int.tdiv (((qCJ6 r rM rN rC ((qCJ4 r rC (qCJ2 r rC r)),rS)).1).Mask) 8)) 4) > 0))))) rM rN ((qCJ6 r rM rN rC ((qCJ4 r rC (qCJ2 r rC r)),rS)).2) rC).1).Begun) 2):Int) == 0) = false):Runs Try.prog 244 (bodyOf Try.f58 [1,1,1,1,1,1,1,0,0]) (qCJ15y_T r rM rN rS rC) (qCJ15y_H r rM rN rS rC) 1006 .normal (qCJ15y_T1 r rM rN rS rC false) (qCJ15y_H1 r rM rN rS rC false) 1006:=by
 exact runs_of_x hG hM 400 [.yes,.yes,.yes,.yes,.yes,.yes,.yes,.no,.no,.no,.no,.no,.no,.no,.no] (J d1 (J d1 (J d1 (J d1 (J d1 (J (by decide:((2:Int) ≠ 0)) (J d1 (J d1 (J d2 (J d2 (J T0 (J T0 (J T0 (J T0 (J T0 (J T0 trivial)))))))))))))))) (by kernel_rfl)
theorem qCJ15y_p4 (r:RPic) (rM:Nat → Int) (rN:Nat → Int) (rS:Nat → Int) (rC:List Man) (d1:((((rChooseF (qCJ8 rC ((qCJ6 r rM rN rC ((qCJ4 r rC (qCJ2 r rC r)),rS)).1,(decide ((Int.tmod (i64.wrap (Int.tdiv (((qCJ6 r rM rN rC ((qCJ4 r rC (qCJ2 r rC r)),rS)).1).Mask) 8)) 4) > 0)),(qCJ7 r rM rN rS rC (decide ((Int.tmod (i64.wrap (Int.tdiv (((qCJ6 r rM rN rC ((qCJ4 r rC (qCJ2 r rC r)),rS)).1).Mask) 8)) 4) > 0))))) rM rN ((qCJ6 r rM rN rC ((qCJ4 r rC (qCJ2 r rC r)),rS)).2) rC).1).Line:Int) == 261) = false):Runs Try.prog 244 (bodyOf Try.f58 [1,1,1,1,1,1,1,0,0]) (qCJ15y_T r rM rN rS rC) (qCJ15y_H r rM rN rS rC) 1006 .normal (qCJ15y_T1 r rM rN rS rC false) (qCJ15y_H1 r rM rN rS rC false) 1006:=by
 exact runs_of_x hG hM 400 [.no,.no,.no,.no,.no,.no,.no,.no,.no,.no,.no,.no,.no,.no,.no] (J d1 (J d1 (J d1 (J d1 (J d1 (J d1 (J d1 (J T0 (J T0 (J T0 (J T0 (J T0 (J T0 (J T0 (J T0 trivial))))))))))))))) (by kernel_rfl)
abbrev NIk3 (r:RPic) (rM rN:Nat → Int) (rC:List Man) (rS:Nat → Int):=(decide ((Int.tmod (i64.wrap (Int.tdiv (((qCJ6 r rM rN rC ((NIk6 r rC),rS)).1).Mask) 8)) 4) > 0))
abbrev NIk0 (r:RPic) (rM rN:Nat → Int) (rC:List Man) (rS:Nat → Int):=((qCJ6 r rM rN rC ((NIk6 r rC),rS)).1,(NIk3 r rM rN rC rS),(qCJ7 r rM rN rS rC (NIk3 r rM rN rC rS)))
abbrev NIk8 (rC:List Man) (r:RPic) (rM rN rS:Nat → Int):=(qCJ8 rC (NIk0 r rM rN rC rS))
abbrev NIk1 (rC:List Man) (r:RPic) (rM rN rS:Nat → Int):=(rChooseF (NIk8 rC r rM rN rS) rM rN ((qCJ6 r rM rN rC ((NIk6 r rC),rS)).2) rC)
theorem qCJ15y_runs (r:RPic) (rM:Nat → Int) (rN:Nat → Int) (rS:Nat → Int) (rC:List Man):Runs Try.prog 244 (bodyOf Try.f58 [1,1,1,1,1,1,1,0,0]) (qCJ15y_T r rM rN rS rC) (qCJ15y_H r rM rN rS rC) 1006 .normal (qCJ15y_T1 r rM rN rS rC (qCJ15y r rM rN rS rC)) (qCJ15y_H1 r rM rN rS rC (qCJ15y r rM rN rS rC)) 1006:=by
 rcases bt ((((NIk1 rC r rM rN rS).1).Line:Int) == 261) with d1 | d1
 ·
  rcases bt (((Int.tmod (((NIk1 rC r rM rN rS).1).Begun) 2):Int) == 0) with d2 | d2
  ·
   rcases bt (NIk3 r rM rN rC rS) with d3 | d3
   ·
    rw [show qCJ15y r rM rN rS rC = ((((NIk1 rC r rM rN rS).1).Dot:Int) == 339) from by unfold qCJ15y;rw [if_pos d1,if_pos d2,if_pos d3]]
    exact qCJ15y_p1 r rM rN rS rC d1 d2 d3
   ·
    rw [show qCJ15y r rM rN rS rC = false from by unfold qCJ15y;rw [if_pos d1,if_pos d2,if_neg (nt d3)]]
    exact qCJ15y_p2 r rM rN rS rC d1 d2 d3
  ·
   rw [show qCJ15y r rM rN rS rC = false from by unfold qCJ15y;rw [if_pos d1,if_neg (nt d2)]]
   exact qCJ15y_p3 r rM rN rS rC d1 d2
 ·
  rw [show qCJ15y r rM rN rS rC = false from by unfold qCJ15y;rw [if_neg (nt d1)]]
  exact qCJ15y_p4 r rM rN rS rC d1
def qCJ16y (xd:Bool):Int:=
 if xd = true then
  339
 else
  340
def qCJ16y_T (xd:Bool):Tm:=[(0,pt 1000),(3,.int .i64 340),(205,.bool xd)]
def qCJ16y_H (xd:Bool):Heap:=[]
def qCJ16y_T1 (xd:Bool) (r_:Int):Tm:=[(0,pt 1000),(3,.int .i64 r_)]
def qCJ16y_H1 (xd:Bool) (r_:Int):Heap:=[]
theorem qCJ16y_p1 (xd:Bool) (d1:xd = true):Runs Try.prog 244 (bodyOf Try.f58 [1,1,1,1,1,1,1,0,1]) (qCJ16y_T xd) (qCJ16y_H xd) 1006 .normal (qCJ16y_T1 xd 339) (qCJ16y_H1 xd 339) 1006:=by
 exact runs_of_x hG hM 400 [.yes] (J d1 trivial) (by kernel_rfl)
theorem qCJ16y_p2 (xd:Bool) (d1:xd = false):Runs Try.prog 244 (bodyOf Try.f58 [1,1,1,1,1,1,1,0,1]) (qCJ16y_T xd) (qCJ16y_H xd) 1006 .normal (qCJ16y_T1 xd 340) (qCJ16y_H1 xd 340) 1006:=by
 exact runs_of_x hG hM 400 [.no] (J d1 trivial) (by kernel_rfl)
theorem qCJ16y_runs (xd:Bool):Runs Try.prog 244 (bodyOf Try.f58 [1,1,1,1,1,1,1,0,1]) (qCJ16y_T xd) (qCJ16y_H xd) 1006 .normal (qCJ16y_T1 xd (qCJ16y xd)) (qCJ16y_H1 xd (qCJ16y xd)) 1006:=by
 rcases bt xd with d1 | d1
 ·
  rw [show qCJ16y xd = 339 from by unfold qCJ16y;rw [if_pos d1]]
  exact qCJ16y_p1 xd d1
 ·
  rw [show qCJ16y xd = 340 from by unfold qCJ16y;rw [if_neg (nt d1)]]
  exact qCJ16y_p2 xd d1
def qCJ17yn (r:RPic) (rM:Nat → Int) (rN:Nat → Int) (rS:Nat → Int) (rC:List Man) (xd:RPic × Bool):RPic:=
 if xd.2 = true then
  ({ xd.1 with Line:=0,Begun:=(i64.wrap (xd.1.Begun + 1)) }:RPic)
 else
  xd.1
def qCJ17yn_T (r:RPic) (rM:Nat → Int) (rN:Nat → Int) (rS:Nat → Int) (rC:List Man) (xd:RPic × Bool):Tm:=[(0,pt 1000),(233,.bool xd.2)]
def qCJ17yn_H (r:RPic) (rM:Nat → Int) (rN:Nat → Int) (rS:Nat → Int) (rC:List Man) (xd:RPic × Bool):Heap:=[(1000,(RPic.bl xd.1 (sl 1001 16384 1) (sl 1002 256 1) (sl 1005 (List.length ((rChooseF (qCJ8 rC ((qCJ6 r rM rN rC ((qCJ4 r rC (qCJ2 r rC r)),rS)).1,(decide ((Int.tmod (i64.wrap (Int.tdiv (((qCJ6 r rM rN rC ((qCJ4 r rC (qCJ2 r rC r)),rS)).1).Mask) 8)) 4) > 0)),(qCJ7 r rM rN rS rC (decide ((Int.tmod (i64.wrap (Int.tdiv (((qCJ6 r rM rN rC ((qCJ4 r rC (qCJ2 r rC r)),rS)).1).Mask) 8)) 4) > 0))))) rM rN ((qCJ6 r rM rN rC ((qCJ4 r rC (qCJ2 r rC r)),rS)).2) rC).2)) 4) (sl 1003 61440 1) false))]
def qCJ17yn_T1 (r:RPic) (rM:Nat → Int) (rN:Nat → Int) (rS:Nat → Int) (rC:List Man) (xd:RPic × Bool) (r_:RPic):Tm:=[]
def qCJ17yn_H1 (r:RPic) (rM:Nat → Int) (rN:Nat → Int) (rS:Nat → Int) (rC:List Man) (xd:RPic × Bool) (r_:RPic):Heap:=[(1000,(RPic.bl r_ (sl 1001 16384 1) (sl 1002 256 1) (sl 1005 (List.length ((rChooseF (qCJ8 rC ((qCJ6 r rM rN rC ((qCJ4 r rC (qCJ2 r rC r)),rS)).1,(decide ((Int.tmod (i64.wrap (Int.tdiv (((qCJ6 r rM rN rC ((qCJ4 r rC (qCJ2 r rC r)),rS)).1).Mask) 8)) 4) > 0)),(qCJ7 r rM rN rS rC (decide ((Int.tmod (i64.wrap (Int.tdiv (((qCJ6 r rM rN rC ((qCJ4 r rC (qCJ2 r rC r)),rS)).1).Mask) 8)) 4) > 0))))) rM rN ((qCJ6 r rM rN rC ((qCJ4 r rC (qCJ2 r rC r)),rS)).2) rC).2)) 4) (sl 1003 61440 1) false))]
theorem qCJ17yn_p1 (r:RPic) (rM:Nat → Int) (rN:Nat → Int) (rS:Nat → Int) (rC:List Man) (xd:RPic × Bool) (d1:xd.2 = true):Runs Try.prog 244 (bodyOf Try.f58 [1,1,1,1,1,1,1,1,1,1,1,1,1]) (qCJ17yn_T r rM rN rS rC xd) (qCJ17yn_H r rM rN rS rC xd) 1006 .normal (qCJ17yn_T1 r rM rN rS rC xd ({ xd.1 with Line:=0,Begun:=(i64.wrap (xd.1.Begun + 1)) }:RPic)) (qCJ17yn_H1 r rM rN rS rC xd ({ xd.1 with Line:=0,Begun:=(i64.wrap (xd.1.Begun + 1)) }:RPic)) 1006:=by
 exact runs_of_x hG hM 400 [.yes] (J d1 trivial) (by kernel_rfl)
theorem qCJ17yn_p2 (r:RPic) (rM:Nat → Int) (rN:Nat → Int) (rS:Nat → Int) (rC:List Man) (xd:RPic × Bool) (d1:xd.2 = false):Runs Try.prog 244 (bodyOf Try.f58 [1,1,1,1,1,1,1,1,1,1,1,1,1]) (qCJ17yn_T r rM rN rS rC xd) (qCJ17yn_H r rM rN rS rC xd) 1006 .normal (qCJ17yn_T1 r rM rN rS rC xd xd.1) (qCJ17yn_H1 r rM rN rS rC xd xd.1) 1006:=by
 exact runs_of_x hG hM 400 [.no] (J d1 trivial) (by kernel_rfl)
theorem qCJ17yn_runs (r:RPic) (rM:Nat → Int) (rN:Nat → Int) (rS:Nat → Int) (rC:List Man) (xd:RPic × Bool):Runs Try.prog 244 (bodyOf Try.f58 [1,1,1,1,1,1,1,1,1,1,1,1,1]) (qCJ17yn_T r rM rN rS rC xd) (qCJ17yn_H r rM rN rS rC xd) 1006 .normal (qCJ17yn_T1 r rM rN rS rC xd (qCJ17yn r rM rN rS rC xd)) (qCJ17yn_H1 r rM rN rS rC xd (qCJ17yn r rM rN rS rC xd)) 1006:=by
 rcases bt xd.2 with d1 | d1
 ·
  rw [show qCJ17yn r rM rN rS rC xd = ({ xd.1 with Line:=0,Begun:=(i64.wrap (xd.1.Begun + 1)) }:RPic) from by unfold qCJ17yn;rw [if_pos d1]]
  exact qCJ17yn_p1 r rM rN rS rC xd d1
 ·
  rw [show qCJ17yn r rM rN rS rC xd = xd.1 from by unfold qCJ17yn;rw [if_neg (nt d1)]]
  exact qCJ17yn_p2 r rM rN rS rC xd d1
def qCJ15n (r:RPic) (rM:Nat → Int) (rN:Nat → Int) (rS:Nat → Int) (rC:List Man):Bool:=
 if (((qCJ8 rC ((qCJ6 r rM rN rC ((qCJ4 r rC (qCJ2 r rC r)),rS)).1,(decide ((Int.tmod (i64.wrap (Int.tdiv (((qCJ6 r rM rN rC ((qCJ4 r rC (qCJ2 r rC r)),rS)).1).Mask) 8)) 4) > 0)),(qCJ7 r rM rN rS rC (decide ((Int.tmod (i64.wrap (Int.tdiv (((qCJ6 r rM rN rC ((qCJ4 r rC (qCJ2 r rC r)),rS)).1).Mask) 8)) 4) > 0))))).Line:Int) == 261) = true then
  if (((Int.tmod ((qCJ8 rC ((qCJ6 r rM rN rC ((qCJ4 r rC (qCJ2 r rC r)),rS)).1,(decide ((Int.tmod (i64.wrap (Int.tdiv (((qCJ6 r rM rN rC ((qCJ4 r rC (qCJ2 r rC r)),rS)).1).Mask) 8)) 4) > 0)),(qCJ7 r rM rN rS rC (decide ((Int.tmod (i64.wrap (Int.tdiv (((qCJ6 r rM rN rC ((qCJ4 r rC (qCJ2 r rC r)),rS)).1).Mask) 8)) 4) > 0))))).Begun) 2):Int) == 0) = true then
   if (decide ((Int.tmod (i64.wrap (Int.tdiv (((qCJ6 r rM rN rC ((qCJ4 r rC (qCJ2 r rC r)),rS)).1).Mask) 8)) 4) > 0)) = true then
    (((qCJ8 rC ((qCJ6 r rM rN rC ((qCJ4 r rC (qCJ2 r rC r)),rS)).1,(decide ((Int.tmod (i64.wrap (Int.tdiv (((qCJ6 r rM rN rC ((qCJ4 r rC (qCJ2 r rC r)),rS)).1).Mask) 8)) 4) > 0)),(qCJ7 r rM rN rS rC (decide ((Int.tmod (i64.wrap (Int.tdiv (((qCJ6 r rM rN rC ((qCJ4 r rC (qCJ2 r rC r)),rS)).1).Mask) 8)) 4) > 0))))).Dot:Int) == 339)
   else
    false
  else
   false
 else
  false
def qCJ15n_T (r:RPic) (rM:Nat → Int) (rN:Nat → Int) (rS:Nat → Int) (rC:List Man):Tm:=[(0,pt 1000),(2,.bool (decide ((Int.tmod (i64.wrap (Int.tdiv (((qCJ6 r rM rN rC ((qCJ4 r rC (qCJ2 r rC r)),rS)).1).Mask) 8)) 4) > 0))),(3,.int .i64 340)]
def qCJ15n_H (r:RPic) (rM:Nat → Int) (rN:Nat → Int) (rS:Nat → Int) (rC:List Man):Heap:=[(1000,(RPic.bl (qCJ8 rC ((qCJ6 r rM rN rC ((qCJ4 r rC (qCJ2 r rC r)),rS)).1,(decide ((Int.tmod (i64.wrap (Int.tdiv (((qCJ6 r rM rN rC ((qCJ4 r rC (qCJ2 r rC r)),rS)).1).Mask) 8)) 4) > 0)),(qCJ7 r rM rN rS rC (decide ((Int.tmod (i64.wrap (Int.tdiv (((qCJ6 r rM rN rC ((qCJ4 r rC (qCJ2 r rC r)),rS)).1).Mask) 8)) 4) > 0))))) (sl 1001 16384 1) (sl 1002 256 1) (sl 1004 (List.length rC) 4) (sl 1003 61440 1) false))]
def qCJ15n_T1 (r:RPic) (rM:Nat → Int) (rN:Nat → Int) (rS:Nat → Int) (rC:List Man) (r_:Bool):Tm:=[(0,pt 1000),(3,.int .i64 340),(205,.bool r_)]
def qCJ15n_H1 (r:RPic) (rM:Nat → Int) (rN:Nat → Int) (rS:Nat → Int) (rC:List Man) (r_:Bool):Heap:=[(1000,(RPic.bl (qCJ8 rC ((qCJ6 r rM rN rC ((qCJ4 r rC (qCJ2 r rC r)),rS)).1,(decide ((Int.tmod (i64.wrap (Int.tdiv (((qCJ6 r rM rN rC ((qCJ4 r rC (qCJ2 r rC r)),rS)).1).Mask) 8)) 4) > 0)),(qCJ7 r rM rN rS rC (decide ((Int.tmod (i64.wrap (Int.tdiv (((qCJ6 r rM rN rC ((qCJ4 r rC (qCJ2 r rC r)),rS)).1).Mask) 8)) 4) > 0))))) (sl 1001 16384 1) (sl 1002 256 1) (sl 1004 (List.length rC) 4) (sl 1003 61440 1) false))]
theorem qCJ15n_p1 (r:RPic) (rM:Nat → Int) (rN:Nat → Int) (rS:Nat → Int) (rC:List Man) (d1:(((qCJ8 rC ((qCJ6 r rM rN rC ((qCJ4 r rC (qCJ2 r rC r)),rS)).1,(decide ((Int.tmod (i64.wrap (Int.tdiv (((qCJ6 r rM rN rC ((qCJ4 r rC (qCJ2 r rC r)),rS)).1).Mask) 8)) 4) > 0)),(qCJ7 r rM rN rS rC (decide ((Int.tmod (i64.wrap (Int.tdiv (((qCJ6 r rM rN rC ((qCJ4 r rC (qCJ2 r rC r)),rS)).1).Mask) 8)) 4) > 0))))).Line:Int) == 261) = true) (d2:(((Int.tmod ((qCJ8 rC ((qCJ6 r rM rN rC ((qCJ4 r rC (qCJ2 r rC r)),rS)).1,(decide ((Int.tmod (i64.wrap (Int.tdiv (((qCJ6 r rM rN rC ((qCJ4 r rC (qCJ2 r rC r)),rS)).1).Mask) 8)) 4) > 0)),(qCJ7 r rM rN rS rC (decide ((Int.tmod (i64.wrap (Int.tdiv (((qCJ6 r rM rN rC ((qCJ4 r rC (qCJ2 r rC r)),rS)).1).Mask) 8)) 4) > 0))))).Begun) 2):Int) == 0) = true) (d3:(decide ((Int.tmod (i64.wrap (Int.tdiv (((qCJ6 r rM rN rC ((qCJ4 r rC (qCJ2 r rC r)),rS)).1).Mask) 8)) 4) > 0)) = true):Runs Try.prog 244 (bodyOf Try.f58 [1,1,1,1,1,1,1,0,0]) (qCJ15n_T r rM rN rS rC) (qCJ15n_H r rM rN rS rC) 1005 .normal (qCJ15n_T1 r rM rN rS rC (((qCJ8 rC ((qCJ6 r rM rN rC ((qCJ4 r rC (qCJ2 r rC r)),rS)).1,(decide ((Int.tmod (i64.wrap (Int.tdiv (((qCJ6 r rM rN rC ((qCJ4 r rC (qCJ2 r rC r)),rS)).1).Mask) 8)) 4) > 0)),(qCJ7 r rM rN rS rC (decide ((Int.tmod (i64.wrap (Int.tdiv (((qCJ6 r rM rN rC ((qCJ4 r rC (qCJ2 r rC r)),rS)).1).Mask) 8)) 4) > 0))))).Dot:Int) == 339)) (qCJ15n_H1 r rM rN rS rC (((qCJ8 rC ((qCJ6 r rM rN rC ((qCJ4 r rC (qCJ2 r rC r)),rS)).1,(decide ((Int.tmod (i64.wrap (Int.tdiv (((qCJ6 r rM rN rC ((qCJ4 r rC (qCJ2 r rC r)),rS)).1).Mask) 8)) 4) > 0)),(qCJ7 r rM rN rS rC (decide ((Int.tmod (i64.wrap (Int.tdiv (((qCJ6 r rM rN rC ((qCJ4 r rC (qCJ2 r rC r)),rS)).1).Mask) 8)) 4) > 0))))).Dot:Int) == 339)) 1005:=by
 exact runs_of_x hG hM 400 [.yes,.yes,.yes,.yes,.yes,.yes,.yes,.yes,.yes,.yes,.yes,.yes,.yes,.yes,.yes] (J d1 (J d1 (J d1 (J d1 (J d1 (J (by decide:((2:Int) ≠ 0)) (J d1 (J d1 (J d2 (J d2 (J d3 (J d3 (J d3 (J d3 (J d3 (J d3 trivial)))))))))))))))) (by kernel_rfl)
theorem qCJ15n_p2 (r:RPic) (rM:Nat → Int) (rN:Nat → Int) (rS:Nat → Int) (rC:List Man) (d1:(((qCJ8 rC ((qCJ6 r rM rN rC ((qCJ4 r rC (qCJ2 r rC r)),rS)).1,(decide ((Int.tmod (i64.wrap (Int.tdiv (((qCJ6 r rM rN rC ((qCJ4 r rC (qCJ2 r rC r)),rS)).1).Mask) 8)) 4) > 0)),(qCJ7 r rM rN rS rC (decide ((Int.tmod (i64.wrap (Int.tdiv (((qCJ6 r rM rN rC ((qCJ4 r rC (qCJ2 r rC r)),rS)).1).Mask) 8)) 4) > 0))))).Line:Int) == 261) = true) (d2:(((Int.tmod ((qCJ8 rC ((qCJ6 r rM rN rC ((qCJ4 r rC (qCJ2 r rC r)),rS)).1,(decide ((Int.tmod (i64.wrap (Int.tdiv (((qCJ6 r rM rN rC ((qCJ4 r rC (qCJ2 r rC r)),rS)).1).Mask) 8)) 4) > 0)),(qCJ7 r rM rN rS rC (decide ((Int.tmod (i64.wrap (Int.tdiv (((qCJ6 r rM rN rC ((qCJ4 r rC (qCJ2 r rC r)),rS)).1).Mask) 8)) 4) > 0))))).Begun) 2):Int) == 0) = true) (d3:(decide ((Int.tmod (i64.wrap (Int.tdiv (((qCJ6 r rM rN rC ((qCJ4 r rC (qCJ2 r rC r)),rS)).1).Mask) 8)) 4) > 0)) = false):Runs Try.prog 244 (bodyOf Try.f58 [1,1,1,1,1,1,1,0,0]) (qCJ15n_T r rM rN rS rC) (qCJ15n_H r rM rN rS rC) 1005 .normal (qCJ15n_T1 r rM rN rS rC false) (qCJ15n_H1 r rM rN rS rC false) 1005:=by
 exact runs_of_x hG hM 400 [.yes,.yes,.yes,.yes,.yes,.yes,.yes,.yes,.yes,.no,.no,.no,.no,.no,.no] (J d1 (J d1 (J d1 (J d1 (J d1 (J (by decide:((2:Int) ≠ 0)) (J d1 (J d1 (J d2 (J d2 (J d3 (J d3 (J d3 (J d3 (J d3 (J d3 trivial)))))))))))))))) (by kernel_rfl)
theorem qCJ15n_p3 (r:RPic) (rM:Nat → Int) (rN:Nat → Int) (rS:Nat → Int) (rC:List Man) (d1:(((qCJ8 rC ((qCJ6 r rM rN rC ((qCJ4 r rC (qCJ2 r rC r)),rS)).1,(decide ((Int.tmod (i64.wrap (Int.tdiv (((qCJ6 r rM rN rC ((qCJ4 r rC (qCJ2 r rC r)),rS)).1).Mask) 8)) 4) > 0)),(qCJ7 r rM rN rS rC (decide ((Int.tmod (i64.wrap (Int.tdiv (((qCJ6 r rM rN rC ((qCJ4 r rC (qCJ2 r rC r)),rS)).1).Mask) 8)) 4) > 0))))).Line:Int) == 261) = true) (d2:(((Int.tmod ((qCJ8 rC ((qCJ6 r rM rN rC ((qCJ4 r rC (qCJ2 r rC r)),rS)).1,(decide ((Int.tmod (i64.wrap (Int.tdiv (((qCJ6 r rM rN rC ((qCJ4 r rC (qCJ2 r rC r)),rS)).1).Mask) 8)) 4) > 0)),(qCJ7 r rM rN rS rC (decide ((Int.tmod (i64.wrap (Int.tdiv (((qCJ6 r rM rN rC ((qCJ4 r rC (qCJ2 r rC r)),rS)).1).Mask) 8)) 4) > 0))))).Begun) 2):Int) == 0) = false):Runs Try.prog 244 (bodyOf Try.f58 [1,1,1,1,1,1,1,0,0]) (qCJ15n_T r rM rN rS rC) (qCJ15n_H r rM rN rS rC) 1005 .normal (qCJ15n_T1 r rM rN rS rC false) (qCJ15n_H1 r rM rN rS rC false) 1005:=by
 exact runs_of_x hG hM 400 [.yes,.yes,.yes,.yes,.yes,.yes,.yes,.no,.no,.no,.no,.no,.no,.no,.no] (J d1 (J d1 (J d1 (J d1 (J d1 (J (by decide:((2:Int) ≠ 0)) (J d1 (J d1 (J d2 (J d2 (J T0 (J T0 (J T0 (J T0 (J T0 (J T0 trivial)))))))))))))))) (by kernel_rfl)
theorem qCJ15n_p4 (r:RPic) (rM:Nat → Int) (rN:Nat → Int) (rS:Nat → Int) (rC:List Man) (d1:(((qCJ8 rC ((qCJ6 r rM rN rC ((qCJ4 r rC (qCJ2 r rC r)),rS)).1,(decide ((Int.tmod (i64.wrap (Int.tdiv (((qCJ6 r rM rN rC ((qCJ4 r rC (qCJ2 r rC r)),rS)).1).Mask) 8)) 4) > 0)),(qCJ7 r rM rN rS rC (decide ((Int.tmod (i64.wrap (Int.tdiv (((qCJ6 r rM rN rC ((qCJ4 r rC (qCJ2 r rC r)),rS)).1).Mask) 8)) 4) > 0))))).Line:Int) == 261) = false):Runs Try.prog 244 (bodyOf Try.f58 [1,1,1,1,1,1,1,0,0]) (qCJ15n_T r rM rN rS rC) (qCJ15n_H r rM rN rS rC) 1005 .normal (qCJ15n_T1 r rM rN rS rC false) (qCJ15n_H1 r rM rN rS rC false) 1005:=by
 exact runs_of_x hG hM 400 [.no,.no,.no,.no,.no,.no,.no,.no,.no,.no,.no,.no,.no,.no,.no] (J d1 (J d1 (J d1 (J d1 (J d1 (J d1 (J d1 (J T0 (J T0 (J T0 (J T0 (J T0 (J T0 (J T0 (J T0 trivial))))))))))))))) (by kernel_rfl)
theorem qCJ15n_runs (r:RPic) (rM:Nat → Int) (rN:Nat → Int) (rS:Nat → Int) (rC:List Man):Runs Try.prog 244 (bodyOf Try.f58 [1,1,1,1,1,1,1,0,0]) (qCJ15n_T r rM rN rS rC) (qCJ15n_H r rM rN rS rC) 1005 .normal (qCJ15n_T1 r rM rN rS rC (qCJ15n r rM rN rS rC)) (qCJ15n_H1 r rM rN rS rC (qCJ15n r rM rN rS rC)) 1005:=by
 rcases bt (((NIk8 rC r rM rN rS).Line:Int) == 261) with d1 | d1
 ·
  rcases bt (((Int.tmod ((NIk8 rC r rM rN rS).Begun) 2):Int) == 0) with d2 | d2
  ·
   rcases bt (NIk3 r rM rN rC rS) with d3 | d3
   ·
    rw [show qCJ15n r rM rN rS rC = (((NIk8 rC r rM rN rS).Dot:Int) == 339) from by unfold qCJ15n;rw [if_pos d1,if_pos d2,if_pos d3]]
    exact qCJ15n_p1 r rM rN rS rC d1 d2 d3
   ·
    rw [show qCJ15n r rM rN rS rC = false from by unfold qCJ15n;rw [if_pos d1,if_pos d2,if_neg (nt d3)]]
    exact qCJ15n_p2 r rM rN rS rC d1 d2 d3
  ·
   rw [show qCJ15n r rM rN rS rC = false from by unfold qCJ15n;rw [if_pos d1,if_neg (nt d2)]]
   exact qCJ15n_p3 r rM rN rS rC d1 d2
 ·
  rw [show qCJ15n r rM rN rS rC = false from by unfold qCJ15n;rw [if_neg (nt d1)]]
  exact qCJ15n_p4 r rM rN rS rC d1
def qCJ16n (xd:Bool):Int:=
 if xd = true then
  339
 else
  340
def qCJ16n_T (xd:Bool):Tm:=[(0,pt 1000),(3,.int .i64 340),(205,.bool xd)]
def qCJ16n_H (xd:Bool):Heap:=[]
def qCJ16n_T1 (xd:Bool) (r_:Int):Tm:=[(0,pt 1000),(3,.int .i64 r_)]
def qCJ16n_H1 (xd:Bool) (r_:Int):Heap:=[]
theorem qCJ16n_p1 (xd:Bool) (d1:xd = true):Runs Try.prog 244 (bodyOf Try.f58 [1,1,1,1,1,1,1,0,1]) (qCJ16n_T xd) (qCJ16n_H xd) 1005 .normal (qCJ16n_T1 xd 339) (qCJ16n_H1 xd 339) 1005:=by
 exact runs_of_x hG hM 400 [.yes] (J d1 trivial) (by kernel_rfl)
theorem qCJ16n_p2 (xd:Bool) (d1:xd = false):Runs Try.prog 244 (bodyOf Try.f58 [1,1,1,1,1,1,1,0,1]) (qCJ16n_T xd) (qCJ16n_H xd) 1005 .normal (qCJ16n_T1 xd 340) (qCJ16n_H1 xd 340) 1005:=by
 exact runs_of_x hG hM 400 [.no] (J d1 trivial) (by kernel_rfl)
theorem qCJ16n_runs (xd:Bool):Runs Try.prog 244 (bodyOf Try.f58 [1,1,1,1,1,1,1,0,1]) (qCJ16n_T xd) (qCJ16n_H xd) 1005 .normal (qCJ16n_T1 xd (qCJ16n xd)) (qCJ16n_H1 xd (qCJ16n xd)) 1005:=by
 rcases bt xd with d1 | d1
 ·
  rw [show qCJ16n xd = 339 from by unfold qCJ16n;rw [if_pos d1]]
  exact qCJ16n_p1 xd d1
 ·
  rw [show qCJ16n xd = 340 from by unfold qCJ16n;rw [if_neg (nt d1)]]
  exact qCJ16n_p2 xd d1
def qCJ17nn (rC:List Man) (xd:RPic × Bool):RPic:=
 if xd.2 = true then
  ({ xd.1 with Line:=0,Begun:=(i64.wrap (xd.1.Begun + 1)) }:RPic)
 else
  xd.1
def qCJ17nn_T (rC:List Man) (xd:RPic × Bool):Tm:=[(0,pt 1000),(233,.bool xd.2)]
def qCJ17nn_H (rC:List Man) (xd:RPic × Bool):Heap:=[(1000,(RPic.bl xd.1 (sl 1001 16384 1) (sl 1002 256 1) (sl 1004 (List.length rC) 4) (sl 1003 61440 1) false))]
def qCJ17nn_T1 (rC:List Man) (xd:RPic × Bool) (r_:RPic):Tm:=[]
def qCJ17nn_H1 (rC:List Man) (xd:RPic × Bool) (r_:RPic):Heap:=[(1000,(RPic.bl r_ (sl 1001 16384 1) (sl 1002 256 1) (sl 1004 (List.length rC) 4) (sl 1003 61440 1) false))]
theorem qCJ17nn_p1 (rC:List Man) (xd:RPic × Bool) (d1:xd.2 = true):Runs Try.prog 244 (bodyOf Try.f58 [1,1,1,1,1,1,1,1,1,1,1,1,1]) (qCJ17nn_T rC xd) (qCJ17nn_H rC xd) 1005 .normal (qCJ17nn_T1 rC xd ({ xd.1 with Line:=0,Begun:=(i64.wrap (xd.1.Begun + 1)) }:RPic)) (qCJ17nn_H1 rC xd ({ xd.1 with Line:=0,Begun:=(i64.wrap (xd.1.Begun + 1)) }:RPic)) 1005:=by
 exact runs_of_x hG hM 400 [.yes] (J d1 trivial) (by kernel_rfl)
theorem qCJ17nn_p2 (rC:List Man) (xd:RPic × Bool) (d1:xd.2 = false):Runs Try.prog 244 (bodyOf Try.f58 [1,1,1,1,1,1,1,1,1,1,1,1,1]) (qCJ17nn_T rC xd) (qCJ17nn_H rC xd) 1005 .normal (qCJ17nn_T1 rC xd xd.1) (qCJ17nn_H1 rC xd xd.1) 1005:=by
 exact runs_of_x hG hM 400 [.no] (J d1 trivial) (by kernel_rfl)
theorem qCJ17nn_runs (rC:List Man) (xd:RPic × Bool):Runs Try.prog 244 (bodyOf Try.f58 [1,1,1,1,1,1,1,1,1,1,1,1,1]) (qCJ17nn_T rC xd) (qCJ17nn_H rC xd) 1005 .normal (qCJ17nn_T1 rC xd (qCJ17nn rC xd)) (qCJ17nn_H1 rC xd (qCJ17nn rC xd)) 1005:=by
 rcases bt xd.2 with d1 | d1
 ·
  rw [show qCJ17nn rC xd = ({ xd.1 with Line:=0,Begun:=(i64.wrap (xd.1.Begun + 1)) }:RPic) from by unfold qCJ17nn;rw [if_pos d1]]
  exact qCJ17nn_p1 rC xd d1
 ·
  rw [show qCJ17nn rC xd = xd.1 from by unfold qCJ17nn;rw [if_neg (nt d1)]]
  exact qCJ17nn_p2 rC xd d1
theorem rClock_p1 (r:RPic) (rM:Nat → Int) (rN:Nat → Int) (rS:Nat → Int) (rC:List Man) (w1c:∀ j,rng 256 (rM j)) (w2c:PlaceOk (qCJ4 r rC (qCJ2 r rC r)).S.V) (w3c:0 ≤ (qCJ4 r rC (qCJ2 r rC r)).S.X ∧ (qCJ4 r rC (qCJ2 r rC r)).S.X < 8) (w4c:(qCJ5 r rC) = true → 0 ≤ (i64.wrap ((qCJ4 r rC (qCJ2 r rC r)).Dot - 1)) ∧ (i64.wrap ((qCJ4 r rC (qCJ2 r rC r)).Dot - 1)) < 256) (w5c:(qCJ5 r rC) = true → 0 ≤ (qCJ4 r rC (qCJ2 r rC r)).Line ∧ (qCJ4 r rC (qCJ2 r rC r)).Line < 240) (w6c:∀ c ∈ rC,ManOk c) (w7c:rC.length ≤ 8) (c1:(((qCJ8 rC ((qCJ6 r rM rN rC ((qCJ4 r rC (qCJ2 r rC r)),rS)).1,(decide ((Int.tmod (i64.wrap (Int.tdiv (((qCJ6 r rM rN rC ((qCJ4 r rC (qCJ2 r rC r)),rS)).1).Mask) 8)) 4) > 0)),(qCJ7 r rM rN rS rC (decide ((Int.tmod (i64.wrap (Int.tdiv (((qCJ6 r rM rN rC ((qCJ4 r rC (qCJ2 r rC r)),rS)).1).Mask) 8)) 4) > 0))))).Dot:Int) == 257) = true) (w8c:∀ j,rng 256 (rN j)) (w9c:0 ≤ (qCJ8 rC ((qCJ6 r rM rN rC ((qCJ4 r rC (qCJ2 r rC r)),rS)).1,(decide ((Int.tmod (i64.wrap (Int.tdiv (((qCJ6 r rM rN rC ((qCJ4 r rC (qCJ2 r rC r)),rS)).1).Mask) 8)) 4) > 0)),(qCJ7 r rM rN rS rC (decide ((Int.tmod (i64.wrap (Int.tdiv (((qCJ6 r rM rN rC ((qCJ4 r rC (qCJ2 r rC r)),rS)).1).Mask) 8)) 4) > 0))))).Line ∧ (qCJ8 rC ((qCJ6 r rM rN rC ((qCJ4 r rC (qCJ2 r rC r)),rS)).1,(decide ((Int.tmod (i64.wrap (Int.tdiv (((qCJ6 r rM rN rC ((qCJ4 r rC (qCJ2 r rC r)),rS)).1).Mask) 8)) 4) > 0)),(qCJ7 r rM rN rS rC (decide ((Int.tmod (i64.wrap (Int.tdiv (((qCJ6 r rM rN rC ((qCJ4 r rC (qCJ2 r rC r)),rS)).1).Mask) 8)) 4) > 0))))).Line < 300) (w10c:rng 256 (qCJ8 rC ((qCJ6 r rM rN rC ((qCJ4 r rC (qCJ2 r rC r)),rS)).1,(decide ((Int.tmod (i64.wrap (Int.tdiv (((qCJ6 r rM rN rC ((qCJ4 r rC (qCJ2 r rC r)),rS)).1).Mask) 8)) 4) > 0)),(qCJ7 r rM rN rS rC (decide ((Int.tmod (i64.wrap (Int.tdiv (((qCJ6 r rM rN rC ((qCJ4 r rC (qCJ2 r rC r)),rS)).1).Mask) 8)) 4) > 0))))).Mask) (c2:(decide (((i64.wrap (((rChooseF (qCJ8 rC ((qCJ6 r rM rN rC ((qCJ4 r rC (qCJ2 r rC r)),rS)).1,(decide ((Int.tmod (i64.wrap (Int.tdiv (((qCJ6 r rM rN rC ((qCJ4 r rC (qCJ2 r rC r)),rS)).1).Mask) 8)) 4) > 0)),(qCJ7 r rM rN rS rC (decide ((Int.tmod (i64.wrap (Int.tdiv (((qCJ6 r rM rN rC ((qCJ4 r rC (qCJ2 r rC r)),rS)).1).Mask) 8)) 4) > 0))))) rM rN ((qCJ6 r rM rN rC ((qCJ4 r rC (qCJ2 r rC r)),rS)).2) rC).1).Dot + 1)):Int) ≤ (qCJ16y (qCJ15y r rM rN rS rC)))) = true):FnSpec Try.prog 58 1005 [pt 1000] [(1000,(RPic.bl r (sl 1001 16384 1) (sl 1002 256 1) (sl 1004 (List.length rC) 4) (sl 1003 61440 1) false)),(1001,iB 16384 rM false),(1002,iB 256 rN false),(1003,iB 61440 rS false),(1004,mB rC false)] (.tuple ⟨[]⟩) [(1000,(RPic.bl ((({ ((rChooseF (qCJ8 rC ((qCJ6 r rM rN rC ((qCJ4 r rC (qCJ2 r rC r)),rS)).1,(decide ((Int.tmod (i64.wrap (Int.tdiv (((qCJ6 r rM rN rC ((qCJ4 r rC (qCJ2 r rC r)),rS)).1).Mask) 8)) 4) > 0)),(qCJ7 r rM rN rS rC (decide ((Int.tmod (i64.wrap (Int.tdiv (((qCJ6 r rM rN rC ((qCJ4 r rC (qCJ2 r rC r)),rS)).1).Mask) 8)) 4) > 0))))) rM rN ((qCJ6 r rM rN rC ((qCJ4 r rC (qCJ2 r rC r)),rS)).2) rC).1) with Dot:=(i64.wrap (((rChooseF (qCJ8 rC ((qCJ6 r rM rN rC ((qCJ4 r rC (qCJ2 r rC r)),rS)).1,(decide ((Int.tmod (i64.wrap (Int.tdiv (((qCJ6 r rM rN rC ((qCJ4 r rC (qCJ2 r rC r)),rS)).1).Mask) 8)) 4) > 0)),(qCJ7 r rM rN rS rC (decide ((Int.tmod (i64.wrap (Int.tdiv (((qCJ6 r rM rN rC ((qCJ4 r rC (qCJ2 r rC r)),rS)).1).Mask) 8)) 4) > 0))))) rM rN ((qCJ6 r rM rN rC ((qCJ4 r rC (qCJ2 r rC r)),rS)).2) rC).1).Dot + 1)) }:RPic),((qCJ6 r rM rN rC ((qCJ4 r rC (qCJ2 r rC r)),rS)).2),(rChooseF (qCJ8 rC ((qCJ6 r rM rN rC ((qCJ4 r rC (qCJ2 r rC r)),rS)).1,(decide ((Int.tmod (i64.wrap (Int.tdiv (((qCJ6 r rM rN rC ((qCJ4 r rC (qCJ2 r rC r)),rS)).1).Mask) 8)) 4) > 0)),(qCJ7 r rM rN rS rC (decide ((Int.tmod (i64.wrap (Int.tdiv (((qCJ6 r rM rN rC ((qCJ4 r rC (qCJ2 r rC r)),rS)).1).Mask) 8)) 4) > 0))))) rM rN ((qCJ6 r rM rN rC ((qCJ4 r rC (qCJ2 r rC r)),rS)).2) rC).2).1) (sl 1001 16384 1) (sl 1002 256 1) (sl 1005 (List.length ((({ ((rChooseF (qCJ8 rC ((qCJ6 r rM rN rC ((qCJ4 r rC (qCJ2 r rC r)),rS)).1,(decide ((Int.tmod (i64.wrap (Int.tdiv (((qCJ6 r rM rN rC ((qCJ4 r rC (qCJ2 r rC r)),rS)).1).Mask) 8)) 4) > 0)),(qCJ7 r rM rN rS rC (decide ((Int.tmod (i64.wrap (Int.tdiv (((qCJ6 r rM rN rC ((qCJ4 r rC (qCJ2 r rC r)),rS)).1).Mask) 8)) 4) > 0))))) rM rN ((qCJ6 r rM rN rC ((qCJ4 r rC (qCJ2 r rC r)),rS)).2) rC).1) with Dot:=(i64.wrap (((rChooseF (qCJ8 rC ((qCJ6 r rM rN rC ((qCJ4 r rC (qCJ2 r rC r)),rS)).1,(decide ((Int.tmod (i64.wrap (Int.tdiv (((qCJ6 r rM rN rC ((qCJ4 r rC (qCJ2 r rC r)),rS)).1).Mask) 8)) 4) > 0)),(qCJ7 r rM rN rS rC (decide ((Int.tmod (i64.wrap (Int.tdiv (((qCJ6 r rM rN rC ((qCJ4 r rC (qCJ2 r rC r)),rS)).1).Mask) 8)) 4) > 0))))) rM rN ((qCJ6 r rM rN rC ((qCJ4 r rC (qCJ2 r rC r)),rS)).2) rC).1).Dot + 1)) }:RPic),((qCJ6 r rM rN rC ((qCJ4 r rC (qCJ2 r rC r)),rS)).2),(rChooseF (qCJ8 rC ((qCJ6 r rM rN rC ((qCJ4 r rC (qCJ2 r rC r)),rS)).1,(decide ((Int.tmod (i64.wrap (Int.tdiv (((qCJ6 r rM rN rC ((qCJ4 r rC (qCJ2 r rC r)),rS)).1).Mask) 8)) 4) > 0)),(qCJ7 r rM rN rS rC (decide ((Int.tmod (i64.wrap (Int.tdiv (((qCJ6 r rM rN rC ((qCJ4 r rC (qCJ2 r rC r)),rS)).1).Mask) 8)) 4) > 0))))) rM rN ((qCJ6 r rM rN rC ((qCJ4 r rC (qCJ2 r rC r)),rS)).2) rC).2).2.2)) 4) (sl 1003 61440 1) false)),(1001,iB 16384 rM false),(1002,iB 256 rN false),(1003,⟨[.ints .u8 61440 ((({ ((rChooseF (qCJ8 rC ((qCJ6 r rM rN rC ((qCJ4 r rC (qCJ2 r rC r)),rS)).1,(decide ((Int.tmod (i64.wrap (Int.tdiv (((qCJ6 r rM rN rC ((qCJ4 r rC (qCJ2 r rC r)),rS)).1).Mask) 8)) 4) > 0)),(qCJ7 r rM rN rS rC (decide ((Int.tmod (i64.wrap (Int.tdiv (((qCJ6 r rM rN rC ((qCJ4 r rC (qCJ2 r rC r)),rS)).1).Mask) 8)) 4) > 0))))) rM rN ((qCJ6 r rM rN rC ((qCJ4 r rC (qCJ2 r rC r)),rS)).2) rC).1) with Dot:=(i64.wrap (((rChooseF (qCJ8 rC ((qCJ6 r rM rN rC ((qCJ4 r rC (qCJ2 r rC r)),rS)).1,(decide ((Int.tmod (i64.wrap (Int.tdiv (((qCJ6 r rM rN rC ((qCJ4 r rC (qCJ2 r rC r)),rS)).1).Mask) 8)) 4) > 0)),(qCJ7 r rM rN rS rC (decide ((Int.tmod (i64.wrap (Int.tdiv (((qCJ6 r rM rN rC ((qCJ4 r rC (qCJ2 r rC r)),rS)).1).Mask) 8)) 4) > 0))))) rM rN ((qCJ6 r rM rN rC ((qCJ4 r rC (qCJ2 r rC r)),rS)).2) rC).1).Dot + 1)) }:RPic),((qCJ6 r rM rN rC ((qCJ4 r rC (qCJ2 r rC r)),rS)).2),(rChooseF (qCJ8 rC ((qCJ6 r rM rN rC ((qCJ4 r rC (qCJ2 r rC r)),rS)).1,(decide ((Int.tmod (i64.wrap (Int.tdiv (((qCJ6 r rM rN rC ((qCJ4 r rC (qCJ2 r rC r)),rS)).1).Mask) 8)) 4) > 0)),(qCJ7 r rM rN rS rC (decide ((Int.tmod (i64.wrap (Int.tdiv (((qCJ6 r rM rN rC ((qCJ4 r rC (qCJ2 r rC r)),rS)).1).Mask) 8)) 4) > 0))))) rM rN ((qCJ6 r rM rN rC ((qCJ4 r rC (qCJ2 r rC r)),rS)).2) rC).2).2.1)],5,false⟩),(1005,⟨[rowsL Man.cells Man.nil 4 ((({ ((rChooseF (qCJ8 rC ((qCJ6 r rM rN rC ((qCJ4 r rC (qCJ2 r rC r)),rS)).1,(decide ((Int.tmod (i64.wrap (Int.tdiv (((qCJ6 r rM rN rC ((qCJ4 r rC (qCJ2 r rC r)),rS)).1).Mask) 8)) 4) > 0)),(qCJ7 r rM rN rS rC (decide ((Int.tmod (i64.wrap (Int.tdiv (((qCJ6 r rM rN rC ((qCJ4 r rC (qCJ2 r rC r)),rS)).1).Mask) 8)) 4) > 0))))) rM rN ((qCJ6 r rM rN rC ((qCJ4 r rC (qCJ2 r rC r)),rS)).2) rC).1) with Dot:=(i64.wrap (((rChooseF (qCJ8 rC ((qCJ6 r rM rN rC ((qCJ4 r rC (qCJ2 r rC r)),rS)).1,(decide ((Int.tmod (i64.wrap (Int.tdiv (((qCJ6 r rM rN rC ((qCJ4 r rC (qCJ2 r rC r)),rS)).1).Mask) 8)) 4) > 0)),(qCJ7 r rM rN rS rC (decide ((Int.tmod (i64.wrap (Int.tdiv (((qCJ6 r rM rN rC ((qCJ4 r rC (qCJ2 r rC r)),rS)).1).Mask) 8)) 4) > 0))))) rM rN ((qCJ6 r rM rN rC ((qCJ4 r rC (qCJ2 r rC r)),rS)).2) rC).1).Dot + 1)) }:RPic),((qCJ6 r rM rN rC ((qCJ4 r rC (qCJ2 r rC r)),rS)).2),(rChooseF (qCJ8 rC ((qCJ6 r rM rN rC ((qCJ4 r rC (qCJ2 r rC r)),rS)).1,(decide ((Int.tmod (i64.wrap (Int.tdiv (((qCJ6 r rM rN rC ((qCJ4 r rC (qCJ2 r rC r)),rS)).1).Mask) 8)) 4) > 0)),(qCJ7 r rM rN rS rC (decide ((Int.tmod (i64.wrap (Int.tdiv (((qCJ6 r rM rN rC ((qCJ4 r rC (qCJ2 r rC r)),rS)).1).Mask) 8)) 4) > 0))))) rM rN ((qCJ6 r rM rN rC ((qCJ4 r rC (qCJ2 r rC r)),rS)).2) rC).2).2.2)],119,false⟩)]:=by
 exact fn_ren (v:=.tuple ⟨[]⟩) (H1:=[(1000,⟨[.one (sl 1001 16384 1),.one (sl 1002 256 1),.one (.int .i64 (((NIk1 rC r rM rN rS).1).At)),.one (.int .i64 (((((NIk1 rC r rM rN rS).1).S).V).Column)),.one (.int .i64 (((((NIk1 rC r rM rN rS).1).S).V).Line)),.one (.int .i64 (((((NIk1 rC r rM rN rS).1).S).V).Across)),.one (.int .i64 (((((NIk1 rC r rM rN rS).1).S).V).Down)),.one (.int .i64 (((((NIk1 rC r rM rN rS).1).S).V).Row)),.one (.int .i64 (((((NIk1 rC r rM rN rS).1).S).T).Column)),.one (.int .i64 (((((NIk1 rC r rM rN rS).1).S).T).Line)),.one (.int .i64 (((((NIk1 rC r rM rN rS).1).S).T).Across)),.one (.int .i64 (((((NIk1 rC r rM rN rS).1).S).T).Down)),.one (.int .i64 (((((NIk1 rC r rM rN rS).1).S).T).Row)),.one (.int .i64 ((((NIk1 rC r rM rN rS).1).S).X)),.one (.bool ((((NIk1 rC r rM rN rS).1).S).W)),.one (.int .i64 (((NIk1 rC r rM rN rS).1).Control)),.one (.int .i64 (((NIk1 rC r rM rN rS).1).Mask)),.one (.bool (((NIk1 rC r rM rN rS).1).Blank)),.one (.bool (((NIk1 rC r rM rN rS).1).Hit)),.one (.bool (((NIk1 rC r rM rN rS).1).Many)),.one (.int .i64 (((NIk1 rC r rM rN rS).1).Waits)),.one (.int .i64 (((NIk1 rC r rM rN rS).1).Bus)),.one (.bool (((NIk1 rC r rM rN rS).1).Upright)),.one (.int .i64 (((NIk1 rC r rM rN rS).1).Line)),.one (.int .i64 (i64.wrap (((NIk1 rC r rM rN rS).1).Dot + 1))),.one (.int .i64 (((NIk1 rC r rM rN rS).1).Begun)),.one (.int .i64 (((NIk1 rC r rM rN rS).1).Done)),.one (sl 1005 (List.length ((NIk1 rC r rM rN rS).2)) 4),.one (sl 1003 61440 1)],59,false⟩),(1001,iB 16384 rM false),(1002,iB 256 rN false),(1003,⟨[.ints .u8 61440 ((qCJ6 r rM rN rC ((NIk6 r rC),rS)).2)],5,false⟩),(1005,⟨[rowsL Man.cells Man.nil 4 ((NIk1 rC r rM rN rS).2)],119,false⟩)]) (fn_of_x hG hM Try.func58 (by kernel_rfl) (by kernel_rfl) 400 [.segk 0 0 [0] [1000] .normal (qCJ1_T1 r rC (qCJ1 r rC)) (qCJ1_H1 r rC (qCJ1 r rC)) 1005,.segk 2 0 [0,15] [1000] .normal (qCJ2_T1 r rC r (qCJ2 r rC r)) (qCJ2_H1 r rC r (qCJ2 r rC r)) 1005,.segk 0 3 [0] [1000] .normal (qCJ3_T1 r rC (qCJ3 r rC)) (qCJ3_H1 r rC (qCJ3 r rC)) 1005,.segk 2 0 [0,37] [1000] .normal (qCJ4_T1 r rC (qCJ2 r rC r) (NIk6 r rC)) (qCJ4_H1 r rC (qCJ2 r rC r) (NIk6 r rC)) 1005,.segk 0 5 [0] [1000] .normal (qCJ5_T1 r rC (qCJ5 r rC)) (qCJ5_H1 r rC (qCJ5 r rC)) 1005,.segk 2 0 [0,65] [1000,1001,1002,1003,1004] .normal (qCJ6_T1 r rM rN rC ((NIk6 r rC),rS) (qCJ6 r rM rN rC ((NIk6 r rC),rS))) (qCJ6_H1 r rM rN rC ((NIk6 r rC),rS) (qCJ6 r rM rN rC ((NIk6 r rC),rS))) 1005,.segk 0 8 [0,2] [1000] .normal (qCJ7_T1 r rM rN rS rC (NIk3 r rM rN rC rS) (qCJ7 r rM rN rS rC (NIk3 r rM rN rC rS))) (qCJ7_H1 r rM rN rS rC (NIk3 r rM rN rC rS) (qCJ7 r rM rN rS rC (NIk3 r rM rN rC rS))) 1005,.segk 2 0 [0,2,94] [1000] .normal (qCJ8_T1 rC (NIk0 r rM rN rC rS) (NIk8 rC r rM rN rS)) (qCJ8_H1 rC (NIk0 r rM rN rC rS) (NIk8 rC r rM rN rS)) 1005,.yes,.call [(1000,1000),(1001,1001),(1002,1002),(1003,1003),(1004,1004)] [(1005,1005)] 1005 (.tuple ⟨[]⟩) [(1000,(RPic.bl ((NIk1 rC r rM rN rS).1) (sl 1001 16384 1) (sl 1002 256 1) (sl 1005 (List.length ((NIk1 rC r rM rN rS).2)) 4) (sl 1003 61440 1) false)),(1001,iB 16384 rM false),(1002,iB 256 rN false),(1003,⟨[.ints .u8 61440 ((qCJ6 r rM rN rC ((NIk6 r rC),rS)).2)],5,false⟩),(1005,⟨[rowsL Man.cells Man.nil 4 ((NIk1 rC r rM rN rS).2)],119,false⟩)],.segk 0 20 [0,2,3] [1000] .normal (qCJ15y_T1 r rM rN rS rC (qCJ15y r rM rN rS rC)) (qCJ15y_H1 r rM rN rS rC (qCJ15y r rM rN rS rC)) 1006,.segk 2 0 [0,3,205] [] .normal (qCJ16y_T1 (qCJ15y r rM rN rS rC) (qCJ16y (qCJ15y r rM rN rS rC))) (qCJ16y_H1 (qCJ15y r rM rN rS rC) (qCJ16y (qCJ15y r rM rN rS rC))) 1006,.yes] (J (qCJ1_runs r rC) (J (qCJ2_runs r rC r) (J (qCJ3_runs r rC) (J (qCJ4_runs r rC (qCJ2 r rC r)) (J (qCJ5_runs r rC) (J (qCJ6_runs r rM rN rC ((NIk6 r rC),rS) w1c w2c w3c w4c w5c w6c w7c) (J (by decide:((8:Int) ≠ 0)) (J (by decide:((4:Int) ≠ 0)) (J (qCJ7_runs r rM rN rS rC (NIk3 r rM rN rC rS)) (J (qCJ8_runs rC (NIk0 r rM rN rC rS)) (J c1 (J (rChooseF_ok (NIk8 rC r rM rN rS) rM rN ((qCJ6 r rM rN rC ((NIk6 r rC),rS)).2) rC w1c w8c w9c w10c) (J (qCJ15y_runs r rM rN rS rC) (J (qCJ16y_runs (qCJ15y r rM rN rS rC)) (J c2 trivial))))))))))))))) (by kernel_rfl)) [(1000,1000),(1001,1001),(1002,1002),(1003,1003),(1005,1005)] 1006 (by kernel_rfl)
abbrev NIk5 (rC:List Man) (r:RPic) (rM rN rS:Nat → Int):=(({ ((NIk1 rC r rM rN rS).1) with Line:=(i64.wrap (((NIk1 rC r rM rN rS).1).Line + 1)),Dot:=0 }:RPic),(((i64.wrap (((NIk1 rC r rM rN rS).1).Line + 1)):Int) == 262))
theorem rClock_p2 (r:RPic) (rM:Nat → Int) (rN:Nat → Int) (rS:Nat → Int) (rC:List Man) (w1c:∀ j,rng 256 (rM j)) (w2c:PlaceOk (qCJ4 r rC (qCJ2 r rC r)).S.V) (w3c:0 ≤ (qCJ4 r rC (qCJ2 r rC r)).S.X ∧ (qCJ4 r rC (qCJ2 r rC r)).S.X < 8) (w4c:(qCJ5 r rC) = true → 0 ≤ (i64.wrap ((qCJ4 r rC (qCJ2 r rC r)).Dot - 1)) ∧ (i64.wrap ((qCJ4 r rC (qCJ2 r rC r)).Dot - 1)) < 256) (w5c:(qCJ5 r rC) = true → 0 ≤ (qCJ4 r rC (qCJ2 r rC r)).Line ∧ (qCJ4 r rC (qCJ2 r rC r)).Line < 240) (w6c:∀ c ∈ rC,ManOk c) (w7c:rC.length ≤ 8) (c1:(((qCJ8 rC ((qCJ6 r rM rN rC ((qCJ4 r rC (qCJ2 r rC r)),rS)).1,(decide ((Int.tmod (i64.wrap (Int.tdiv (((qCJ6 r rM rN rC ((qCJ4 r rC (qCJ2 r rC r)),rS)).1).Mask) 8)) 4) > 0)),(qCJ7 r rM rN rS rC (decide ((Int.tmod (i64.wrap (Int.tdiv (((qCJ6 r rM rN rC ((qCJ4 r rC (qCJ2 r rC r)),rS)).1).Mask) 8)) 4) > 0))))).Dot:Int) == 257) = true) (w8c:∀ j,rng 256 (rN j)) (w9c:0 ≤ (qCJ8 rC ((qCJ6 r rM rN rC ((qCJ4 r rC (qCJ2 r rC r)),rS)).1,(decide ((Int.tmod (i64.wrap (Int.tdiv (((qCJ6 r rM rN rC ((qCJ4 r rC (qCJ2 r rC r)),rS)).1).Mask) 8)) 4) > 0)),(qCJ7 r rM rN rS rC (decide ((Int.tmod (i64.wrap (Int.tdiv (((qCJ6 r rM rN rC ((qCJ4 r rC (qCJ2 r rC r)),rS)).1).Mask) 8)) 4) > 0))))).Line ∧ (qCJ8 rC ((qCJ6 r rM rN rC ((qCJ4 r rC (qCJ2 r rC r)),rS)).1,(decide ((Int.tmod (i64.wrap (Int.tdiv (((qCJ6 r rM rN rC ((qCJ4 r rC (qCJ2 r rC r)),rS)).1).Mask) 8)) 4) > 0)),(qCJ7 r rM rN rS rC (decide ((Int.tmod (i64.wrap (Int.tdiv (((qCJ6 r rM rN rC ((qCJ4 r rC (qCJ2 r rC r)),rS)).1).Mask) 8)) 4) > 0))))).Line < 300) (w10c:rng 256 (qCJ8 rC ((qCJ6 r rM rN rC ((qCJ4 r rC (qCJ2 r rC r)),rS)).1,(decide ((Int.tmod (i64.wrap (Int.tdiv (((qCJ6 r rM rN rC ((qCJ4 r rC (qCJ2 r rC r)),rS)).1).Mask) 8)) 4) > 0)),(qCJ7 r rM rN rS rC (decide ((Int.tmod (i64.wrap (Int.tdiv (((qCJ6 r rM rN rC ((qCJ4 r rC (qCJ2 r rC r)),rS)).1).Mask) 8)) 4) > 0))))).Mask) (c2:(decide (((i64.wrap (((rChooseF (qCJ8 rC ((qCJ6 r rM rN rC ((qCJ4 r rC (qCJ2 r rC r)),rS)).1,(decide ((Int.tmod (i64.wrap (Int.tdiv (((qCJ6 r rM rN rC ((qCJ4 r rC (qCJ2 r rC r)),rS)).1).Mask) 8)) 4) > 0)),(qCJ7 r rM rN rS rC (decide ((Int.tmod (i64.wrap (Int.tdiv (((qCJ6 r rM rN rC ((qCJ4 r rC (qCJ2 r rC r)),rS)).1).Mask) 8)) 4) > 0))))) rM rN ((qCJ6 r rM rN rC ((qCJ4 r rC (qCJ2 r rC r)),rS)).2) rC).1).Dot + 1)):Int) ≤ (qCJ16y (qCJ15y r rM rN rS rC)))) = false):FnSpec Try.prog 58 1005 [pt 1000] [(1000,(RPic.bl r (sl 1001 16384 1) (sl 1002 256 1) (sl 1004 (List.length rC) 4) (sl 1003 61440 1) false)),(1001,iB 16384 rM false),(1002,iB 256 rN false),(1003,iB 61440 rS false),(1004,mB rC false)] (.tuple ⟨[]⟩) [(1000,(RPic.bl (((qCJ17yn r rM rN rS rC (({ ((rChooseF (qCJ8 rC ((qCJ6 r rM rN rC ((qCJ4 r rC (qCJ2 r rC r)),rS)).1,(decide ((Int.tmod (i64.wrap (Int.tdiv (((qCJ6 r rM rN rC ((qCJ4 r rC (qCJ2 r rC r)),rS)).1).Mask) 8)) 4) > 0)),(qCJ7 r rM rN rS rC (decide ((Int.tmod (i64.wrap (Int.tdiv (((qCJ6 r rM rN rC ((qCJ4 r rC (qCJ2 r rC r)),rS)).1).Mask) 8)) 4) > 0))))) rM rN ((qCJ6 r rM rN rC ((qCJ4 r rC (qCJ2 r rC r)),rS)).2) rC).1) with Line:=(i64.wrap (((rChooseF (qCJ8 rC ((qCJ6 r rM rN rC ((qCJ4 r rC (qCJ2 r rC r)),rS)).1,(decide ((Int.tmod (i64.wrap (Int.tdiv (((qCJ6 r rM rN rC ((qCJ4 r rC (qCJ2 r rC r)),rS)).1).Mask) 8)) 4) > 0)),(qCJ7 r rM rN rS rC (decide ((Int.tmod (i64.wrap (Int.tdiv (((qCJ6 r rM rN rC ((qCJ4 r rC (qCJ2 r rC r)),rS)).1).Mask) 8)) 4) > 0))))) rM rN ((qCJ6 r rM rN rC ((qCJ4 r rC (qCJ2 r rC r)),rS)).2) rC).1).Line + 1)),Dot:=0 }:RPic),(((i64.wrap (((rChooseF (qCJ8 rC ((qCJ6 r rM rN rC ((qCJ4 r rC (qCJ2 r rC r)),rS)).1,(decide ((Int.tmod (i64.wrap (Int.tdiv (((qCJ6 r rM rN rC ((qCJ4 r rC (qCJ2 r rC r)),rS)).1).Mask) 8)) 4) > 0)),(qCJ7 r rM rN rS rC (decide ((Int.tmod (i64.wrap (Int.tdiv (((qCJ6 r rM rN rC ((qCJ4 r rC (qCJ2 r rC r)),rS)).1).Mask) 8)) 4) > 0))))) rM rN ((qCJ6 r rM rN rC ((qCJ4 r rC (qCJ2 r rC r)),rS)).2) rC).1).Line + 1)):Int) == 262))),((qCJ6 r rM rN rC ((qCJ4 r rC (qCJ2 r rC r)),rS)).2),(rChooseF (qCJ8 rC ((qCJ6 r rM rN rC ((qCJ4 r rC (qCJ2 r rC r)),rS)).1,(decide ((Int.tmod (i64.wrap (Int.tdiv (((qCJ6 r rM rN rC ((qCJ4 r rC (qCJ2 r rC r)),rS)).1).Mask) 8)) 4) > 0)),(qCJ7 r rM rN rS rC (decide ((Int.tmod (i64.wrap (Int.tdiv (((qCJ6 r rM rN rC ((qCJ4 r rC (qCJ2 r rC r)),rS)).1).Mask) 8)) 4) > 0))))) rM rN ((qCJ6 r rM rN rC ((qCJ4 r rC (qCJ2 r rC r)),rS)).2) rC).2).1) (sl 1001 16384 1) (sl 1002 256 1) (sl 1005 (List.length (((qCJ17yn r rM rN rS rC (({ ((rChooseF (qCJ8 rC ((qCJ6 r rM rN rC ((qCJ4 r rC (qCJ2 r rC r)),rS)).1,(decide ((Int.tmod (i64.wrap (Int.tdiv (((qCJ6 r rM rN rC ((qCJ4 r rC (qCJ2 r rC r)),rS)).1).Mask) 8)) 4) > 0)),(qCJ7 r rM rN rS rC (decide ((Int.tmod (i64.wrap (Int.tdiv (((qCJ6 r rM rN rC ((qCJ4 r rC (qCJ2 r rC r)),rS)).1).Mask) 8)) 4) > 0))))) rM rN ((qCJ6 r rM rN rC ((qCJ4 r rC (qCJ2 r rC r)),rS)).2) rC).1) with Line:=(i64.wrap (((rChooseF (qCJ8 rC ((qCJ6 r rM rN rC ((qCJ4 r rC (qCJ2 r rC r)),rS)).1,(decide ((Int.tmod (i64.wrap (Int.tdiv (((qCJ6 r rM rN rC ((qCJ4 r rC (qCJ2 r rC r)),rS)).1).Mask) 8)) 4) > 0)),(qCJ7 r rM rN rS rC (decide ((Int.tmod (i64.wrap (Int.tdiv (((qCJ6 r rM rN rC ((qCJ4 r rC (qCJ2 r rC r)),rS)).1).Mask) 8)) 4) > 0))))) rM rN ((qCJ6 r rM rN rC ((qCJ4 r rC (qCJ2 r rC r)),rS)).2) rC).1).Line + 1)),Dot:=0 }:RPic),(((i64.wrap (((rChooseF (qCJ8 rC ((qCJ6 r rM rN rC ((qCJ4 r rC (qCJ2 r rC r)),rS)).1,(decide ((Int.tmod (i64.wrap (Int.tdiv (((qCJ6 r rM rN rC ((qCJ4 r rC (qCJ2 r rC r)),rS)).1).Mask) 8)) 4) > 0)),(qCJ7 r rM rN rS rC (decide ((Int.tmod (i64.wrap (Int.tdiv (((qCJ6 r rM rN rC ((qCJ4 r rC (qCJ2 r rC r)),rS)).1).Mask) 8)) 4) > 0))))) rM rN ((qCJ6 r rM rN rC ((qCJ4 r rC (qCJ2 r rC r)),rS)).2) rC).1).Line + 1)):Int) == 262))),((qCJ6 r rM rN rC ((qCJ4 r rC (qCJ2 r rC r)),rS)).2),(rChooseF (qCJ8 rC ((qCJ6 r rM rN rC ((qCJ4 r rC (qCJ2 r rC r)),rS)).1,(decide ((Int.tmod (i64.wrap (Int.tdiv (((qCJ6 r rM rN rC ((qCJ4 r rC (qCJ2 r rC r)),rS)).1).Mask) 8)) 4) > 0)),(qCJ7 r rM rN rS rC (decide ((Int.tmod (i64.wrap (Int.tdiv (((qCJ6 r rM rN rC ((qCJ4 r rC (qCJ2 r rC r)),rS)).1).Mask) 8)) 4) > 0))))) rM rN ((qCJ6 r rM rN rC ((qCJ4 r rC (qCJ2 r rC r)),rS)).2) rC).2).2.2)) 4) (sl 1003 61440 1) false)),(1001,iB 16384 rM false),(1002,iB 256 rN false),(1003,⟨[.ints .u8 61440 (((qCJ17yn r rM rN rS rC (({ ((rChooseF (qCJ8 rC ((qCJ6 r rM rN rC ((qCJ4 r rC (qCJ2 r rC r)),rS)).1,(decide ((Int.tmod (i64.wrap (Int.tdiv (((qCJ6 r rM rN rC ((qCJ4 r rC (qCJ2 r rC r)),rS)).1).Mask) 8)) 4) > 0)),(qCJ7 r rM rN rS rC (decide ((Int.tmod (i64.wrap (Int.tdiv (((qCJ6 r rM rN rC ((qCJ4 r rC (qCJ2 r rC r)),rS)).1).Mask) 8)) 4) > 0))))) rM rN ((qCJ6 r rM rN rC ((qCJ4 r rC (qCJ2 r rC r)),rS)).2) rC).1) with Line:=(i64.wrap (((rChooseF (qCJ8 rC ((qCJ6 r rM rN rC ((qCJ4 r rC (qCJ2 r rC r)),rS)).1,(decide ((Int.tmod (i64.wrap (Int.tdiv (((qCJ6 r rM rN rC ((qCJ4 r rC (qCJ2 r rC r)),rS)).1).Mask) 8)) 4) > 0)),(qCJ7 r rM rN rS rC (decide ((Int.tmod (i64.wrap (Int.tdiv (((qCJ6 r rM rN rC ((qCJ4 r rC (qCJ2 r rC r)),rS)).1).Mask) 8)) 4) > 0))))) rM rN ((qCJ6 r rM rN rC ((qCJ4 r rC (qCJ2 r rC r)),rS)).2) rC).1).Line + 1)),Dot:=0 }:RPic),(((i64.wrap (((rChooseF (qCJ8 rC ((qCJ6 r rM rN rC ((qCJ4 r rC (qCJ2 r rC r)),rS)).1,(decide ((Int.tmod (i64.wrap (Int.tdiv (((qCJ6 r rM rN rC ((qCJ4 r rC (qCJ2 r rC r)),rS)).1).Mask) 8)) 4) > 0)),(qCJ7 r rM rN rS rC (decide ((Int.tmod (i64.wrap (Int.tdiv (((qCJ6 r rM rN rC ((qCJ4 r rC (qCJ2 r rC r)),rS)).1).Mask) 8)) 4) > 0))))) rM rN ((qCJ6 r rM rN rC ((qCJ4 r rC (qCJ2 r rC r)),rS)).2) rC).1).Line + 1)):Int) == 262))),((qCJ6 r rM rN rC ((qCJ4 r rC (qCJ2 r rC r)),rS)).2),(rChooseF (qCJ8 rC ((qCJ6 r rM rN rC ((qCJ4 r rC (qCJ2 r rC r)),rS)).1,(decide ((Int.tmod (i64.wrap (Int.tdiv (((qCJ6 r rM rN rC ((qCJ4 r rC (qCJ2 r rC r)),rS)).1).Mask) 8)) 4) > 0)),(qCJ7 r rM rN rS rC (decide ((Int.tmod (i64.wrap (Int.tdiv (((qCJ6 r rM rN rC ((qCJ4 r rC (qCJ2 r rC r)),rS)).1).Mask) 8)) 4) > 0))))) rM rN ((qCJ6 r rM rN rC ((qCJ4 r rC (qCJ2 r rC r)),rS)).2) rC).2).2.1)],5,false⟩),(1005,⟨[rowsL Man.cells Man.nil 4 (((qCJ17yn r rM rN rS rC (({ ((rChooseF (qCJ8 rC ((qCJ6 r rM rN rC ((qCJ4 r rC (qCJ2 r rC r)),rS)).1,(decide ((Int.tmod (i64.wrap (Int.tdiv (((qCJ6 r rM rN rC ((qCJ4 r rC (qCJ2 r rC r)),rS)).1).Mask) 8)) 4) > 0)),(qCJ7 r rM rN rS rC (decide ((Int.tmod (i64.wrap (Int.tdiv (((qCJ6 r rM rN rC ((qCJ4 r rC (qCJ2 r rC r)),rS)).1).Mask) 8)) 4) > 0))))) rM rN ((qCJ6 r rM rN rC ((qCJ4 r rC (qCJ2 r rC r)),rS)).2) rC).1) with Line:=(i64.wrap (((rChooseF (qCJ8 rC ((qCJ6 r rM rN rC ((qCJ4 r rC (qCJ2 r rC r)),rS)).1,(decide ((Int.tmod (i64.wrap (Int.tdiv (((qCJ6 r rM rN rC ((qCJ4 r rC (qCJ2 r rC r)),rS)).1).Mask) 8)) 4) > 0)),(qCJ7 r rM rN rS rC (decide ((Int.tmod (i64.wrap (Int.tdiv (((qCJ6 r rM rN rC ((qCJ4 r rC (qCJ2 r rC r)),rS)).1).Mask) 8)) 4) > 0))))) rM rN ((qCJ6 r rM rN rC ((qCJ4 r rC (qCJ2 r rC r)),rS)).2) rC).1).Line + 1)),Dot:=0 }:RPic),(((i64.wrap (((rChooseF (qCJ8 rC ((qCJ6 r rM rN rC ((qCJ4 r rC (qCJ2 r rC r)),rS)).1,(decide ((Int.tmod (i64.wrap (Int.tdiv (((qCJ6 r rM rN rC ((qCJ4 r rC (qCJ2 r rC r)),rS)).1).Mask) 8)) 4) > 0)),(qCJ7 r rM rN rS rC (decide ((Int.tmod (i64.wrap (Int.tdiv (((qCJ6 r rM rN rC ((qCJ4 r rC (qCJ2 r rC r)),rS)).1).Mask) 8)) 4) > 0))))) rM rN ((qCJ6 r rM rN rC ((qCJ4 r rC (qCJ2 r rC r)),rS)).2) rC).1).Line + 1)):Int) == 262))),((qCJ6 r rM rN rC ((qCJ4 r rC (qCJ2 r rC r)),rS)).2),(rChooseF (qCJ8 rC ((qCJ6 r rM rN rC ((qCJ4 r rC (qCJ2 r rC r)),rS)).1,(decide ((Int.tmod (i64.wrap (Int.tdiv (((qCJ6 r rM rN rC ((qCJ4 r rC (qCJ2 r rC r)),rS)).1).Mask) 8)) 4) > 0)),(qCJ7 r rM rN rS rC (decide ((Int.tmod (i64.wrap (Int.tdiv (((qCJ6 r rM rN rC ((qCJ4 r rC (qCJ2 r rC r)),rS)).1).Mask) 8)) 4) > 0))))) rM rN ((qCJ6 r rM rN rC ((qCJ4 r rC (qCJ2 r rC r)),rS)).2) rC).2).2.2)],119,false⟩)]:=by
 exact fn_ren (v:=.tuple ⟨[]⟩) (H1:=[(1000,(RPic.bl (qCJ17yn r rM rN rS rC (NIk5 rC r rM rN rS)) (sl 1001 16384 1) (sl 1002 256 1) (sl 1005 (List.length ((NIk1 rC r rM rN rS).2)) 4) (sl 1003 61440 1) false)),(1001,iB 16384 rM false),(1002,iB 256 rN false),(1003,⟨[.ints .u8 61440 ((qCJ6 r rM rN rC ((NIk6 r rC),rS)).2)],5,false⟩),(1005,⟨[rowsL Man.cells Man.nil 4 ((NIk1 rC r rM rN rS).2)],119,false⟩)]) (fn_of_x hG hM Try.func58 (by kernel_rfl) (by kernel_rfl) 400 [.segk 0 0 [0] [1000] .normal (qCJ1_T1 r rC (qCJ1 r rC)) (qCJ1_H1 r rC (qCJ1 r rC)) 1005,.segk 2 0 [0,15] [1000] .normal (qCJ2_T1 r rC r (qCJ2 r rC r)) (qCJ2_H1 r rC r (qCJ2 r rC r)) 1005,.segk 0 3 [0] [1000] .normal (qCJ3_T1 r rC (qCJ3 r rC)) (qCJ3_H1 r rC (qCJ3 r rC)) 1005,.segk 2 0 [0,37] [1000] .normal (qCJ4_T1 r rC (qCJ2 r rC r) (NIk6 r rC)) (qCJ4_H1 r rC (qCJ2 r rC r) (NIk6 r rC)) 1005,.segk 0 5 [0] [1000] .normal (qCJ5_T1 r rC (qCJ5 r rC)) (qCJ5_H1 r rC (qCJ5 r rC)) 1005,.segk 2 0 [0,65] [1000,1001,1002,1003,1004] .normal (qCJ6_T1 r rM rN rC ((NIk6 r rC),rS) (qCJ6 r rM rN rC ((NIk6 r rC),rS))) (qCJ6_H1 r rM rN rC ((NIk6 r rC),rS) (qCJ6 r rM rN rC ((NIk6 r rC),rS))) 1005,.segk 0 8 [0,2] [1000] .normal (qCJ7_T1 r rM rN rS rC (NIk3 r rM rN rC rS) (qCJ7 r rM rN rS rC (NIk3 r rM rN rC rS))) (qCJ7_H1 r rM rN rS rC (NIk3 r rM rN rC rS) (qCJ7 r rM rN rS rC (NIk3 r rM rN rC rS))) 1005,.segk 2 0 [0,2,94] [1000] .normal (qCJ8_T1 rC (NIk0 r rM rN rC rS) (NIk8 rC r rM rN rS)) (qCJ8_H1 rC (NIk0 r rM rN rC rS) (NIk8 rC r rM rN rS)) 1005,.yes,.call [(1000,1000),(1001,1001),(1002,1002),(1003,1003),(1004,1004)] [(1005,1005)] 1005 (.tuple ⟨[]⟩) [(1000,(RPic.bl ((NIk1 rC r rM rN rS).1) (sl 1001 16384 1) (sl 1002 256 1) (sl 1005 (List.length ((NIk1 rC r rM rN rS).2)) 4) (sl 1003 61440 1) false)),(1001,iB 16384 rM false),(1002,iB 256 rN false),(1003,⟨[.ints .u8 61440 ((qCJ6 r rM rN rC ((NIk6 r rC),rS)).2)],5,false⟩),(1005,⟨[rowsL Man.cells Man.nil 4 ((NIk1 rC r rM rN rS).2)],119,false⟩)],.segk 0 20 [0,2,3] [1000] .normal (qCJ15y_T1 r rM rN rS rC (qCJ15y r rM rN rS rC)) (qCJ15y_H1 r rM rN rS rC (qCJ15y r rM rN rS rC)) 1006,.segk 2 0 [0,3,205] [] .normal (qCJ16y_T1 (qCJ15y r rM rN rS rC) (qCJ16y (qCJ15y r rM rN rS rC))) (qCJ16y_H1 (qCJ15y r rM rN rS rC) (qCJ16y (qCJ15y r rM rN rS rC))) 1006,.no,.segk 2 0 [0,233] [1000] .normal (qCJ17yn_T1 r rM rN rS rC (NIk5 rC r rM rN rS) (qCJ17yn r rM rN rS rC (NIk5 rC r rM rN rS))) (qCJ17yn_H1 r rM rN rS rC (NIk5 rC r rM rN rS) (qCJ17yn r rM rN rS rC (NIk5 rC r rM rN rS))) 1006] (J (qCJ1_runs r rC) (J (qCJ2_runs r rC r) (J (qCJ3_runs r rC) (J (qCJ4_runs r rC (qCJ2 r rC r)) (J (qCJ5_runs r rC) (J (qCJ6_runs r rM rN rC ((NIk6 r rC),rS) w1c w2c w3c w4c w5c w6c w7c) (J (by decide:((8:Int) ≠ 0)) (J (by decide:((4:Int) ≠ 0)) (J (qCJ7_runs r rM rN rS rC (NIk3 r rM rN rC rS)) (J (qCJ8_runs rC (NIk0 r rM rN rC rS)) (J c1 (J (rChooseF_ok (NIk8 rC r rM rN rS) rM rN ((qCJ6 r rM rN rC ((NIk6 r rC),rS)).2) rC w1c w8c w9c w10c) (J (qCJ15y_runs r rM rN rS rC) (J (qCJ16y_runs (qCJ15y r rM rN rS rC)) (J c2 (J (qCJ17yn_runs r rM rN rS rC (NIk5 rC r rM rN rS)) trivial)))))))))))))))) (by kernel_rfl)) [(1000,1000),(1001,1001),(1002,1002),(1003,1003),(1005,1005)] 1006 (by kernel_rfl)
theorem rClock_p3 (r:RPic) (rM:Nat → Int) (rN:Nat → Int) (rS:Nat → Int) (rC:List Man) (w1c:∀ j,rng 256 (rM j)) (w2c:PlaceOk (qCJ4 r rC (qCJ2 r rC r)).S.V) (w3c:0 ≤ (qCJ4 r rC (qCJ2 r rC r)).S.X ∧ (qCJ4 r rC (qCJ2 r rC r)).S.X < 8) (w4c:(qCJ5 r rC) = true → 0 ≤ (i64.wrap ((qCJ4 r rC (qCJ2 r rC r)).Dot - 1)) ∧ (i64.wrap ((qCJ4 r rC (qCJ2 r rC r)).Dot - 1)) < 256) (w5c:(qCJ5 r rC) = true → 0 ≤ (qCJ4 r rC (qCJ2 r rC r)).Line ∧ (qCJ4 r rC (qCJ2 r rC r)).Line < 240) (w6c:∀ c ∈ rC,ManOk c) (w7c:rC.length ≤ 8) (c1:(((qCJ8 rC ((qCJ6 r rM rN rC ((qCJ4 r rC (qCJ2 r rC r)),rS)).1,(decide ((Int.tmod (i64.wrap (Int.tdiv (((qCJ6 r rM rN rC ((qCJ4 r rC (qCJ2 r rC r)),rS)).1).Mask) 8)) 4) > 0)),(qCJ7 r rM rN rS rC (decide ((Int.tmod (i64.wrap (Int.tdiv (((qCJ6 r rM rN rC ((qCJ4 r rC (qCJ2 r rC r)),rS)).1).Mask) 8)) 4) > 0))))).Dot:Int) == 257) = false) (c2:(decide (((i64.wrap ((qCJ8 rC ((qCJ6 r rM rN rC ((qCJ4 r rC (qCJ2 r rC r)),rS)).1,(decide ((Int.tmod (i64.wrap (Int.tdiv (((qCJ6 r rM rN rC ((qCJ4 r rC (qCJ2 r rC r)),rS)).1).Mask) 8)) 4) > 0)),(qCJ7 r rM rN rS rC (decide ((Int.tmod (i64.wrap (Int.tdiv (((qCJ6 r rM rN rC ((qCJ4 r rC (qCJ2 r rC r)),rS)).1).Mask) 8)) 4) > 0))))).Dot + 1)):Int) ≤ (qCJ16n (qCJ15n r rM rN rS rC)))) = true):FnSpec Try.prog 58 1005 [pt 1000] [(1000,(RPic.bl r (sl 1001 16384 1) (sl 1002 256 1) (sl 1004 (List.length rC) 4) (sl 1003 61440 1) false)),(1001,iB 16384 rM false),(1002,iB 256 rN false),(1003,iB 61440 rS false),(1004,mB rC false)] (.tuple ⟨[]⟩) [(1000,(RPic.bl ((({ (qCJ8 rC ((qCJ6 r rM rN rC ((qCJ4 r rC (qCJ2 r rC r)),rS)).1,(decide ((Int.tmod (i64.wrap (Int.tdiv (((qCJ6 r rM rN rC ((qCJ4 r rC (qCJ2 r rC r)),rS)).1).Mask) 8)) 4) > 0)),(qCJ7 r rM rN rS rC (decide ((Int.tmod (i64.wrap (Int.tdiv (((qCJ6 r rM rN rC ((qCJ4 r rC (qCJ2 r rC r)),rS)).1).Mask) 8)) 4) > 0))))) with Dot:=(i64.wrap ((qCJ8 rC ((qCJ6 r rM rN rC ((qCJ4 r rC (qCJ2 r rC r)),rS)).1,(decide ((Int.tmod (i64.wrap (Int.tdiv (((qCJ6 r rM rN rC ((qCJ4 r rC (qCJ2 r rC r)),rS)).1).Mask) 8)) 4) > 0)),(qCJ7 r rM rN rS rC (decide ((Int.tmod (i64.wrap (Int.tdiv (((qCJ6 r rM rN rC ((qCJ4 r rC (qCJ2 r rC r)),rS)).1).Mask) 8)) 4) > 0))))).Dot + 1)) }:RPic),(qCJ6 r rM rN rC ((qCJ4 r rC (qCJ2 r rC r)),rS)).2,rC).1) (sl 1001 16384 1) (sl 1002 256 1) (sl 1005 (List.length ((({ (qCJ8 rC ((qCJ6 r rM rN rC ((qCJ4 r rC (qCJ2 r rC r)),rS)).1,(decide ((Int.tmod (i64.wrap (Int.tdiv (((qCJ6 r rM rN rC ((qCJ4 r rC (qCJ2 r rC r)),rS)).1).Mask) 8)) 4) > 0)),(qCJ7 r rM rN rS rC (decide ((Int.tmod (i64.wrap (Int.tdiv (((qCJ6 r rM rN rC ((qCJ4 r rC (qCJ2 r rC r)),rS)).1).Mask) 8)) 4) > 0))))) with Dot:=(i64.wrap ((qCJ8 rC ((qCJ6 r rM rN rC ((qCJ4 r rC (qCJ2 r rC r)),rS)).1,(decide ((Int.tmod (i64.wrap (Int.tdiv (((qCJ6 r rM rN rC ((qCJ4 r rC (qCJ2 r rC r)),rS)).1).Mask) 8)) 4) > 0)),(qCJ7 r rM rN rS rC (decide ((Int.tmod (i64.wrap (Int.tdiv (((qCJ6 r rM rN rC ((qCJ4 r rC (qCJ2 r rC r)),rS)).1).Mask) 8)) 4) > 0))))).Dot + 1)) }:RPic),(qCJ6 r rM rN rC ((qCJ4 r rC (qCJ2 r rC r)),rS)).2,rC).2.2)) 4) (sl 1003 61440 1) false)),(1001,iB 16384 rM false),(1002,iB 256 rN false),(1003,⟨[.ints .u8 61440 ((({ (qCJ8 rC ((qCJ6 r rM rN rC ((qCJ4 r rC (qCJ2 r rC r)),rS)).1,(decide ((Int.tmod (i64.wrap (Int.tdiv (((qCJ6 r rM rN rC ((qCJ4 r rC (qCJ2 r rC r)),rS)).1).Mask) 8)) 4) > 0)),(qCJ7 r rM rN rS rC (decide ((Int.tmod (i64.wrap (Int.tdiv (((qCJ6 r rM rN rC ((qCJ4 r rC (qCJ2 r rC r)),rS)).1).Mask) 8)) 4) > 0))))) with Dot:=(i64.wrap ((qCJ8 rC ((qCJ6 r rM rN rC ((qCJ4 r rC (qCJ2 r rC r)),rS)).1,(decide ((Int.tmod (i64.wrap (Int.tdiv (((qCJ6 r rM rN rC ((qCJ4 r rC (qCJ2 r rC r)),rS)).1).Mask) 8)) 4) > 0)),(qCJ7 r rM rN rS rC (decide ((Int.tmod (i64.wrap (Int.tdiv (((qCJ6 r rM rN rC ((qCJ4 r rC (qCJ2 r rC r)),rS)).1).Mask) 8)) 4) > 0))))).Dot + 1)) }:RPic),(qCJ6 r rM rN rC ((qCJ4 r rC (qCJ2 r rC r)),rS)).2,rC).2.1)],5,false⟩),(1005,⟨[rowsL Man.cells Man.nil 4 ((({ (qCJ8 rC ((qCJ6 r rM rN rC ((qCJ4 r rC (qCJ2 r rC r)),rS)).1,(decide ((Int.tmod (i64.wrap (Int.tdiv (((qCJ6 r rM rN rC ((qCJ4 r rC (qCJ2 r rC r)),rS)).1).Mask) 8)) 4) > 0)),(qCJ7 r rM rN rS rC (decide ((Int.tmod (i64.wrap (Int.tdiv (((qCJ6 r rM rN rC ((qCJ4 r rC (qCJ2 r rC r)),rS)).1).Mask) 8)) 4) > 0))))) with Dot:=(i64.wrap ((qCJ8 rC ((qCJ6 r rM rN rC ((qCJ4 r rC (qCJ2 r rC r)),rS)).1,(decide ((Int.tmod (i64.wrap (Int.tdiv (((qCJ6 r rM rN rC ((qCJ4 r rC (qCJ2 r rC r)),rS)).1).Mask) 8)) 4) > 0)),(qCJ7 r rM rN rS rC (decide ((Int.tmod (i64.wrap (Int.tdiv (((qCJ6 r rM rN rC ((qCJ4 r rC (qCJ2 r rC r)),rS)).1).Mask) 8)) 4) > 0))))).Dot + 1)) }:RPic),(qCJ6 r rM rN rC ((qCJ4 r rC (qCJ2 r rC r)),rS)).2,rC).2.2)],119,false⟩)]:=by
 exact fn_ren (v:=.tuple ⟨[]⟩) (H1:=[(1000,⟨[.one (sl 1001 16384 1),.one (sl 1002 256 1),.one (.int .i64 ((NIk8 rC r rM rN rS).At)),.one (.int .i64 ((((NIk8 rC r rM rN rS).S).V).Column)),.one (.int .i64 ((((NIk8 rC r rM rN rS).S).V).Line)),.one (.int .i64 ((((NIk8 rC r rM rN rS).S).V).Across)),.one (.int .i64 ((((NIk8 rC r rM rN rS).S).V).Down)),.one (.int .i64 ((((NIk8 rC r rM rN rS).S).V).Row)),.one (.int .i64 ((((NIk8 rC r rM rN rS).S).T).Column)),.one (.int .i64 ((((NIk8 rC r rM rN rS).S).T).Line)),.one (.int .i64 ((((NIk8 rC r rM rN rS).S).T).Across)),.one (.int .i64 ((((NIk8 rC r rM rN rS).S).T).Down)),.one (.int .i64 ((((NIk8 rC r rM rN rS).S).T).Row)),.one (.int .i64 (((NIk8 rC r rM rN rS).S).X)),.one (.bool (((NIk8 rC r rM rN rS).S).W)),.one (.int .i64 ((NIk8 rC r rM rN rS).Control)),.one (.int .i64 ((NIk8 rC r rM rN rS).Mask)),.one (.bool ((NIk8 rC r rM rN rS).Blank)),.one (.bool ((NIk8 rC r rM rN rS).Hit)),.one (.bool ((NIk8 rC r rM rN rS).Many)),.one (.int .i64 ((NIk8 rC r rM rN rS).Waits)),.one (.int .i64 ((NIk8 rC r rM rN rS).Bus)),.one (.bool ((NIk8 rC r rM rN rS).Upright)),.one (.int .i64 ((NIk8 rC r rM rN rS).Line)),.one (.int .i64 (i64.wrap ((NIk8 rC r rM rN rS).Dot + 1))),.one (.int .i64 ((NIk8 rC r rM rN rS).Begun)),.one (.int .i64 ((NIk8 rC r rM rN rS).Done)),.one (sl 1004 (List.length rC) 4),.one (sl 1003 61440 1)],59,false⟩),(1001,iB 16384 rM false),(1002,iB 256 rN false),(1003,⟨[.ints .u8 61440 ((qCJ6 r rM rN rC ((NIk6 r rC),rS)).2)],5,false⟩),(1004,mB rC false)]) (fn_of_x hG hM Try.func58 (by kernel_rfl) (by kernel_rfl) 400 [.segk 0 0 [0] [1000] .normal (qCJ1_T1 r rC (qCJ1 r rC)) (qCJ1_H1 r rC (qCJ1 r rC)) 1005,.segk 2 0 [0,15] [1000] .normal (qCJ2_T1 r rC r (qCJ2 r rC r)) (qCJ2_H1 r rC r (qCJ2 r rC r)) 1005,.segk 0 3 [0] [1000] .normal (qCJ3_T1 r rC (qCJ3 r rC)) (qCJ3_H1 r rC (qCJ3 r rC)) 1005,.segk 2 0 [0,37] [1000] .normal (qCJ4_T1 r rC (qCJ2 r rC r) (NIk6 r rC)) (qCJ4_H1 r rC (qCJ2 r rC r) (NIk6 r rC)) 1005,.segk 0 5 [0] [1000] .normal (qCJ5_T1 r rC (qCJ5 r rC)) (qCJ5_H1 r rC (qCJ5 r rC)) 1005,.segk 2 0 [0,65] [1000,1001,1002,1003,1004] .normal (qCJ6_T1 r rM rN rC ((NIk6 r rC),rS) (qCJ6 r rM rN rC ((NIk6 r rC),rS))) (qCJ6_H1 r rM rN rC ((NIk6 r rC),rS) (qCJ6 r rM rN rC ((NIk6 r rC),rS))) 1005,.segk 0 8 [0,2] [1000] .normal (qCJ7_T1 r rM rN rS rC (NIk3 r rM rN rC rS) (qCJ7 r rM rN rS rC (NIk3 r rM rN rC rS))) (qCJ7_H1 r rM rN rS rC (NIk3 r rM rN rC rS) (qCJ7 r rM rN rS rC (NIk3 r rM rN rC rS))) 1005,.segk 2 0 [0,2,94] [1000] .normal (qCJ8_T1 rC (NIk0 r rM rN rC rS) (NIk8 rC r rM rN rS)) (qCJ8_H1 rC (NIk0 r rM rN rC rS) (NIk8 rC r rM rN rS)) 1005,.no,.segk 0 20 [0,2,3] [1000] .normal (qCJ15n_T1 r rM rN rS rC (qCJ15n r rM rN rS rC)) (qCJ15n_H1 r rM rN rS rC (qCJ15n r rM rN rS rC)) 1005,.segk 2 0 [0,3,205] [] .normal (qCJ16n_T1 (qCJ15n r rM rN rS rC) (qCJ16n (qCJ15n r rM rN rS rC))) (qCJ16n_H1 (qCJ15n r rM rN rS rC) (qCJ16n (qCJ15n r rM rN rS rC))) 1005,.yes] (J (qCJ1_runs r rC) (J (qCJ2_runs r rC r) (J (qCJ3_runs r rC) (J (qCJ4_runs r rC (qCJ2 r rC r)) (J (qCJ5_runs r rC) (J (qCJ6_runs r rM rN rC ((NIk6 r rC),rS) w1c w2c w3c w4c w5c w6c w7c) (J (by decide:((8:Int) ≠ 0)) (J (by decide:((4:Int) ≠ 0)) (J (qCJ7_runs r rM rN rS rC (NIk3 r rM rN rC rS)) (J (qCJ8_runs rC (NIk0 r rM rN rC rS)) (J c1 (J (qCJ15n_runs r rM rN rS rC) (J (qCJ16n_runs (qCJ15n r rM rN rS rC)) (J c2 trivial)))))))))))))) (by kernel_rfl)) [(1000,1000),(1001,1001),(1002,1002),(1003,1003),(1004,1005)] 1006 (by kernel_rfl)
abbrev NIk4 (rC:List Man) (r:RPic) (rM rN rS:Nat → Int):=(({ (NIk8 rC r rM rN rS) with Line:=(i64.wrap ((NIk8 rC r rM rN rS).Line + 1)),Dot:=0 }:RPic),(((i64.wrap ((NIk8 rC r rM rN rS).Line + 1)):Int) == 262))
theorem rClock_p4 (r:RPic) (rM:Nat → Int) (rN:Nat → Int) (rS:Nat → Int) (rC:List Man) (w1c:∀ j,rng 256 (rM j)) (w2c:PlaceOk (qCJ4 r rC (qCJ2 r rC r)).S.V) (w3c:0 ≤ (qCJ4 r rC (qCJ2 r rC r)).S.X ∧ (qCJ4 r rC (qCJ2 r rC r)).S.X < 8) (w4c:(qCJ5 r rC) = true → 0 ≤ (i64.wrap ((qCJ4 r rC (qCJ2 r rC r)).Dot - 1)) ∧ (i64.wrap ((qCJ4 r rC (qCJ2 r rC r)).Dot - 1)) < 256) (w5c:(qCJ5 r rC) = true → 0 ≤ (qCJ4 r rC (qCJ2 r rC r)).Line ∧ (qCJ4 r rC (qCJ2 r rC r)).Line < 240) (w6c:∀ c ∈ rC,ManOk c) (w7c:rC.length ≤ 8) (c1:(((qCJ8 rC ((qCJ6 r rM rN rC ((qCJ4 r rC (qCJ2 r rC r)),rS)).1,(decide ((Int.tmod (i64.wrap (Int.tdiv (((qCJ6 r rM rN rC ((qCJ4 r rC (qCJ2 r rC r)),rS)).1).Mask) 8)) 4) > 0)),(qCJ7 r rM rN rS rC (decide ((Int.tmod (i64.wrap (Int.tdiv (((qCJ6 r rM rN rC ((qCJ4 r rC (qCJ2 r rC r)),rS)).1).Mask) 8)) 4) > 0))))).Dot:Int) == 257) = false) (c2:(decide (((i64.wrap ((qCJ8 rC ((qCJ6 r rM rN rC ((qCJ4 r rC (qCJ2 r rC r)),rS)).1,(decide ((Int.tmod (i64.wrap (Int.tdiv (((qCJ6 r rM rN rC ((qCJ4 r rC (qCJ2 r rC r)),rS)).1).Mask) 8)) 4) > 0)),(qCJ7 r rM rN rS rC (decide ((Int.tmod (i64.wrap (Int.tdiv (((qCJ6 r rM rN rC ((qCJ4 r rC (qCJ2 r rC r)),rS)).1).Mask) 8)) 4) > 0))))).Dot + 1)):Int) ≤ (qCJ16n (qCJ15n r rM rN rS rC)))) = false):FnSpec Try.prog 58 1005 [pt 1000] [(1000,(RPic.bl r (sl 1001 16384 1) (sl 1002 256 1) (sl 1004 (List.length rC) 4) (sl 1003 61440 1) false)),(1001,iB 16384 rM false),(1002,iB 256 rN false),(1003,iB 61440 rS false),(1004,mB rC false)] (.tuple ⟨[]⟩) [(1000,(RPic.bl (((qCJ17nn rC (({ (qCJ8 rC ((qCJ6 r rM rN rC ((qCJ4 r rC (qCJ2 r rC r)),rS)).1,(decide ((Int.tmod (i64.wrap (Int.tdiv (((qCJ6 r rM rN rC ((qCJ4 r rC (qCJ2 r rC r)),rS)).1).Mask) 8)) 4) > 0)),(qCJ7 r rM rN rS rC (decide ((Int.tmod (i64.wrap (Int.tdiv (((qCJ6 r rM rN rC ((qCJ4 r rC (qCJ2 r rC r)),rS)).1).Mask) 8)) 4) > 0))))) with Line:=(i64.wrap ((qCJ8 rC ((qCJ6 r rM rN rC ((qCJ4 r rC (qCJ2 r rC r)),rS)).1,(decide ((Int.tmod (i64.wrap (Int.tdiv (((qCJ6 r rM rN rC ((qCJ4 r rC (qCJ2 r rC r)),rS)).1).Mask) 8)) 4) > 0)),(qCJ7 r rM rN rS rC (decide ((Int.tmod (i64.wrap (Int.tdiv (((qCJ6 r rM rN rC ((qCJ4 r rC (qCJ2 r rC r)),rS)).1).Mask) 8)) 4) > 0))))).Line + 1)),Dot:=0 }:RPic),(((i64.wrap ((qCJ8 rC ((qCJ6 r rM rN rC ((qCJ4 r rC (qCJ2 r rC r)),rS)).1,(decide ((Int.tmod (i64.wrap (Int.tdiv (((qCJ6 r rM rN rC ((qCJ4 r rC (qCJ2 r rC r)),rS)).1).Mask) 8)) 4) > 0)),(qCJ7 r rM rN rS rC (decide ((Int.tmod (i64.wrap (Int.tdiv (((qCJ6 r rM rN rC ((qCJ4 r rC (qCJ2 r rC r)),rS)).1).Mask) 8)) 4) > 0))))).Line + 1)):Int) == 262))),(qCJ6 r rM rN rC ((qCJ4 r rC (qCJ2 r rC r)),rS)).2,rC).1) (sl 1001 16384 1) (sl 1002 256 1) (sl 1005 (List.length (((qCJ17nn rC (({ (qCJ8 rC ((qCJ6 r rM rN rC ((qCJ4 r rC (qCJ2 r rC r)),rS)).1,(decide ((Int.tmod (i64.wrap (Int.tdiv (((qCJ6 r rM rN rC ((qCJ4 r rC (qCJ2 r rC r)),rS)).1).Mask) 8)) 4) > 0)),(qCJ7 r rM rN rS rC (decide ((Int.tmod (i64.wrap (Int.tdiv (((qCJ6 r rM rN rC ((qCJ4 r rC (qCJ2 r rC r)),rS)).1).Mask) 8)) 4) > 0))))) with Line:=(i64.wrap ((qCJ8 rC ((qCJ6 r rM rN rC ((qCJ4 r rC (qCJ2 r rC r)),rS)).1,(decide ((Int.tmod (i64.wrap (Int.tdiv (((qCJ6 r rM rN rC ((qCJ4 r rC (qCJ2 r rC r)),rS)).1).Mask) 8)) 4) > 0)),(qCJ7 r rM rN rS rC (decide ((Int.tmod (i64.wrap (Int.tdiv (((qCJ6 r rM rN rC ((qCJ4 r rC (qCJ2 r rC r)),rS)).1).Mask) 8)) 4) > 0))))).Line + 1)),Dot:=0 }:RPic),(((i64.wrap ((qCJ8 rC ((qCJ6 r rM rN rC ((qCJ4 r rC (qCJ2 r rC r)),rS)).1,(decide ((Int.tmod (i64.wrap (Int.tdiv (((qCJ6 r rM rN rC ((qCJ4 r rC (qCJ2 r rC r)),rS)).1).Mask) 8)) 4) > 0)),(qCJ7 r rM rN rS rC (decide ((Int.tmod (i64.wrap (Int.tdiv (((qCJ6 r rM rN rC ((qCJ4 r rC (qCJ2 r rC r)),rS)).1).Mask) 8)) 4) > 0))))).Line + 1)):Int) == 262))),(qCJ6 r rM rN rC ((qCJ4 r rC (qCJ2 r rC r)),rS)).2,rC).2.2)) 4) (sl 1003 61440 1) false)),(1001,iB 16384 rM false),(1002,iB 256 rN false),(1003,⟨[.ints .u8 61440 (((qCJ17nn rC (({ (qCJ8 rC ((qCJ6 r rM rN rC ((qCJ4 r rC (qCJ2 r rC r)),rS)).1,(decide ((Int.tmod (i64.wrap (Int.tdiv (((qCJ6 r rM rN rC ((qCJ4 r rC (qCJ2 r rC r)),rS)).1).Mask) 8)) 4) > 0)),(qCJ7 r rM rN rS rC (decide ((Int.tmod (i64.wrap (Int.tdiv (((qCJ6 r rM rN rC ((qCJ4 r rC (qCJ2 r rC r)),rS)).1).Mask) 8)) 4) > 0))))) with Line:=(i64.wrap ((qCJ8 rC ((qCJ6 r rM rN rC ((qCJ4 r rC (qCJ2 r rC r)),rS)).1,(decide ((Int.tmod (i64.wrap (Int.tdiv (((qCJ6 r rM rN rC ((qCJ4 r rC (qCJ2 r rC r)),rS)).1).Mask) 8)) 4) > 0)),(qCJ7 r rM rN rS rC (decide ((Int.tmod (i64.wrap (Int.tdiv (((qCJ6 r rM rN rC ((qCJ4 r rC (qCJ2 r rC r)),rS)).1).Mask) 8)) 4) > 0))))).Line + 1)),Dot:=0 }:RPic),(((i64.wrap ((qCJ8 rC ((qCJ6 r rM rN rC ((qCJ4 r rC (qCJ2 r rC r)),rS)).1,(decide ((Int.tmod (i64.wrap (Int.tdiv (((qCJ6 r rM rN rC ((qCJ4 r rC (qCJ2 r rC r)),rS)).1).Mask) 8)) 4) > 0)),(qCJ7 r rM rN rS rC (decide ((Int.tmod (i64.wrap (Int.tdiv (((qCJ6 r rM rN rC ((qCJ4 r rC (qCJ2 r rC r)),rS)).1).Mask) 8)) 4) > 0))))).Line + 1)):Int) == 262))),(qCJ6 r rM rN rC ((qCJ4 r rC (qCJ2 r rC r)),rS)).2,rC).2.1)],5,false⟩),(1005,⟨[rowsL Man.cells Man.nil 4 (((qCJ17nn rC (({ (qCJ8 rC ((qCJ6 r rM rN rC ((qCJ4 r rC (qCJ2 r rC r)),rS)).1,(decide ((Int.tmod (i64.wrap (Int.tdiv (((qCJ6 r rM rN rC ((qCJ4 r rC (qCJ2 r rC r)),rS)).1).Mask) 8)) 4) > 0)),(qCJ7 r rM rN rS rC (decide ((Int.tmod (i64.wrap (Int.tdiv (((qCJ6 r rM rN rC ((qCJ4 r rC (qCJ2 r rC r)),rS)).1).Mask) 8)) 4) > 0))))) with Line:=(i64.wrap ((qCJ8 rC ((qCJ6 r rM rN rC ((qCJ4 r rC (qCJ2 r rC r)),rS)).1,(decide ((Int.tmod (i64.wrap (Int.tdiv (((qCJ6 r rM rN rC ((qCJ4 r rC (qCJ2 r rC r)),rS)).1).Mask) 8)) 4) > 0)),(qCJ7 r rM rN rS rC (decide ((Int.tmod (i64.wrap (Int.tdiv (((qCJ6 r rM rN rC ((qCJ4 r rC (qCJ2 r rC r)),rS)).1).Mask) 8)) 4) > 0))))).Line + 1)),Dot:=0 }:RPic),(((i64.wrap ((qCJ8 rC ((qCJ6 r rM rN rC ((qCJ4 r rC (qCJ2 r rC r)),rS)).1,(decide ((Int.tmod (i64.wrap (Int.tdiv (((qCJ6 r rM rN rC ((qCJ4 r rC (qCJ2 r rC r)),rS)).1).Mask) 8)) 4) > 0)),(qCJ7 r rM rN rS rC (decide ((Int.tmod (i64.wrap (Int.tdiv (((qCJ6 r rM rN rC ((qCJ4 r rC (qCJ2 r rC r)),rS)).1).Mask) 8)) 4) > 0))))).Line + 1)):Int) == 262))),(qCJ6 r rM rN rC ((qCJ4 r rC (qCJ2 r rC r)),rS)).2,rC).2.2)],119,false⟩)]:=by
 exact fn_ren (v:=.tuple ⟨[]⟩) (H1:=[(1000,(RPic.bl (qCJ17nn rC (NIk4 rC r rM rN rS)) (sl 1001 16384 1) (sl 1002 256 1) (sl 1004 (List.length rC) 4) (sl 1003 61440 1) false)),(1001,iB 16384 rM false),(1002,iB 256 rN false),(1003,⟨[.ints .u8 61440 ((qCJ6 r rM rN rC ((NIk6 r rC),rS)).2)],5,false⟩),(1004,mB rC false)]) (fn_of_x hG hM Try.func58 (by kernel_rfl) (by kernel_rfl) 400 [.segk 0 0 [0] [1000] .normal (qCJ1_T1 r rC (qCJ1 r rC)) (qCJ1_H1 r rC (qCJ1 r rC)) 1005,.segk 2 0 [0,15] [1000] .normal (qCJ2_T1 r rC r (qCJ2 r rC r)) (qCJ2_H1 r rC r (qCJ2 r rC r)) 1005,.segk 0 3 [0] [1000] .normal (qCJ3_T1 r rC (qCJ3 r rC)) (qCJ3_H1 r rC (qCJ3 r rC)) 1005,.segk 2 0 [0,37] [1000] .normal (qCJ4_T1 r rC (qCJ2 r rC r) (NIk6 r rC)) (qCJ4_H1 r rC (qCJ2 r rC r) (NIk6 r rC)) 1005,.segk 0 5 [0] [1000] .normal (qCJ5_T1 r rC (qCJ5 r rC)) (qCJ5_H1 r rC (qCJ5 r rC)) 1005,.segk 2 0 [0,65] [1000,1001,1002,1003,1004] .normal (qCJ6_T1 r rM rN rC ((NIk6 r rC),rS) (qCJ6 r rM rN rC ((NIk6 r rC),rS))) (qCJ6_H1 r rM rN rC ((NIk6 r rC),rS) (qCJ6 r rM rN rC ((NIk6 r rC),rS))) 1005,.segk 0 8 [0,2] [1000] .normal (qCJ7_T1 r rM rN rS rC (NIk3 r rM rN rC rS) (qCJ7 r rM rN rS rC (NIk3 r rM rN rC rS))) (qCJ7_H1 r rM rN rS rC (NIk3 r rM rN rC rS) (qCJ7 r rM rN rS rC (NIk3 r rM rN rC rS))) 1005,.segk 2 0 [0,2,94] [1000] .normal (qCJ8_T1 rC (NIk0 r rM rN rC rS) (NIk8 rC r rM rN rS)) (qCJ8_H1 rC (NIk0 r rM rN rC rS) (NIk8 rC r rM rN rS)) 1005,.no,.segk 0 20 [0,2,3] [1000] .normal (qCJ15n_T1 r rM rN rS rC (qCJ15n r rM rN rS rC)) (qCJ15n_H1 r rM rN rS rC (qCJ15n r rM rN rS rC)) 1005,.segk 2 0 [0,3,205] [] .normal (qCJ16n_T1 (qCJ15n r rM rN rS rC) (qCJ16n (qCJ15n r rM rN rS rC))) (qCJ16n_H1 (qCJ15n r rM rN rS rC) (qCJ16n (qCJ15n r rM rN rS rC))) 1005,.no,.segk 2 0 [0,233] [1000] .normal (qCJ17nn_T1 rC (NIk4 rC r rM rN rS) (qCJ17nn rC (NIk4 rC r rM rN rS))) (qCJ17nn_H1 rC (NIk4 rC r rM rN rS) (qCJ17nn rC (NIk4 rC r rM rN rS))) 1005] (J (qCJ1_runs r rC) (J (qCJ2_runs r rC r) (J (qCJ3_runs r rC) (J (qCJ4_runs r rC (qCJ2 r rC r)) (J (qCJ5_runs r rC) (J (qCJ6_runs r rM rN rC ((NIk6 r rC),rS) w1c w2c w3c w4c w5c w6c w7c) (J (by decide:((8:Int) ≠ 0)) (J (by decide:((4:Int) ≠ 0)) (J (qCJ7_runs r rM rN rS rC (NIk3 r rM rN rC rS)) (J (qCJ8_runs rC (NIk0 r rM rN rC rS)) (J c1 (J (qCJ15n_runs r rM rN rS rC) (J (qCJ16n_runs (qCJ15n r rM rN rS rC)) (J c2 (J (qCJ17nn_runs rC (NIk4 rC r rM rN rS)) trivial))))))))))))))) (by kernel_rfl)) [(1000,1000),(1001,1001),(1002,1002),(1003,1003),(1004,1005)] 1006 (by kernel_rfl)
end Go.Proofs.Ytgnhhnmpeklciaa
namespace Go.Proofs.Ytgnhhnmpeklciaa
open Go VX
open Go.IntKind (i64 u8 u16)
def shownR (r:RPic):Prop:=0 < r.Mask / 8 % 4
instance (r:RPic):Decidable (shownR r):=by unfold shownR;infer_instance
def kkB (r:RPic):RPic:=if r.Line = 241 ∧ r.Dot = 1 then { r with Blank:=true,Done:=i64.wrap (r.Done + 1) } else r
def kkE (r:RPic):RPic:=if r.Line = 261 ∧ r.Dot = 1 then { r with Blank:=false,Hit:=false,Many:=false } else r
def kkD (M N:Nat → Int) (C:List Man) (r:RPic) (S:Nat → Int):RPic × (Nat → Int):=if r.Line < 240 ∧ 0 < r.Dot ∧ r.Dot < 257 then rDrawF r M N S C (r.Dot - 1) else (r,S)
def kkS (r:RPic) (s:RScroll):RScroll:=
 if 0 < r.Dot ∧ r.Dot < 256 ∧ r.Dot % 8 = 0 then rRight s
 else if r.Dot = 256 then rDown s
 else if r.Dot = 257 then rLine s
 else if r.Line = 261 ∧ 279 < r.Dot ∧ r.Dot < 305 then rTop s
 else s
def kkM (r:RPic):RPic:=if shownR r ∧ (r.Line < 240 ∨ r.Line = 261) then { r with S:=kkS r r.S } else r
def kkC (M N S:Nat → Int) (C:List Man) (r:RPic):RPic × List Man:=if r.Dot = 257 then rChooseF r M N S C else (r,C)
def lastR (r:RPic):Int:=if r.Line = 261 ∧ Int.tmod r.Begun 2 = 0 ∧ shownR r ∧ r.Dot = 339 then 339 else 340
def kkN (r:RPic):RPic:=
 if r.Dot + 1 ≤ lastR r then { r with Dot:=r.Dot + 1 }
 else if r.Line + 1 = 262 then { r with Dot:=0,Line:=0,Begun:=i64.wrap (r.Begun + 1) }
 else { r with Dot:=0,Line:=r.Line + 1 }
def rClockF (r : RPic) (rM : Nat → Int) (rN : Nat → Int) (rS : Nat → Int) (rC : List Man) : RPic × (Nat → Int) × List Man :=
  (kkN (kkC rM rN (kkD rM rN rC (kkE (kkB r)) rS).2 rC (kkM (kkD rM rN rC (kkE (kkB r)) rS).1)).1,
   (kkD rM rN rC (kkE (kkB r)) rS).2,
   (kkC rM rN (kkD rM rN rC (kkE (kkB r)) rS).2 rC (kkM (kkD rM rN rC (kkE (kkB r)) rS).1)).2)
structure ROk (r:RPic):Prop where
 line:0 ≤ r.Line ∧ r.Line < 262
 dot:0 ≤ r.Dot ∧ r.Dot < 341
 mask:rng 256 r.Mask
 V:PlaceOk r.S.V
 X:0 ≤ r.S.X ∧ r.S.X < 8
theorem kkB_eq (r:RPic):kkB r = { r with Blank:=(kkB r).Blank,Done:=(kkB r).Done }:=by unfold kkB;split <;> rfl
theorem kkE_eq (r:RPic):kkE r = { r with Blank:=(kkE r).Blank,Hit:=(kkE r).Hit,Many:=(kkE r).Many }:=by unfold kkE;split <;> rfl
theorem kkD_eq (M N:Nat → Int) (C:List Man) (r:RPic) (S:Nat → Int):(kkD M N C r S).1 = { r with Hit:=(kkD M N C r S).1.Hit }:=by unfold kkD;split <;> rfl
theorem kkM_eq (r:RPic):kkM r = { r with S:=(kkM r).S }:=by unfold kkM;split <;> rfl
theorem kkC_eq (M N S:Nat → Int) (C:List Man) (r:RPic):(kkC M N S C r).1 = { r with Many:=(kkC M N S C r).1.Many }:=by
 unfold kkC rChooseF;repeat' split
 all_goals rfl
theorem kkBE (r:RPic):∃ b h m d,kkE (kkB r) = { r with Blank:=b,Hit:=h,Many:=m,Done:=d }:=by
 rw [kkE_eq,kkB_eq];exact ⟨_,_,_,_,rfl⟩
theorem kkBE_ok {r:RPic} (h:ROk r):ROk (kkE (kkB r)):=by
 obtain ⟨b,hh,m,d,e⟩:=kkBE r
 rw [e];exact ⟨h.line,h.dot,h.mask,h.V,h.X⟩
theorem kkD_ok {M N:Nat → Int} {C:List Man} {r:RPic} {S:Nat → Int} (h:ROk r):ROk (kkD M N C r S).1:=by
 rw [kkD_eq];exact ⟨h.line,h.dot,h.mask,h.V,h.X⟩
theorem cj2 (r:RPic) (C:List Man):qCJ2 r C r = kkB r:=by
 unfold qCJ2 qCJ1 kkB
 by_cases h1:r.Line = 241
 ·by_cases h2:r.Dot = 1 <;> simp [h1,h2]
 ·simp [h1]
theorem cj4 (r:RPic) (C:List Man):qCJ4 r C (qCJ2 r C r) = kkE (kkB r):=by
 unfold qCJ4 qCJ3
 rw [cj2]
 unfold kkE
 by_cases h1:(kkB r).Line = 261
 ·by_cases h2:(kkB r).Dot = 1 <;> simp [h1,h2]
 ·simp [h1]
theorem cj5 (r:RPic) (C:List Man):qCJ5 r C = decide ((kkE (kkB r)).Line < 240 ∧ 0 < (kkE (kkB r)).Dot ∧ (kkE (kkB r)).Dot < 257):=by
 unfold qCJ5
 rw [cj4]
 generalize kkE (kkB r) = q
 by_cases h1:q.Line < 240
 ·by_cases h2:0 < q.Dot
  ·by_cases h3:q.Dot < 257 <;> simp [h1,h2,h3]
  ·simp [h1,h2]
 ·simp [h1]
theorem cj6 {r:RPic} (h:ROk r) (M N S:Nat → Int) (C:List Man):qCJ6 r M N C (qCJ4 r C (qCJ2 r C r),S) = kkD M N C (kkE (kkB r)) S:=by
 unfold qCJ6 kkD
 rw [cj5,cj4]
 have hd:=(kkBE_ok h).dot
 simp only [decide_eq_true_eq]
 split
 ·rw [w64 (by omega) (by omega)]
 ·rfl
theorem shown_eq {r:RPic} (h:rng 256 r.Mask):(decide (((Int.tmod (i64.wrap (Int.tdiv r.Mask 8)) 4):Int) > 0)) = decide (shownR r):=by
 have h0:=h.1;have h1:r.Mask < 256:=h.2
 rw [td_e 8 h0,w64 (by omega) (by omega),tm_e 4 (by omega)]
 rfl
theorem cj7 {r:RPic} (h:ROk r) (M N S:Nat → Int) (C:List Man) (b:Bool):qCJ7 r M N S C b = (b && decide ((kkD M N C (kkE (kkB r)) S).1.Line < 240 ∨ (kkD M N C (kkE (kkB r)) S).1.Line = 261)):=by
 unfold qCJ7
 rw [cj6 h]
 generalize (kkD M N C (kkE (kkB r)) S).1 = q
 cases b
 ·simp
 ·by_cases h1:q.Line < 240
  ·simp [h1]
  ·by_cases h2:q.Line = 261 <;> simp [h1,h2]
theorem cj8 {q:RPic} (h:0 ≤ q.Dot) (C:List Man) (b:Bool):qCJ8 C (q,b,b && decide (q.Line < 240 ∨ q.Line = 261)) = if b = true ∧ (q.Line < 240 ∨ q.Line = 261) then { q with S:=kkS q q.S } else q:=by
 unfold qCJ8
 by_cases c:b = true ∧ (q.Line < 240 ∨ q.Line = 261)
 ·rw [if_pos c,if_pos (by simp only [c.1,Bool.true_and];exact decide_eq_true c.2)]
  unfold qCJ14y qCJ13y qCJ12y qCJ11y qCJ10y qCJ9y kkS
  simp only [tm_e 8 h]
  by_cases h1:q.Dot > 0
  ·by_cases h2:q.Dot < 256
   ·by_cases h3:q.Dot % 8 = 0
    ·have n1:¬ q.Dot = 256:=by omega
     have n2:¬ q.Dot = 257:=by omega
     have n3:¬ q.Dot > 279:=by omega
     have p1:0 < q.Dot:=h1
     simp [h1,h2,h3,n1,n2,n3,p1]
    ·have n1:¬ q.Dot = 256:=by omega
     have n2:¬ q.Dot = 257:=by omega
     have n3:¬ q.Dot > 279:=by omega
     have n4:¬ 279 < q.Dot:=by omega
     simp [h1,h2,h3,n1,n2,n3,n4]
   ·by_cases h3:q.Dot = 256
    ·have n2:¬ q.Dot = 257:=by omega
     simp [h3]
    ·by_cases h4:q.Dot = 257
     ·simp [h4]
     ·by_cases h5:q.Line = 261
      ·by_cases h6:279 < q.Dot
       ·by_cases h7:q.Dot < 305
        ·simp [h1,h2,h3,h4,h5,h6,h7]
        ·simp [h1,h2,h3,h4,h5,h6,h7];rw [← h5]
       ·simp [h1,h2,h3,h4,h5,h6];rw [← h5]
      ·simp [h1,h2,h3,h4,h5]
  ·have n1:¬ q.Dot = 256:=by omega
   have n2:¬ q.Dot = 257:=by omega
   have n3:¬ q.Dot > 279:=by omega
   have n4:¬ 279 < q.Dot:=by omega
   simp [h1,n1,n2,n3,n4]
 ·rw [if_neg c,if_neg (by
   intro k
   simp only [Bool.and_eq_true,decide_eq_true_eq] at k
   exact c k)]
theorem cj16 {q:RPic} (b:Bool) (hb:b = decide (q.Line = 261 ∧ Int.tmod q.Begun 2 = 0 ∧ shownR q ∧ q.Dot = 339)):qCJ16y b = lastR q:=by
 unfold qCJ16y lastR
 rw [hb];simp only [decide_eq_true_eq]
theorem kkN_in {c:RPic} (hd:0 ≤ c.Dot ∧ c.Dot < 341) {x:Int} (hx:x = lastR c) (h:(decide (((i64.wrap (c.Dot + 1)):Int) ≤ x)) = true):kkN c = { c with Dot:=i64.wrap (c.Dot + 1) }:=by
 have h:=of_decide_eq_true h
 rw [w64 (by omega) (by omega)] at h ⊢
 unfold kkN;rw [if_pos (by omega)]
theorem kkN_out {c:RPic} (hd:0 ≤ c.Dot ∧ c.Dot < 341) (hl:0 ≤ c.Line ∧ c.Line < 262) {x:Int} (hx:x = lastR c) (h:(decide (((i64.wrap (c.Dot + 1)):Int) ≤ x)) = false) :
  kkN c = if (i64.wrap (c.Line + 1) == 262) = true then { c with Dot:=0,Line:=0,Begun:=i64.wrap (c.Begun + 1) } else { c with Dot:=0,Line:=i64.wrap (c.Line + 1) }:=by
 have h:=of_decide_eq_false h
 rw [w64 (by omega) (by omega)] at h
 rw [w64 (by omega) (by omega)]
 unfold kkN;rw [if_neg (by omega)]
 by_cases e:c.Line + 1 = 262
 ·rw [if_pos e,if_pos (by rw [e];rfl)]
 ·rw [if_neg e,if_neg (by simpa using e)]
theorem last_bool {c q:RPic} (b:Prop) [Decidable b] (hs:b ↔ shownR c):(if (c.Line == 261) = true then if (Int.tmod c.Begun 2 == 0) = true then if decide b = true then c.Dot == 339 else false else false else false) = decide (c.Line = 261 ∧ Int.tmod c.Begun 2 = 0 ∧ shownR c ∧ c.Dot = 339):=by
 by_cases h1:c.Line = 261
 ·by_cases h2:Int.tmod c.Begun 2 = 0
  ·by_cases h3:b
   ·have h4:=hs.1 h3
    by_cases h5:c.Dot = 339 <;> simp [h1,h2,h3,h4,h5]
   ·have h4:¬ shownR c:=fun k => h3 (hs.2 k)
    simp [h1,h2,h3,h4]
  ·simp [h1,h2]
 ·simp [h1]
theorem rClockF_ok (r:RPic) (rM:Nat → Int) (rN:Nat → Int) (rS:Nat → Int) (rC:List Man) (h:ROk r) (w:∀ j,rng 256 (rM j)) (wN:∀ j,rng 256 (rN j)) (hC:∀ c ∈ rC,ManOk c) (hL:rC.length ≤ 8):FnSpec Try.prog 58 1005 [pt 1000] [(1000,(RPic.bl r (sl 1001 16384 1) (sl 1002 256 1) (sl 1004 (List.length rC) 4) (sl 1003 61440 1) false)),(1001,iB 16384 rM false),(1002,iB 256 rN false),(1003,iB 61440 rS false),(1004,mB rC false)] (.tuple ⟨[]⟩) [(1000,(RPic.bl (rClockF r rM rN rS rC).1 (sl 1001 16384 1) (sl 1002 256 1) (sl 1005 (List.length (rClockF r rM rN rS rC).2.2) 4) (sl 1003 61440 1) false)),(1001,iB 16384 rM false),(1002,iB 256 rN false),(1003,⟨[.ints .u8 61440 (rClockF r rM rN rS rC).2.1],5,false⟩),(1005,⟨[rowsL Man.cells Man.nil 4 (rClockF r rM rN rS rC).2.2],119,false⟩)]:=by
 have hB:=kkBE_ok h
 have hD:ROk (kkD rM rN rC (kkE (kkB r)) rS).1:=kkD_ok hB
 have e4:=cj4 r rC
 have e6:=cj6 h rM rN rS rC
 rw [e4] at e6
 have es:=shown_eq hD.mask
 have e7:=cj7 h rM rN rS rC (decide (shownR (kkD rM rN rC (kkE (kkB r)) rS).1))
 have e8:qCJ8 rC ((kkD rM rN rC (kkE (kkB r)) rS).1,decide (shownR (kkD rM rN rC (kkE (kkB r)) rS).1),qCJ7 r rM rN rS rC (decide (shownR (kkD rM rN rC (kkE (kkB r)) rS).1))) = kkM (kkD rM rN rC (kkE (kkB r)) rS).1:=by
  rw [e7,cj8 hD.dot.1]
  unfold kkM
  simp only [decide_eq_true_eq]
 have h5:∀ Q:Prop,(((kkE (kkB r)).Line < 240 ∧ 0 < (kkE (kkB r)).Dot ∧ (kkE (kkB r)).Dot < 257) → Q) → qCJ5 r rC = true → Q:=by
  intro Q k c;rw [cj5] at c;exact k (of_decide_eq_true c)
 have a1:=hB.V
 have a2:=hB.X
 have a3:=h5 (0 ≤ (i64.wrap ((kkE (kkB r)).Dot - 1)) ∧ (i64.wrap ((kkE (kkB r)).Dot - 1)) < 256) (fun k => by rw [w64 (by omega) (by omega)];omega)
 have a4:=h5 (0 ≤ (kkE (kkB r)).Line ∧ (kkE (kkB r)).Line < 240) (fun k => ⟨hB.line.1,k.1⟩)
 have P1:=rClock_p1 r rM rN rS rC
 have P2:=rClock_p2 r rM rN rS rC
 have P3:=rClock_p3 r rM rN rS rC
 have P4:=rClock_p4 r rM rN rS rC
 dsimp only [NIk6,NIk7,NIk2,NIk3,NIk0,NIk8,NIk1,NIk5,NIk4] at P1 P2 P3 P4
 have e15y:qCJ15y r rM rN rS rC = qCJ15y r rM rN rS rC:=rfl
 unfold qCJ15y at P1 P2
 unfold qCJ15n at P3 P4
 rw [e4,e6,es,e8] at P1 P2 P3 P4
 have P1:=P1 w a1 a2 a3 a4 hC hL
 have P2:=P2 w a1 a2 a3 a4 hC hL
 have P3:=P3 w a1 a2 a3 a4 hC hL
 have P4:=P4 w a1 a2 a3 a4 hC hL
 have hM:=kkM_eq (kkD rM rN rC (kkE (kkB r)) rS).1
 generalize hq:kkM (kkD rM rN rC (kkE (kkB r)) rS).1 = q at *
 generalize hdd:kkD rM rN rC (kkE (kkB r)) rS = dd at *
 have eF:rClockF r rM rN rS rC = (kkN (kkC rM rN dd.2 rC q).1,dd.2,(kkC rM rN dd.2 rC q).2):=by unfold rClockF;rw [hdd,hq]
 rw [eF]
 have q1:0 ≤ q.Dot ∧ q.Dot < 341:=by rw [hM];exact hD.dot
 have q2:0 ≤ q.Line ∧ q.Line < 262:=by rw [hM];exact hD.line
 have q3:rng 256 q.Mask:=by rw [hM];exact hD.mask
 have q4:shownR dd.1 ↔ shownR q:=by rw [hM];exact Iff.rfl
 by_cases hd:q.Dot = 257
 ·rw [show kkC rM rN dd.2 rC q = rChooseF q rM rN dd.2 rC from if_pos hd]
  have hc:=kkC_eq rM rN dd.2 rC q
  rw [show kkC rM rN dd.2 rC q = rChooseF q rM rN dd.2 rC from if_pos hd] at hc
  have c1:((q.Dot:Int) == 257) = true:=by rw [hd];rfl
  have P1:=P1 c1 wN ⟨q2.1,by omega⟩ q3
  have P2:=P2 c1 wN ⟨q2.1,by omega⟩ q3
  generalize rChooseF q rM rN dd.2 rC = c at *
  have k1:0 ≤ c.1.Dot ∧ c.1.Dot < 341:=by rw [hc];exact q1
  have k2:0 ≤ c.1.Line ∧ c.1.Line < 262:=by rw [hc];exact q2
  have k4:shownR dd.1 ↔ shownR c.1:=by rw [hc];exact q4
  have el:=cj16 (q:=c.1) _ (last_bool (c:=c.1) (q:=c.1) _ k4)
  rcases bt (decide (((i64.wrap (c.1.Dot + 1)):Int) ≤ lastR c.1)) with g | g
  ·rw [kkN_in k1 rfl g]
   exact P1 (by rw [el];exact g)
  ·rw [kkN_out k1 k2 rfl g]
   exact P2 (by rw [el];exact g)
 ·rw [show kkC rM rN dd.2 rC q = (q,rC) from if_neg hd]
  have c1:((q.Dot:Int) == 257) = false:=beq_eq_false_iff_ne.2 hd
  have P3:=P3 c1
  have P4:=P4 c1
  have el:=cj16 (q:=q) _ (last_bool (c:=q) (q:=q) _ q4)
  have en:∀ b,qCJ16n b = qCJ16y b:=fun _ => rfl
  rcases bt (decide (((i64.wrap (q.Dot + 1)):Int) ≤ lastR q)) with g | g
  ·rw [kkN_in q1 rfl g]
   exact P3 (by rw [en,el];exact g)
  ·rw [kkN_out q1 q2 rfl g]
   exact P4 (by rw [en,el];exact g)
end Go.Proofs.Ytgnhhnmpeklciaa
namespace Go.Proofs.Ytgnhhnmpeklciaa
open Go VX IntWalk
section
variable {p:Pic} {r:RPic} {M N:Nat → Int} (h:Same p r M N)
include h
theorem pal_lt (a:Int) (h0:0 ≤ a) (h1:a < 65536) (hc:a % 16384 ≥ 16128) (L:List Sprite):pPeek p L a < 64:=by
 unfold pPeek
 rw [mask_at h0 h1,if_neg (by simp;omega),if_neg (by simp;omega)]
 have:=colour_lt (a % 16384)
 exact h.low _ (by omega)
end
end Go.Proofs.Ytgnhhnmpeklciaa
namespace Go.Proofs.Ytgnhhnmpeklciaa
open Go VX
open Go.IntKind (i64 u8 u16)
def bitsB (n:Nat):Bool:=[1,2,4,8,16,32,64,128].all fun k => ((bAnd .u8 (n:Int) k:Int) != 0) == rBit (n:Int) k
theorem bits_all:allN bitsB 8 0 = true:=by kernel_rfl
theorem mbit {n:Int} (w:rng 256 n) {k:Int} (hk:k ∈ [1,2,4,8,16,32,64,128]):((bAnd .u8 n k:Int) != 0) = rBit n k:=by
 have h:=allN_int bits_all n w.1 (by have:=w.2;simpa using this)
 unfold bitsB at h
 rw [Int.toNat_of_nonneg w.1,List.all_eq_true] at h
 exact eq_of_beq (h k hk)
theorem mbit0 {n:Int} (w:rng 256 n) {k:Int} (hk:k ∈ [1,2,4,8,16,32,64,128]):((bAnd .u8 n k:Int) == 0) = !rBit n k:=by
 rw [← mbit w hk];simp [bne]
def dotB (n:Nat):Bool:=((bAnd .u8 (bShl .u8 ((n % 256:Nat):Int) ((n / 256:Nat):Int)) 128:Int) != 0) == (((n % 256:Nat):Int) / dotD (n / 256) % 2 == 1)
theorem dot_all:allN dotB 11 0 = true:=by kernel_rfl
theorem dot_bit {n:Int} (w:rng 256 n) {j:Nat} (hj:j < 8):((bAnd .u8 (bShl .u8 n (j:Int)) 128:Int) != 0) = (n / dotD j % 2 == 1):=by
 have w0:=w.1
 have w1:n < 256:=w.2
 have h:=allN_int dot_all (n + 256 * j) (by omega) (by simp;omega)
 unfold dotB at h
 have e1:(((n + 256 * (j:Int)).toNat % 256:Nat):Int) = n:=by omega
 have e2:(n + 256 * (j:Int)).toNat / 256 = j:=by omega
 rw [e1,e2] at h
 exact eq_of_beq h
theorem two_eq {a b:Int} (wa:rng 256 a) (wb:rng 256 b) {j:Nat} (hj:j < 8):two a b (j:Int) = rNum a b j:=by
 have a0:=wa.1
 have a1:a < 256:=wa.2
 have b0:=wb.1
 have b1:b < 256:=wb.2
 have hd:0 < dotD j:=by unfold dotD;split <;> decide
 have q1:0 ≤ a / dotD j:=Int.ediv_nonneg a0 (Int.le_of_lt hd)
 have q2:0 ≤ b / dotD j:=Int.ediv_nonneg b0 (Int.le_of_lt hd)
 have q3:a / dotD j ≤ a:=Int.ediv_le_self _ a0
 have q4:b / dotD j ≤ b:=Int.ediv_le_self _ b0
 unfold two rNum
 rw [dot_bit wa hj,dot_bit wb hj]
 rw [td_e _ a0,td_e _ b0,w64 (x:=a / dotD j) (by omega) (by omega),w64 (x:=b / dotD j) (by omega) (by omega),tm_e 2 q1,tm_e 2 q2,w64 (x:=2 * _) (by omega) (by omega),w64 (by omega) (by omega)]
 simp only [beq_iff_eq]
 split <;> split <;> omega
def shB (n:Nat):Bool:=bAnd .u8 (bShr .u8 ((n % 256:Nat):Int) ((n / 256:Nat):Int)) 3 == ((n % 256:Nat):Int) / 2 ^ (n / 256) % 4
theorem sh_all:allN shB 11 0 = true:=by kernel_rfl
theorem sh_eq {n:Int} (w:rng 256 n) {j:Nat} (hj:j < 8):bAnd .u8 (bShr .u8 n (j:Int)) 3 = n / 2 ^ j % 4:=by
 have w0:=w.1
 have w1:n < 256:=w.2
 have h:=allN_int sh_all (n + 256 * j) (by omega) (by simp;omega)
 unfold shB at h
 have e1:(((n + 256 * (j:Int)).toNat % 256:Nat):Int) = n:=by omega
 have e2:(n + 256 * (j:Int)).toNat / 256 = j:=by omega
 rw [e1,e2] at h
 exact eq_of_beq h
theorem row_eq {s:Scroll} (h0:0 ≤ s.V) (h1:s.V < 32768):sRow s = s.V / 4096:=by
 unfold sRow
 rw [and_u16_28672 h0 (by omega),shr_u16_12,IntKind.wrap_u8];omega
def tileP (p : Pic) (L : List Sprite) (s : Scroll) (a : Int) : Int × Int :=
  (two (p.tiles (16 * pPeek p L (sName s) + sRow s + if rBit p.control 16 = true then 4096 else 0).toNat) (p.tiles (16 * pPeek p L (sName s) + sRow s + (if rBit p.control 16 = true then 4096 else 0) + 8).toNat) a,
   bAnd .u8 (bShr .u8 (pPeek p L (sShade s).1) (sShade s).2) 3)
theorem u16w {x:Int} (h0:0 ≤ x) (h1:x < 65536):u16.wrap x = x:=by rw [IntKind.wrap_u16];omega
section
variable {p:Pic} {r:RPic} {M N:Nat → Int} (h:Same p r M N) (L:List Sprite) (S:Nat → Int) (C:List Man)
include h
theorem pTile_eq (x:Int) (hx:0 ≤ x ∧ x < 256):pTile p L x = if rBit p.mask 8 = true ∧ (x > 7 ∨ rBit p.mask 2 = true) then (if x % 8 + p.scroll.X > 7 then tileP p L (sRight p.scroll) (x % 8 + p.scroll.X - 8) else tileP p L p.scroll (x % 8 + p.scroll.X)) else (0,0):=by
 have g:=h.sc.good
 have gr:=(sc_right h.sc).good
 have g1:=g.x0;have g2:=g.x1
 have m8:=mbit0 h.ok.mask (k:=8) (by decide)
 have m2:=mbit0 h.ok.mask (k:=2) (by decide)
 have m16:=mbit h.ok.control (k:=16) (by decide)
 have eX:i64.wrap ((Int.tmod x 8) + (i64.wrap p.scroll.X)) = x % 8 + p.scroll.X:=by
  rw [tm_e 8 hx.1,w64 (x:=p.scroll.X) (by omega) (by omega),w64 (by omega) (by omega)]
 have e8:i64.wrap (x % 8 + p.scroll.X - 8) = x % 8 + p.scroll.X - 8:=w64 (by omega) (by omega)
 have pk:∀ a,0 ≤ pPeek p L a ∧ pPeek p L a < 256:=fun a => peek_rng h a L
 have f1:∀ s:Scroll,0 ≤ s.V → s.V < 32768 → u16.wrap ((u16.wrap (16 * (u16.wrap (pPeek p L (sName s))))) + (u16.wrap (sRow s))) = 16 * pPeek p L (sName s) + sRow s ∧ 0 ≤ 16 * pPeek p L (sName s) + sRow s ∧ 16 * pPeek p L (sName s) + sRow s < 4096:=by
  intro s h0 h1
  have k:=pk (sName s)
  have er:=row_eq h0 h1
  refine ⟨?_,by omega,by omega⟩
  rw [u16w (x:=pPeek p L (sName s)) (by omega) (by omega),u16w (x:=16 * _) (by omega) (by omega),u16w (x:=sRow s) (by omega) (by omega),u16w (by omega) (by omega)]
 obtain ⟨a1,a2,a3⟩:=f1 p.scroll g.v0 g.v1
 obtain ⟨b1,b2,b3⟩:=f1 (sRight p.scroll) gr.v0 gr.v1
 have c1:=u16w (x:=16 * pPeek p L (sName p.scroll) + sRow p.scroll + 4096) (by omega) (by omega)
 have c2:=u16w (x:=16 * pPeek p L (sName p.scroll) + sRow p.scroll + 4096 + 8) (by omega) (by omega)
 have c3:=u16w (x:=16 * pPeek p L (sName p.scroll) + sRow p.scroll + 8) (by omega) (by omega)
 have d1:=u16w (x:=16 * pPeek p L (sName (sRight p.scroll)) + sRow (sRight p.scroll) + 4096) (by omega) (by omega)
 have d2:=u16w (x:=16 * pPeek p L (sName (sRight p.scroll)) + sRow (sRight p.scroll) + 4096 + 8) (by omega) (by omega)
 have d3:=u16w (x:=16 * pPeek p L (sName (sRight p.scroll)) + sRow (sRight p.scroll) + 8) (by omega) (by omega)
 unfold pTile
 simp only [m8,m2,m16,eX,e8,a1,b1,c1,c2,c3,d1,d2,d3]
 unfold tileP
 cases k8:rBit p.mask 8 with
 | false => simp
 | true =>
  cases k16:rBit p.control 16 with
  | false =>
   by_cases k:x < 8
   ·have k':¬ x > 7:=by omega
    cases k2:rBit p.mask 2 with
    | false => simp [k,k']
    | true =>
     by_cases kx:x % 8 + p.scroll.X ≥ 8
     ·have kx':x % 8 + p.scroll.X > 7:=by omega
      simp [k,kx,kx']
     ·have kx':¬ x % 8 + p.scroll.X > 7:=by omega
      simp [k,kx,kx']
   ·have k':x > 7:=by omega
    by_cases kx:x % 8 + p.scroll.X ≥ 8
    ·have kx':x % 8 + p.scroll.X > 7:=by omega
     simp [k,k',kx,kx']
    ·have kx':¬ x % 8 + p.scroll.X > 7:=by omega
     simp [k,k',kx,kx']
  | true =>
   by_cases k:x < 8
   ·have k':¬ x > 7:=by omega
    cases k2:rBit p.mask 2 with
    | false => simp [k,k']
    | true =>
     by_cases kx:x % 8 + p.scroll.X ≥ 8
     ·have kx':x % 8 + p.scroll.X > 7:=by omega
      simp [k,kx,kx']
     ·have kx':¬ x % 8 + p.scroll.X > 7:=by omega
      simp [k,kx,kx']
   ·have k':x > 7:=by omega
    by_cases kx:x % 8 + p.scroll.X ≥ 8
    ·have kx':x % 8 + p.scroll.X > 7:=by omega
     simp [k,k',kx,kx']
    ·have kx':¬ x % 8 + p.scroll.X > 7:=by omega
     simp [k,k',kx,kx']
end
end Go.Proofs.Ytgnhhnmpeklciaa
namespace Go.Proofs.Ytgnhhnmpeklciaa
open Go VX
theorem rRight_V (q:RScroll) (T:Place) (X:Int) (W:Bool):(rRight ({ V:=q.V,T:=T,X:=X,W:=W }:RScroll)).V = (rRight q).V:=by
 unfold rRight;simp only;split <;> rfl
section
variable {p:Pic} {r:RPic} {M N:Nat → Int} (h:Same p r M N) (L:List Sprite) (S:Nat → Int) (C:List Man)
include h
theorem tileP_same {s:Scroll} {q:RScroll} (hs:Sc s q) (a:Int) (ha:0 ≤ a ∧ a < 8):tileP p L s a =
  (rNum (M (tileFrom r.Control (rPeek r M N S C (rName q.V)) q.V.Row).toNat) (M (tileFrom r.Control (rPeek r M N S C (rName q.V)) q.V.Row + 8).toNat) a.toNat,rPeek r M N S C (rShade q.V).1 / 2 ^ (rShade q.V).2.toNat % 4):=by
 have g:=hs.good
 have g1:=g.v0;have g2:=g.v1
 have en:=sc_name hs
 have es:=sc_shade hs
 have er:q.V.Row = sRow s:=by rw [hs.V,row_eq g1 g2];simp only [pl];omega
 have rr:0 ≤ sRow s ∧ sRow s < 8:=by rw [row_eq g1 g2];omega
 have hn:0 ≤ sName s ∧ sName s < 65536:=by rw [sName_eq s g1 (by omega)];omega
 obtain ⟨s0,s1,n,n6,sn⟩:=shade_by (sc_place hs)
 rw [es] at s0 s1 sn
 have e1:=peek_same h (sName s) hn.1 hn.2 L S C
 have e2:=peek_same h (sShade s).1 s0 (by omega) L S C
 have w1:=peek_rng h (sName s) L
 have w1a:=w1.1
 have w1b:pPeek p L (sName s) < 256:=w1.2
 have hf:=from_ok (c:=r.Control) w1 rr
 have ef:16 * pPeek p L (sName s) + sRow s + (if rBit p.control 16 = true then 4096 else 0) = tileFrom r.Control (pPeek p L (sName s)) (sRow s):=by unfold tileFrom;rw [h.control]
 have hf2:tileFrom r.Control (pPeek p L (sName s)) (sRow s) + 8 < 8192 + 8 ∧ tileFrom r.Control (pPeek p L (sName s)) (sRow s) + 8 < 8192:=by
  unfold tileFrom;split <;> omega
 unfold tileP
 rw [ef,en,er,es,e1,e2,h.tiles _ (by omega),h.tiles _ (by omega),sn]
 obtain ⟨j,rfl⟩:∃ j:Nat,a = (j:Int):=⟨a.toNat,by omega⟩
 rw [two_eq (h.ok.tiles _) (h.ok.tiles _) (by omega),sh_eq (peek_rng h _ L) (by omega)]
 rfl
theorem tile_same (x:Int) (hx:0 ≤ x ∧ x < 256):pTile p L x = tileR r M N S C x:=by
 have g1:=h.sc.good.x0;have g2:=h.sc.good.x1
 rw [pTile_eq h L x hx]
 unfold tileR
 rw [h.mask,h.sc.X]
 by_cases c:rBit p.mask 8 = true ∧ (x > 7 ∨ rBit p.mask 2 = true)
 ·rw [if_pos c,if_pos c]
  unfold rTileF tilePl
  by_cases k:x % 8 + p.scroll.X > 7
  ·rw [if_pos k,if_pos k,tileP_same h L S C (sc_right h.sc) _ (by omega)]
   simp only [rRight_V]
  ·rw [if_neg k,if_neg k,tileP_same h L S C h.sc _ (by omega)]
 ·rw [if_neg c,if_neg c]
end
def manOf (s:Sprite):Man:={ X:=s.x,Look:=s.look,First:=s.first,Dots:=if rBit s.look 64 = true then rev8 (rNum s.low s.high) else rNum s.low s.high,Full:=true }
theorem manOf_ok {s:Sprite} (w:Sprite.ok s):ManOk (manOf s):=by
 refine ⟨⟨w.x.1,w.x.2⟩,⟨w.look.1,w.look.2⟩,fun j => ?_⟩
 have k:=fun j => rNum_rng w.low.1 w.high.1 w.low.2 w.high.2 j
 unfold manOf;simp only
 split
 ·exact rev8_rng k j
 ·exact k j
theorem man_no {s:Sprite} (w:Sprite.ok s) (x:Int) (hx:0 ≤ x ∧ x < 256):manNo s x = if s.x ≤ x ∧ x < s.x + 8 then (manOf s).Dots (x - s.x).toNat else 0:=by
 have x0:=w.x.1
 have x1:s.x < 256:=w.x.2
 have ea:manAt s x = x - s.x:=by unfold manAt;rw [w64 (x:=s.x) (by omega) (by omega),w64 (by omega) (by omega)]
 unfold manNo
 rw [ea,mbit w.look (k:=64) (by decide)]
 by_cases c:s.x ≤ x ∧ x < s.x + 8
 ·rw [if_neg (show ¬ x - s.x < 0 by omega),if_neg (show ¬ x - s.x ≥ 8 by omega),if_pos c,w64 (by omega) (by omega)]
  obtain ⟨j,hj⟩:∃ j:Nat,x - s.x = (j:Int):=⟨(x - s.x).toNat,by omega⟩
  rw [hj]
  unfold manOf
  simp only [Int.toNat_natCast]
  cases c3:rBit s.look 64 with
  | true =>
   have e:(7:Int) - (j:Int) = ((7 - j:Nat):Int):=by omega
   rw [if_pos rfl,if_pos rfl,e,two_eq w.low w.high (by omega),rev8_eq _ (by omega)]
  | false =>
   rw [if_neg (show ¬ false = true by decide),if_neg (show ¬ false = true by decide),two_eq w.low w.high (by omega)]
 ·rw [if_neg c]
  by_cases c1:x - s.x < 0
  ·rw [if_pos c1]
  ·rw [if_neg c1,if_pos (show x - s.x ≥ 8 by omega)]
theorem find_same (x:Int) (hx:0 ≤ x ∧ x < 256):∀ L:List Sprite,(∀ s ∈ L,Sprite.ok s) → (findR x (L.map manOf)).1 = (findMan x L).1 ∧ (findR x (L.map manOf)).2.First = (findMan x L).2.first ∧ (findR x (L.map manOf)).2.Look = (findMan x L).2.look ∧ Sprite.ok (findMan x L).2
 | [],_ => ⟨rfl,rfl,rfl,⟨by unfold findMan noMan rng;simp,by unfold findMan noMan rng;simp,by unfold findMan noMan rng;simp,by unfold findMan noMan rng;simp⟩⟩
 | s :: L,w => by
  have ws:=w s (List.mem_cons_self)
  have ih:=find_same x hx L fun t ht => w t (List.mem_cons_of_mem _ ht)
  have en:=man_no ws x hx
  have k:=(manOf_ok ws).dots
  simp only [List.map_cons,findR,findMan]
  have eX:(manOf s).X = s.x:=rfl
  rw [eX]
  by_cases c:s.x ≤ x ∧ x < s.x + 8
  ·rw [if_pos c] at en
   by_cases c2:(manOf s).Dots (x - s.x).toNat > 0
   ·rw [if_pos ⟨c.1,c.2,c2⟩,if_neg (by omega)]
    exact ⟨en.symm,rfl,rfl,ws⟩
   ·have:=(k (x - s.x).toNat).1
    rw [if_neg (fun q => c2 q.2.2),if_pos (by omega)]
    exact ih
  ·rw [if_neg c] at en
   rw [if_neg (fun q => c ⟨q.1,q.2.1⟩),if_pos en]
   exact ih
end Go.Proofs.Ytgnhhnmpeklciaa
namespace Go.Proofs.Ytgnhhnmpeklciaa
open Go VX
structure Both (p:Pic) (L:List Sprite) (r:RPic) (M N S:Nat → Int) (C:List Man):Prop where
 same:Same p r M N
 wM:∀ j,rng 256 (M j)
 wN:∀ j,rng 256 (N j)
 line:r.Line = p.line
 dot:r.Dot = p.dot
 lb:0 ≤ p.line ∧ p.line < 262
 db:0 ≤ p.dot ∧ p.dot < 341
 odd:p.odd = decide (Int.tmod r.Begun 2 = 0)
 frames:r.Done = p.frames
 screen:∀ j,j < 61440 → S j = p.screen j
 chosen:C = L.map manOf
 sok:∀ s ∈ L,Sprite.ok s
 len:L.length ≤ 8
theorem Both.rok {p:Pic} {L:List Sprite} {r:RPic} {M N S:Nat → Int} {C:List Man} (b:Both p L r M N S C):ROk r ∧ (∀ c ∈ C,ManOk c) ∧ C.length ≤ 8:=by
 refine ⟨⟨by rw [b.line];exact b.lb,by rw [b.dot];exact b.db,by rw [b.same.mask];exact b.same.ok.mask,sc_place b.same.sc,by rw [b.same.sc.X];exact ⟨b.same.sc.good.x0,b.same.sc.good.x1⟩⟩,fun c hc => ?_,by rw [b.chosen,List.length_map];exact b.len⟩
 rw [b.chosen] at hc
 obtain ⟨s,hs,rfl⟩:=List.mem_map.1 hc
 exact manOf_ok (b.sok s hs)
theorem sprite_same {p : Pic} {r : RPic} {M N : Nat → Int} (h : Same p r M N) (L : List Sprite) (hL : ∀ s ∈ L, Sprite.ok s) (x : Int) (hx : 0 ≤ x ∧ x < 256) :
    (manR r (L.map manOf) x).1 = (pSpriteF p L x).1 ∧ (manR r (L.map manOf) x).2.First = (pSpriteF p L x).2.first ∧ (manR r (L.map manOf) x).2.Look = (pSpriteF p L x).2.look ∧ Sprite.ok (pSpriteF p L x).2 ∧ 0 ≤ (pSpriteF p L x).1 ∧ (pSpriteF p L x).1 < 4 := by
  have f := find_same x hx L hL
  have fr := findR_ok x (L.map manOf) (fun c hc => by obtain ⟨s, hs, rfl⟩ := List.mem_map.1 hc; exact manOf_ok (hL s hs))
  have z : Sprite.ok noMan := ⟨by unfold noMan rng; simp, by unfold noMan rng; simp, by unfold noMan rng; simp, by unfold noMan rng; simp⟩
  have o0 : (0 : Int) ≤ ((0, noMan) : Int × Sprite).1 ∧ ((0, noMan) : Int × Sprite).1 < 4 := ⟨Int.le_refl 0, show (0 : Int) < 4 by decide⟩
  have m16 := mbit0 h.ok.mask (k := 16) (by decide)
  have m4 := mbit0 h.ok.mask (k := 4) (by decide)
  unfold manR pSpriteF
  rw [h.mask, m16, m4]
  cases k16 : rBit p.mask 16 with
  | false =>
    rw [if_neg (fun q => absurd q.1 (by decide)), if_pos (by decide)]
    exact ⟨rfl, rfl, rfl, z, o0⟩
  | true =>
    rw [if_neg (show ¬ (!true) = true by decide)]
    by_cases k : x < 8
    · rw [if_pos (decide_eq_true k)]
      cases k4 : rBit p.mask 4 with
      | false =>
        rw [if_neg (fun q => by rcases q.2 with q | q; · omega
                                · exact absurd q (by decide)), if_pos (by decide)]
        exact ⟨rfl, rfl, rfl, z, o0⟩
      | true =>
        rw [if_pos ⟨rfl, .inr rfl⟩, if_neg (show ¬ (!true) = true by decide)]
        exact ⟨f.1, f.2.1, f.2.2.1, f.2.2.2, by rw [← f.1]; exact fr.2.1, by rw [← f.1]; exact fr.2.2⟩
    · rw [if_neg (show ¬ (decide (x < 8)) = true by simpa using k), if_pos ⟨rfl, .inl (by omega)⟩]
      exact ⟨f.1, f.2.1, f.2.2.1, f.2.2.2, by rw [← f.1]; exact fr.2.1, by rw [← f.1]; exact fr.2.2⟩
def manB (n:Nat):Bool:=bOr .u8 (bOr .u8 16 (bShl .u8 (bAnd .u8 ((n % 256:Nat):Int) 3) 2)) ((n / 256:Nat):Int) == 16 + 4 * (((n % 256:Nat):Int) % 4) + ((n / 256:Nat):Int)
theorem man_all:allN manB 10 0 = true:=by kernel_rfl
theorem man_bits {l m:Int} (w:rng 256 l) (h0:0 ≤ m) (h1:m < 4):bOr .u8 (bOr .u8 16 (bShl .u8 (bAnd .u8 l 3) 2)) m = 16 + 4 * (l % 4) + m:=by
 have w0:=w.1
 have w1:l < 256:=w.2
 have h:=allN_int man_all (l + 256 * m) (by omega) (by simp;omega)
 unfold manB at h
 have e1:(((l + 256 * m).toNat % 256:Nat):Int) = l:=by omega
 have e2:(((l + 256 * m).toNat / 256:Nat):Int) = m:=by omega
 rw [e1,e2] at h
 exact eq_of_beq h
def colrB (n:Nat):Bool:=bOr .u8 (bShl .u8 ((n % 4:Nat):Int) 2) ((n / 4:Nat):Int) == 4 * ((n % 4:Nat):Int) + ((n / 4:Nat):Int)
theorem colr_all:allN colrB 4 0 = true:=by kernel_rfl
theorem col_bits {a b:Int} (a0:0 ≤ a) (a1:a < 4) (b0:0 ≤ b) (b1:b < 4):bOr .u8 (bShl .u8 a 2) b = 4 * a + b:=by
 have h:=allN_int colr_all (a + 4 * b) (by omega) (by simp;omega)
 unfold colrB at h
 have e1:(((a + 4 * b).toNat % 4:Nat):Int) = a:=by omega
 have e2:(((a + 4 * b).toNat / 4:Nat):Int) = b:=by omega
 rw [e1,e2] at h
 exact eq_of_beq h
def palB (n:Nat):Bool:=bOr .u16 16128 (n:Int) == 16128 + (n:Int)
theorem pal_all:allN palB 5 0 = true:=by kernel_rfl
theorem pal_bits {a:Int} (a0:0 ≤ a) (a1:a < 32):bOr .u16 16128 a = 16128 + a:=by
 have h:=allN_int pal_all a a0 (by simpa using a1)
 unfold palB at h
 rw [Int.toNat_of_nonneg a0] at h
 exact eq_of_beq h
def greyB (n:Nat):Bool:=bAnd .u8 (n:Int) 48 == (n:Int) / 16 * 16
theorem grey_all:allN greyB 6 0 = true:=by kernel_rfl
theorem grey_bits {a:Int} (a0:0 ≤ a) (a1:a < 64):bAnd .u8 a 48 = a / 16 * 16:=by
 have h:=allN_int grey_all a a0 (by simpa using a1)
 unfold greyB at h
 rw [Int.toNat_of_nonneg a0] at h
 exact eq_of_beq h
def flagsOf (b h m:Bool):Int:=(if b then 128 else 0) + (if h then 64 else 0) + (if m then 32 else 0)
theorem flags_hit (b h m:Bool):bOr .u8 (flagsOf b h m) 64 = flagsOf b true m:=by cases b <;> cases h <;> cases m <;> decide
theorem flags_many (b h m:Bool):bOr .u8 (flagsOf b h m) 32 = flagsOf b h true:=by cases b <;> cases h <;> cases m <;> decide
theorem flags_blank (b h m:Bool):bOr .u8 (flagsOf b h m) 128 = flagsOf true h m:=by cases b <;> cases h <;> cases m <;> decide
theorem flags_rng (b h m:Bool):rng 256 (flagsOf b h m):=by cases b <;> cases h <;> cases m <;> decide
theorem Same.flag {p:Pic} {r:RPic} {M N:Nat → Int} (h:Same p r M N) (b hh m:Bool) (d:Int) (q:Pic) (hq:Pic.ok q) (e:∃ sc fr,q = { p with flags:=flagsOf b hh m,screen:=sc,frames:=fr }):Same q { r with Blank:=b,Hit:=hh,Many:=m,Done:=d } M N:=by
 obtain ⟨sc,fr,rfl⟩:=e
 exact ⟨hq,h.low,h.tiles,h.names,h.colours,h.men,h.man,h.sc,h.control,h.mask,rfl,h.waits,h.bus,h.upright⟩
theorem draw_same {p:Pic} {L:List Sprite} {r:RPic} {M N S:Nat → Int} {C:List Man} (b:Both p L r M N S C) (hl:p.line < 240) (x:Int) (hx:0 ≤ x ∧ x < 256):Both (pDraw p L x) L (rDrawF r M N S C x).1 M N (rDrawF r M N S C x).2 C:=by
 have h:=b.same
 have et:=tile_same h L S C x hx
 have rt:=tileR_rng (r:=r) (N:=N) (S:=S) (C:=C) b.wM x
 obtain ⟨s1,s2,s3,s4,s5,s6⟩:=sprite_same h L b.sok x hx
 rw [← b.chosen] at s1 s2 s3
 generalize hT:tileR r M N S C x = t at et rt
 generalize hMn:manR r C x = mm at s1 s2 s3
 generalize hSp:pSpriteF p L x = sp at s1 s2 s3 s4 s5 s6
 have ef:qdJ2 p L x p.flags = flagsOf r.Blank (hitR r.Hit t mm x) r.Many:=by
  have f0:p.flags = flagsOf r.Blank r.Hit r.Many:=h.flags
  unfold qdJ2 qdJ1 hitR
  rw [et,hSp,f0,s1,s2]
  by_cases c1:t.1 = 0
  ·have n1:¬ 0 < t.1:=by omega
   simp [c1]
  ·have n1:0 < t.1:=by omega
   by_cases c2:sp.1 = 0
   ·simp [c2,c1]
   ·have n2:0 < sp.1:=by omega
    cases c3:sp.2.first with
    | false => simp [c1,c2,c3]
    | true =>
     by_cases c4:x = 255
     ·simp [c1,c2,c4]
     ·have n4:x < 255:=by omega
      simp [c1,c2,n1,n2,c4,n4,flags_hit]
 have ea:qdJ4 p L x = atR t mm:=by
  unfold qdJ4 qdJ3 qdJ5n atR
  rw [et,hSp,s1,s3,man_bits s4.look s5 s6,col_bits rt.2.1 rt.2.2 rt.1.1 rt.1.2,mbit0 s4.look (k:=32) (by decide),u16w (x:=16 + 4 * (sp.2.look % 4) + sp.1) (by omega) (by omega),u16w (x:=4 * t.2 + t.1) (by omega) (by omega)]
  by_cases c1:sp.1 = 0
  ·by_cases c2:t.1 = 0
   ·simp [c1,c2]
   ·have n2:0 < t.1:=by omega
    simp [c1,c2,n2]
  ·have n1:0 < sp.1:=by omega
   by_cases c2:t.1 = 0
   ·simp [c1,n1,c2]
   ·have n2:0 < t.1:=by omega
    cases c3:rBit sp.2.look 32 <;> simp [c1,n1,c2,n2,c3]
 have a0:=atR_rng (s:=mm) rt (by rw [s1];exact ⟨s5,s6⟩)
 have ep:=peek_same h (16128 + atR t mm) (by omega) (by omega) L S C
 have lt:=pal_lt h (16128 + atR t mm) (by omega) (by omega) (by omega) L
 have pr:=(peek_rng h (16128 + atR t mm) L).1
 have ec:qdJ6 x (pPeek p L (bOr .u16 16128 (qdJ4 p L x)),(((bAnd .u8 p.mask 1):Int) != 0)) = greyR r.Mask (rPeek r M N S C (16128 + atR t mm)):=by
  rw [ea,pal_bits a0.1 a0.2,ep]
  unfold qdJ6 greyR
  rw [mbit h.ok.mask (k:=1) (by decide),h.mask,grey_bits pr lt]
 have e1:(rDrawF r M N S C x).1 = { r with Hit:=hitR r.Hit t mm x }:=by unfold rDrawF;rw [hT,hMn]
 have e2:(rDrawF r M N S C x).2 = upd S (256 * r.Line + x).toNat (greyR r.Mask (rPeek r M N S C (16128 + atR t mm))):=by unfold rDrawF;rw [hT,hMn]
 have e3:pDraw p L x = { p with flags:=flagsOf r.Blank (hitR r.Hit t mm x) r.Many,screen:=upd p.screen (Int.toNat p.line * 256 + Int.toNat x) (greyR r.Mask (rPeek r M N S C (16128 + atR t mm))) }:=by
  unfold pDraw
  rw [ef,← ec]
  rfl
 have hok:=pDraw_w p L x h.ok
 have hs:=h.flag r.Blank (hitR r.Hit t mm x) r.Many r.Done (pDraw p L x) hok ⟨_,_,e3⟩
 rw [e1,e2]
 have hlb:=b.lb
 have ei:(256 * r.Line + x).toNat = Int.toNat p.line * 256 + Int.toNat x:=by rw [b.line];omega
 rw [ei]
 refine ⟨hs,b.wM,b.wN,?_,?_,?_,?_,?_,?_,fun j hj => ?_,b.chosen,b.sok,b.len⟩
 ·rw [e3];exact b.line
 ·rw [e3];exact b.dot
 ·rw [e3];exact b.lb
 ·rw [e3];exact b.db
 ·rw [e3];exact b.odd
 ·rw [e3];exact b.frames
 ·rw [e3]
  show upd S _ _ j = upd p.screen _ _ j
  unfold upd
  rw [b.screen j hj]
end Go.Proofs.Ytgnhhnmpeklciaa
namespace Go.Proofs.Ytgnhhnmpeklciaa
open Go VX
open Go.IntKind (i64 u8 u16)
section
variable {p:Pic} {r:RPic} {M N:Nat → Int} (h:Same p r M N)
include h
theorem height_same (L:List Sprite):pHeight p L = heightR r:=by
 unfold pHeight heightR
 rw [mbit h.ok.control (k:=32) (by decide),h.control]
theorem fetch_same (wN:∀ j,rng 256 (N j)) (L:List Sprite) (k:Nat) (hk:k < 64) (h0:0 ≤ rowR r N k) (h1:rowR r N k < heightR r):manOf (pFetch p L ((4 * k:Nat):Int) (rowR r N k)) = oneR r M N k:=by
 have e1:i64.wrap (((4 * k:Nat):Int) + 1) = ((4 * k + 1:Nat):Int):=by rw [w64 (by omega) (by omega)];omega
 have e2:i64.wrap (((4 * k:Nat):Int) + 2) = ((4 * k + 2:Nat):Int):=by rw [w64 (by omega) (by omega)];omega
 have e3:i64.wrap (((4 * k:Nat):Int) + 3) = ((4 * k + 3:Nat):Int):=by rw [w64 (by omega) (by omega)];omega
 have m1:=h.men (4 * k + 1) (by omega)
 have m2:=h.men (4 * k + 2) (by omega)
 have m3:=h.men (4 * k + 3) (by omega)
 have t0:=(wN (4 * k + 1)).1
 have t1:N (4 * k + 1) < 256:=(wN (4 * k + 1)).2
 have eh:=height_same h L
 have hh:=height_or r
 obtain ⟨u0,u1⟩:=rowT_rng h0 h1
 obtain ⟨f0,f1⟩:=fromR_rng wN h0 h1
 have ea:bAnd .u8 (N (4 * k + 1)) 1 = N (4 * k + 1) % 2:=and_u8_1 t0 t1
 have eb:bAndNot .u8 (N (4 * k + 1)) 1 = N (4 * k + 1) - N (4 * k + 1) % 2:=by rw [bAndNot_eq (k:=.u8) rfl t0 t1 (by decide) (by decide),ea]
 have f8:u16.wrap (fromR r N k + 8) = fromR r N k + 8:=by
  have:fromR r N k + 8 < 65536:=by omega
  exact u16w (by omega) this
 have g32:∀ R:Int,0 ≤ R → R < 16 → u16.wrap ((u16.wrap ((u16.wrap (4096 * (u16.wrap (N (4 * k + 1) % 2)))) + (u16.wrap (16 * (u16.wrap (N (4 * k + 1) - N (4 * k + 1) % 2)))))) + (u16.wrap (i64.wrap (R + (i64.wrap ((i64.wrap (Int.tdiv R 8)) * 8)))))) = 4096 * (N (4 * k + 1) % 2) + 16 * (N (4 * k + 1) - N (4 * k + 1) % 2 + R / 8) + R % 8:=by
  intro R r0 r1
  rw [td_e 8 r0,w64 (x:=R / 8) (by omega) (by omega),w64 (x:=R / 8 * 8) (by omega) (by omega),w64 (x:=R + _) (by omega) (by omega),u16w (x:=R + _) (by omega) (by omega),u16w (x:=N (4 * k + 1) % 2) (by omega) (by omega),u16w (x:=N (4 * k + 1) - _) (by omega) (by omega),u16w (x:=4096 * _) (by omega) (by omega),u16w (x:=16 * _) (by omega) (by omega),u16w (x:=4096 * _ + _) (by omega) (by omega),u16w (by omega) (by omega)]
  omega
 have g8:∀ R:Int,0 ≤ R → R < 16 → u16.wrap ((u16.wrap (16 * (u16.wrap (N (4 * k + 1))))) + (u16.wrap R)) = 16 * N (4 * k + 1) + R ∧ u16.wrap (16 * N (4 * k + 1) + R + 4096) = 16 * N (4 * k + 1) + R + 4096:=by
  intro R r0 r1
  rw [u16w (x:=N (4 * k + 1)) (by omega) (by omega),u16w (x:=16 * _) (by omega) (by omega),u16w (x:=R) (by omega) (by omega),u16w (x:=16 * _ + R) (by omega) (by omega),u16w (by omega) (by omega)]
  exact ⟨rfl,rfl⟩
 have er:i64.wrap (i64.wrap (heightR r - 1) - rowR r N k) = heightR r - 1 - rowR r N k:=by rw [w64 (x:=heightR r - 1) (by omega) (by omega),w64 (by omega) (by omega)]
 have ef:pFetch p L ((4 * k:Nat):Int) (rowR r N k) = { low:=p.tiles (fromR r N k).toNat,high:=p.tiles (fromR r N k + 8).toNat,look:=N (4 * k + 2),x:=N (4 * k + 3),first:=(((4 * k:Nat):Int) == 0) }:=by
  unfold pFetch
  simp only [e1,e2,e3,Int.toNat_natCast,← m1,← m2,← m3,eh,er,mbit (wN (4 * k + 2)) (k:=128) (by decide),mbit h.ok.control (k:=32) (by decide),mbit h.ok.control (k:=8) (by decide),ea,eb]
  rw [← h.control]
  unfold heightR at hh
  unfold fromR rowT heightR at f8 ⊢
  unfold rowT heightR at u0 u1
  unfold heightR at h1
  cases c1:rBit (N (4 * k + 2)) 128 with
  | true =>
   cases c2:rBit r.Control 32 with
   | true =>
    simp only [c1,c2,if_true] at f8 u0 u1 h1 ⊢
    rw [g32 _ (by omega) (by omega),f8]
   | false =>
    simp only [c1,c2,if_true,Bool.false_eq_true,if_false] at f8 u0 u1 h1 ⊢
    obtain ⟨ga,gb⟩:=g8 (8 - 1 - rowR r N k) (by omega) (by omega)
    cases c3:rBit r.Control 8 with
    | true =>
     simp only [c3,if_true,show ¬ ((8:Int) = 16) by decide,if_false] at f8 ⊢
     rw [ga,gb,f8]
    | false =>
     simp only [c3,Bool.false_eq_true,if_false,show ¬ ((8:Int) = 16) by decide,Int.add_zero] at f8 ⊢
     rw [ga,f8]
  | false =>
   cases c2:rBit r.Control 32 with
   | true =>
    simp only [c1,c2,if_true,Bool.false_eq_true,if_false] at f8 u0 u1 h1 ⊢
    rw [g32 _ (by omega) (by omega),f8]
   | false =>
    simp only [c1,c2,if_true,Bool.false_eq_true,if_false] at f8 u0 u1 h1 ⊢
    obtain ⟨ga,gb⟩:=g8 (rowR r N k) (by omega) (by omega)
    cases c3:rBit r.Control 8 with
    | true =>
     simp only [c3,if_true,show ¬ ((8:Int) = 16) by decide,if_false] at f8 ⊢
     rw [ga,gb,f8]
    | false =>
     simp only [c3,Bool.false_eq_true,if_false,show ¬ ((8:Int) = 16) by decide,Int.add_zero] at f8 ⊢
     rw [ga,f8]
 rw [ef]
 unfold manOf oneR numsR
 have ek:(((4 * k:Nat):Int) == 0) = ((k:Int) == 0):=by
  by_cases c:k = 0
  ·subst c;rfl
  ·rw [beq_eq_false_iff_ne.2 (show ((4 * k:Nat):Int) ≠ 0 by omega),beq_eq_false_iff_ne.2 (show (k:Int) ≠ 0 by omega)]
 have hf2:fromR r N k + 8 < 8192:=by
  unfold fromR at *
  split at f1 <;> (try split at f1) <;> omega
 simp only [ek]
 rw [h.tiles _ (by omega),h.tiles _ (by omega)]
end
end Go.Proofs.Ytgnhhnmpeklciaa
namespace Go.Proofs.Ytgnhhnmpeklciaa
open Go VX
open Go.IntKind (i64 u8 u16)
def kBlank (p:Pic):Pic:=
 if p.line = 241 ∧ p.dot = 1 then { p with flags:=bOr .u8 p.flags 128,frames:=i64.wrap (p.frames + 1) }
 else if p.line = 261 ∧ p.dot = 1 then { p with flags:=0 } else p
def kDraw (p:Pic) (L:List Sprite):Pic:=if p.line < 240 ∧ 1 ≤ p.dot ∧ p.dot ≤ 256 then pDraw p L (i64.wrap (p.dot - 1)) else p
def kMove (p:Pic):Pic:=if ((bAnd .u8 p.mask 24:Int) != 0) = true ∧ (p.line < 240 ∨ p.line = 261) then pMove p [] else p
def kChoose (p:Pic) (L:List Sprite):Pic × List Sprite:=if p.dot = 257 then pChooseF p L (decide (p.line < 240)) else (p,L)
def kClock (p:Pic) (L:List Sprite):Pic × List Sprite:=
 (pNext (kChoose (kMove (kDraw (kBlank p) L)) L).1 (kChoose (kMove (kDraw (kBlank p) L)) L).2,(kChoose (kMove (kDraw (kBlank p) L)) L).2)
theorem pMove_eq (p:Pic) (L:List Sprite):pMove p L = { p with scroll:=(pMove p L).scroll }:=by
 unfold pMove;repeat' split
 all_goals rfl
theorem kMove_eq (p:Pic):kMove p = { p with scroll:=(kMove p).scroll }:=by
 unfold kMove;split
 ·exact pMove_eq _ _
 ·rfl
theorem mask_shows (p:Pic) (L:List Sprite):pShows p L = ((bAnd .u8 p.mask 24:Int) != 0):=rfl
theorem pMove_dot (p:Pic) (L:List Sprite):(pMove p L).dot = p.dot:=by rw [pMove_eq]
theorem pMove_line (p:Pic) (L:List Sprite):(pMove p L).line = p.line:=by rw [pMove_eq]
theorem clock_eq (p:Pic) (L:List Sprite):pClock p L = kClock p L:=by
 by_cases a1:p.line = 241 ∧ p.dot = 1
 ·have e:pClock p L = (pNext ({ p with flags:=(bOr .u8 p.flags 128),frames:=(i64.wrap (p.frames + 1)) }:Pic) L,L):=by
   unfold pClock
   rw [if_pos (by rw [a1.1];rfl),if_pos (by rw [a1.2];rfl)]
   split <;> rfl
  rw [e]
  unfold kClock kBlank
  simp only [if_pos a1]
  have d1:kDraw ({ p with flags:=(bOr .u8 p.flags 128),frames:=(i64.wrap (p.frames + 1)) }:Pic) L = ({ p with flags:=(bOr .u8 p.flags 128),frames:=(i64.wrap (p.frames + 1)) }:Pic):=by
   unfold kDraw;exact if_neg (by show ¬ (p.line < 240 ∧ _);omega)
  have d2:kMove ({ p with flags:=(bOr .u8 p.flags 128),frames:=(i64.wrap (p.frames + 1)) }:Pic) = ({ p with flags:=(bOr .u8 p.flags 128),frames:=(i64.wrap (p.frames + 1)) }:Pic):=by
   unfold kMove;exact if_neg (by show ¬ (_ ∧ (p.line < 240 ∨ p.line = 261));omega)
  have d3:kChoose ({ p with flags:=(bOr .u8 p.flags 128),frames:=(i64.wrap (p.frames + 1)) }:Pic) L = (({ p with flags:=(bOr .u8 p.flags 128),frames:=(i64.wrap (p.frames + 1)) }:Pic),L):=by
   unfold kChoose;exact if_neg (by show ¬ (p.dot = 257);omega)
  rw [d1,d2,d3]
 ·by_cases a2:p.line = 261 ∧ p.dot = 1
  ·have hb:kBlank p = ({ p with flags:=0 }:Pic):=by unfold kBlank;rw [if_neg a1,if_pos a2]
   have d1:kDraw ({ p with flags:=0 }:Pic) L = ({ p with flags:=0 }:Pic):=by unfold kDraw;exact if_neg (by show ¬ (p.line < 240 ∧ _);omega)
   have d3:∀ q:Pic,q.dot = p.dot → kChoose q L = (q,L):=by intro q h;unfold kChoose;exact if_neg (by omega)
   unfold kClock
   rw [hb,d1,d3 _ (by rw [kMove_eq])]
   unfold pClock
   rw [if_neg (by rw [a2.1];decide),if_pos (by rw [a2.1];rfl),if_pos (by rw [a2.2];rfl)]
   by_cases hs:((bAnd .u8 p.mask 24:Int) != 0) = true
   ·have:kMove ({ p with flags:=0 }:Pic) = pMove ({ p with flags:=0 }:Pic) L:=by unfold kMove;rw [if_pos ⟨hs,.inr a2.1⟩];rfl
    rw [if_pos (show pShows ({ p with flags:=0 }:Pic) L = true from hs),if_neg (by rw [pMove_dot];show ¬ (p.dot == 257) = true;rw [a2.2];decide),this]
   ·have:kMove ({ p with flags:=0 }:Pic) = ({ p with flags:=0 }:Pic):=by unfold kMove;exact if_neg (fun h => hs h.1)
    rw [if_neg (show ¬ pShows ({ p with flags:=0 }:Pic) L = true from hs),this]
  ·have hb:kBlank p = p:=by unfold kBlank;rw [if_neg a1,if_neg a2]
   unfold kClock
   rw [hb]
   by_cases a3:p.line < 240 ∧ 1 ≤ p.dot ∧ p.dot ≤ 256
   ·have d1:kDraw p L = pDraw p L (i64.wrap (p.dot - 1)):=if_pos a3
    have d3:∀ q:Pic,q.dot = p.dot → kChoose q L = (q,L):=by intro q h;unfold kChoose;exact if_neg (by omega)
    have dd:(pDraw p L (i64.wrap (p.dot - 1))).dot = p.dot:=rfl
    have dl:(pDraw p L (i64.wrap (p.dot - 1))).line = p.line:=rfl
    have dm:(pDraw p L (i64.wrap (p.dot - 1))).mask = p.mask:=rfl
    rw [d1,d3 _ (by rw [kMove_eq];exact dd)]
    unfold pClock
    rw [if_neg (by simp;omega),if_neg (by simp;omega),if_pos (by simp;omega),if_pos (by simp;omega),if_pos (by simp;omega)]
    by_cases hs:((bAnd .u8 p.mask 24:Int) != 0) = true
    ·have:kMove (pDraw p L (i64.wrap (p.dot - 1))) = pMove (pDraw p L (i64.wrap (p.dot - 1))) L:=by unfold kMove;rw [if_pos ⟨hs,.inl a3.1⟩];rfl
     rw [if_pos (show pShows (pDraw p L (i64.wrap (p.dot - 1))) L = true from hs),if_neg (by rw [pMove_dot,dd];simp;omega),this]
    ·have:kMove (pDraw p L (i64.wrap (p.dot - 1))) = pDraw p L (i64.wrap (p.dot - 1)):=by unfold kMove;exact if_neg (fun h => hs h.1)
     rw [if_neg (show ¬ pShows (pDraw p L (i64.wrap (p.dot - 1))) L = true from hs),if_neg (by rw [dd];simp;omega),this]
   ·have d1:kDraw p L = p:=if_neg a3
    rw [d1]
    by_cases hs:((bAnd .u8 p.mask 24:Int) != 0) = true
    ·by_cases hl:p.line < 240 ∨ p.line = 261
     ·have hm:kMove p = pMove p L:=by unfold kMove;rw [if_pos ⟨hs,hl⟩];rfl
      rw [hm]
      unfold pClock kChoose
      simp only [pMove_dot,pMove_line,mask_shows,hs]
      by_cases h257:p.dot = 257
      ·simp only [h257]
       rcases hl with h | h
       ·have n1:¬ p.line = 241:=by omega
        have n2:¬ p.line = 261:=by omega
        simp [n1,n2,h]
       ·simp [h]
      ·simp only [if_neg h257]
       rcases hl with h | h
       ·have n1:¬ p.line = 241:=by omega
        have n2:¬ p.line = 261:=by omega
        by_cases e1:p.dot ≥ 1
        ·have e2:¬ p.dot ≤ 256:=by omega
         simp [n1,n2,h,e1,e2,h257]
        ·simp [n1,n2,h,e1,h257]
       ·have n3:¬ p.dot = 1:=by omega
        simp [h,n3,h257]
     ·have hm:kMove p = p:=by unfold kMove;exact if_neg (fun h => hl h.2)
      rw [hm]
      unfold pClock kChoose
      simp only [mask_shows,hs]
      have n1:¬ p.line < 240:=by omega
      have n2:¬ p.line = 261:=by omega
      by_cases h257:p.dot = 257
      ·simp [n1,n2,h257]
      ·by_cases e:p.line = 241
       ·have e2:¬ p.dot = 1:=by omega
        simp [e,e2,h257]
       ·simp [n1,n2,e,h257]
    ·have hm:kMove p = p:=by unfold kMove;exact if_neg (fun h => hs h.1)
     rw [hm]
     have hs':((bAnd .u8 p.mask 24:Int) != 0) = false:=by simpa using hs
     unfold pClock kChoose
     simp only [mask_shows,hs']
     by_cases h257:p.dot = 257
     ·by_cases n1:p.line < 240
      ·have n2:¬ p.line = 241:=by omega
       have n3:¬ p.line = 261:=by omega
       simp [n1,n2,n3,h257]
      ·by_cases n2:p.line = 241
       ·simp [n2,h257]
       ·by_cases n3:p.line = 261
        ·simp [n3,h257]
        ·simp [n1,n2,n3,h257]
     ·by_cases n1:p.line < 240
      ·have n2:¬ p.line = 241:=by omega
       have n3:¬ p.line = 261:=by omega
       by_cases e1:p.dot ≥ 1
       ·have e2:¬ p.dot ≤ 256:=by omega
        simp [n1,n2,n3,h257,e1,e2]
       ·simp [n1,n2,n3,h257,e1]
      ·by_cases n2:p.line = 241
       ·have e2:¬ p.dot = 1:=by omega
        simp [n2,h257,e2]
       ·by_cases n3:p.line = 261
        ·have e2:¬ p.dot = 1:=by omega
         simp [n3,h257,e2]
        ·simp [n1,n2,n3,h257]
theorem pNext_eq (p:Pic) (L:List Sprite) (h0:0 ≤ p.dot) (h1:p.dot < 1000) (l0:0 ≤ p.line) (l1:p.line < 262):pNext p L =
  if p.dot + 1 + (if p.line = 261 ∧ p.dot = 339 ∧ p.odd = true ∧ ((bAnd .u8 p.mask 24:Int) != 0) = true then 1 else 0) < 341 then { p with dot:=p.dot + 1 }
  else if p.line = 261 then { p with line:=0,dot:=0,odd:=!p.odd } else { p with line:=p.line + 1,dot:=0 }:=by
 have w1:i64.wrap (p.dot + 1) = p.dot + 1:=i64_in2 (by omega) (by omega)
 have w2:i64.wrap (p.dot + 1 + 1) = p.dot + 1 + 1:=i64_in2 (by omega) (by omega)
 have w3:i64.wrap (p.line + 1) = p.line + 1:=i64_in2 (by omega) (by omega)
 unfold pNext
 simp only [w1,w2,w3,mask_shows,decide_eq_true_eq,beq_iff_eq]
 by_cases c1:p.line = 261
 ·by_cases c2:p.dot = 339
  ·by_cases c3:p.odd = true
   ·by_cases c4:((bAnd .u8 p.mask 24:Int) != 0) = true
    ·simp only [c1,c2,c3,c4];simp
    ·simp only [c1,c2,c3,c4];simp
   ·simp only [c1,c2,c3];simp
  ·have c2':¬ (p.dot + 1 = 340):=by omega
   simp only [c1,c2,c2',false_and,and_false,if_false,if_true,Int.add_zero]
   rfl
 ·have c1':¬ (p.line + 1 = 262):=by omega
  simp only [c1,c1',false_and,if_false,Int.add_zero]
end Go.Proofs.Ytgnhhnmpeklciaa
namespace Go.Proofs.Ytgnhhnmpeklciaa
open Go VX
open Go.IntKind (i64 u8 u16)
def showB (n:Nat):Bool:=((bAnd .u8 (n:Int) 24:Int) != 0) == decide (0 < (n:Int) / 8 % 4)
theorem show_all:allN showB 8 0 = true:=by kernel_rfl
theorem show_same {p:Pic} {r:RPic} {M N:Nat → Int} (h:Same p r M N):((bAnd .u8 p.mask 24:Int) != 0) = decide (shownR r):=by
 have w:=h.ok.mask
 have k:=allN_int show_all p.mask w.1 (by have:=w.2;simpa using this)
 unfold showB at k
 rw [Int.toNat_of_nonneg w.1] at k
 rw [eq_of_beq k]
 exact decide_eq_decide.2 (by unfold shownR;rw [h.mask])
theorem chooseL_same {p:Pic} {r:RPic} {M N:Nat → Int} (h:Same p r M N) (wN:∀ j,rng 256 (N j)) (hl:r.Line = p.line) (lb:0 ≤ p.line ∧ p.line < 262):∀ (n k:Nat) (L:List Sprite),n + k = 64 → (∀ s ∈ L,Sprite.ok s) →
  (chooseL p n (4 * k) L).1.map manOf = (chooseR r M N n k (L.map manOf)).1 ∧ (chooseL p n (4 * k) L).2 = (if (chooseR r M N n k (L.map manOf)).2 = true then { p with flags:=bOr .u8 p.flags 32 } else p) ∧ (∀ s ∈ (chooseL p n (4 * k) L).1,Sprite.ok s)
 | 0,k,L,_,hs => ⟨rfl,rfl,hs⟩
 | n + 1,k,L,hk,hs => by
  have m0:=h.men (4 * k) (by omega)
  have v0:=(wN (4 * k)).1
  have v1:N (4 * k) < 256:=(wN (4 * k)).2
  have er:i64.wrap (p.line - i64.wrap (p.men (4 * k))) = rowR r N k:=by
   unfold rowR
   rw [← m0,hl,w64 (x:=N (4 * k)) (by omega) (by omega),w64 (by omega) (by omega)]
  have ih:=fun L' hs' => chooseL_same h wN hl lb n (k + 1) L' (by omega) hs'
  have ek:4 * k + 4 = 4 * (k + 1):=rfl
  unfold chooseL chooseR
  rw [er,height_same h L,List.length_map,ek]
  by_cases c1:rowR r N k < 0
  ·rw [if_pos c1,if_pos (.inl c1)]
   exact ih L hs
  ·rw [if_neg c1]
   by_cases c2:rowR r N k ≥ heightR r
   ·rw [if_pos c2,if_pos (.inr c2)]
    exact ih L hs
   ·rw [if_neg c2,if_neg (show ¬ (rowR r N k < 0 ∨ rowR r N k ≥ heightR r) from fun q => q.elim c1 c2)]
    by_cases c3:L.length = 8
    ·rw [if_pos c3,if_pos c3]
     exact ⟨rfl,rfl,hs⟩
    ·rw [if_neg c3,if_neg c3]
     have e:=fetch_same h wN L k (by omega) (by omega) (by omega)
     have:=ih (L ++ [pFetch p L ((4 * k:Nat):Int) (rowR r N k)]) (fun s hs' => by
      rcases List.mem_append.1 hs' with q | q
      ·exact hs s q
      ·obtain rfl:s = _:=by simpa using q
       exact fetch_ok p L _ _ h.ok)
     rw [List.map_append,List.map_cons,List.map_nil,e] at this
     exact this
section
variable {p:Pic} {L:List Sprite} {r:RPic} {M N S:Nat → Int} {C:List Man} (b:Both p L r M N S C)
include b
theorem blank_same:Both (kBlank p) L (kkE (kkB r)) M N S C:=by
 have h:=b.same
 have f0:p.flags = flagsOf r.Blank r.Hit r.Many:=h.flags
 have hok:=h.ok
 unfold kBlank
 by_cases c1:p.line = 241 ∧ p.dot = 1
 ·have c1':r.Line = 241 ∧ r.Dot = 1:=by rw [b.line,b.dot];exact c1
  rw [if_pos c1]
  have e:kkE (kkB r) = { r with Blank:=true,Hit:=r.Hit,Many:=r.Many,Done:=i64.wrap (r.Done + 1) }:=by
   unfold kkB;rw [if_pos c1'];unfold kkE;rw [if_neg (by show ¬ (r.Line = 261 ∧ _);omega)]
  rw [e]
  refine ⟨h.flag true r.Hit r.Many _ _ ⟨hok.tiles,hok.names,hok.colours,hok.men,hok.man,hok.scroll,hok.control,hok.mask,?_,hok.waits,hok.bus,hok.screen⟩ ⟨_,_,by rw [f0,flags_blank]⟩,b.wM,b.wN,b.line,b.dot,b.lb,b.db,b.odd,?_,b.screen,b.chosen,b.sok,b.len⟩
  ·rw [f0,flags_blank];exact flags_rng _ _ _
  ·show i64.wrap (r.Done + 1) = i64.wrap (p.frames + 1);rw [b.frames]
 ·have c1':¬ (r.Line = 241 ∧ r.Dot = 1):=by rw [b.line,b.dot];exact c1
  rw [if_neg c1]
  have e0:kkB r = r:=by unfold kkB;exact if_neg c1'
  rw [e0]
  by_cases c2:p.line = 261 ∧ p.dot = 1
  ·have c2':r.Line = 261 ∧ r.Dot = 1:=by rw [b.line,b.dot];exact c2
   rw [if_pos c2]
   have e:kkE r = { r with Blank:=false,Hit:=false,Many:=false,Done:=r.Done }:=by unfold kkE;rw [if_pos c2']
   rw [e]
   exact ⟨h.flag false false false _ _ ⟨hok.tiles,hok.names,hok.colours,hok.men,hok.man,hok.scroll,hok.control,hok.mask,by show rng 256 0;decide,hok.waits,hok.bus,hok.screen⟩ ⟨_,_,rfl⟩,b.wM,b.wN,b.line,b.dot,b.lb,b.db,b.odd,b.frames,b.screen,b.chosen,b.sok,b.len⟩
  ·have c2':¬ (r.Line = 261 ∧ r.Dot = 1):=by rw [b.line,b.dot];exact c2
   rw [if_neg c2]
   have e:kkE r = r:=by unfold kkE;exact if_neg c2'
   rw [e];exact b
theorem kdraw_same:Both (kDraw p L) L (kkD M N C r S).1 M N (kkD M N C r S).2 C:=by
 have hd:=b.db
 unfold kDraw kkD
 by_cases c:p.line < 240 ∧ 1 ≤ p.dot ∧ p.dot ≤ 256
 ·rw [if_pos c,if_pos (by rw [b.line,b.dot];omega),w64 (by omega) (by omega),b.dot]
  exact draw_same b c.1 (p.dot - 1) (by omega)
 ·rw [if_neg c,if_neg (by rw [b.line,b.dot];omega)]
  exact b
theorem pMove_s (hd:0 ≤ p.dot):(pMove p []).scroll = (if 0 < p.dot ∧ p.dot < 256 ∧ p.dot % 8 = 0 then sRight p.scroll else if p.dot = 256 then sDown p.scroll else if p.dot = 257 then sLine p.scroll else if p.line = 261 ∧ 279 < p.dot ∧ p.dot < 305 then sTop p.scroll else p.scroll):=by
 unfold pMove
 rw [tm_e 8 hd]
 by_cases h1:p.dot < 256
 ·have n1:¬ p.dot ≥ 280:=by omega
  have n2:¬ p.dot = 257:=by omega
  have n3:¬ p.dot = 256:=by omega
  have n4:¬ 279 < p.dot:=by omega
  by_cases h2:0 < p.dot
  ·by_cases h3:p.dot % 8 = 0 <;> simp [h1,h2,h3,n1,n2,n3,n4]
  ·simp [h1,h2,n1,n2,n3,n4]
 ·by_cases h2:p.dot = 256
  ·simp [h2]
  ·by_cases h3:p.dot = 257
   ·simp [h3]
   ·by_cases h4:p.dot ≥ 280
    ·have n1:279 < p.dot:=by omega
     by_cases h5:p.dot ≤ 304
     ·have n2:p.dot < 305:=by omega
      by_cases h6:p.line = 261 <;> simp [h1,h2,h3,h4,h5,h6,n1,n2]
     ·have n2:¬ p.dot < 305:=by omega
      simp [h1,h2,h3,h4,h5,n1,n2]
    ·have n1:¬ 279 < p.dot:=by omega
     simp [h1,h2,h3,h4,n1]
theorem move_same:Both (kMove p) L (kkM r) M N S C:=by
 have h:=b.same
 unfold kMove kkM
 rw [show_same h]
 by_cases c:shownR r ∧ (r.Line < 240 ∨ r.Line = 261)
 ·rw [if_pos c,if_pos ⟨decide_eq_true c.1,by rw [← b.line];exact c.2⟩]
  have e1:=pMove_eq p []
  have e2:=pMove_s b b.db.1
  have hs:Sc (pMove p []).scroll (kkS r r.S):=by
   rw [e2]
   unfold kkS
   rw [b.line,b.dot]
   split
   ·exact sc_right h.sc
   ·split
    ·exact sc_down h.sc
    ·split
     ·exact sc_line h.sc
     ·split
      ·exact sc_top h.sc
      ·exact h.sc
  have hw:=with_scroll h hs
  rw [e1]
  exact ⟨hw,b.wM,b.wN,b.line,b.dot,b.lb,b.db,b.odd,b.frames,b.screen,b.chosen,b.sok,b.len⟩
 ·rw [if_neg c,if_neg (fun q => c ⟨of_decide_eq_true q.1,by rw [b.line];exact q.2⟩)]
  exact b
theorem choose_same:Both (kChoose p L).1 (kChoose p L).2 (kkC M N S C r).1 M N S (kkC M N S C r).2:=by
 have h:=b.same
 have f0:p.flags = flagsOf r.Blank r.Hit r.Many:=h.flags
 have hok:=h.ok
 have em:r.Mask / 8 % 4 = 0 ↔ ¬ shownR r:=by
  unfold shownR
  have:=h.ok.mask.1
  rw [h.mask];omega
 unfold kChoose kkC
 by_cases c:p.dot = 257
 ·rw [if_pos c,if_pos (by rw [b.dot];exact c)]
  unfold pChooseF rChooseF
  rw [show pShows p ([]:List Sprite) = decide (shownR r) from show_same h]
  by_cases c1:p.line < 240
  ·rw [if_neg (by simp [c1])]
   by_cases c2:shownR r
   ·rw [if_neg (by simp [c2]),if_neg (by rw [em,b.line];rintro (q | q);omega;exact q c2)]
    obtain ⟨q1,q2,q3⟩:=chooseL_same h b.wN b.line b.lb 64 0 [] rfl (fun s hs => by cases hs)
    have ql:=choose_len p 64 0 [] (by decide)
    have e0:4 * 0 = 0:=rfl
    rw [e0] at q1 q2 q3
    simp only [List.map_nil] at q1 q2
    rw [← q1,q2]
    by_cases c3:(chooseR r M N 64 0 []).2 = true
    ·rw [if_pos c3,if_pos c3]
     refine ⟨?_,b.wM,b.wN,b.line,b.dot,b.lb,b.db,b.odd,b.frames,b.screen,rfl,q3,ql⟩
     have:=h.flag r.Blank r.Hit true r.Done ({ p with flags:=bOr .u8 p.flags 32 }:Pic) ⟨hok.tiles,hok.names,hok.colours,hok.men,hok.man,hok.scroll,hok.control,hok.mask,by rw [f0,flags_many];exact flags_rng _ _ _,hok.waits,hok.bus,hok.screen⟩ ⟨_,_,by rw [f0,flags_many]⟩
     exact this
    ·rw [if_neg c3,if_neg c3]
     exact ⟨h,b.wM,b.wN,b.line,b.dot,b.lb,b.db,b.odd,b.frames,b.screen,rfl,q3,ql⟩
   ·rw [if_pos (by simp [c2]),if_pos (by rw [em];exact .inr c2)]
    exact ⟨h,b.wM,b.wN,b.line,b.dot,b.lb,b.db,b.odd,b.frames,b.screen,rfl,(fun s hs => by cases hs),Nat.zero_le 8⟩
  ·rw [if_pos (by simp [c1]),if_pos (.inl (by rw [b.line];omega))]
   exact ⟨h,b.wM,b.wN,b.line,b.dot,b.lb,b.db,b.odd,b.frames,b.screen,rfl,(fun s hs => by cases hs),Nat.zero_le 8⟩
 ·rw [if_neg c,if_neg (by rw [b.dot];exact c)]
  exact b
theorem next_same:Both (pNext p L) L (kkN r) M N S C:=by
 have h:=b.same
 have lb:=b.lb
 have db:=b.db
 rw [pNext_eq p L db.1 (by omega) lb.1 lb.2,show_same h]
 unfold kkN lastR
 rw [b.line,b.dot]
 have mk:∀ (li d:Int) (o:Bool) (be:Int),0 ≤ li ∧ li < 262 → 0 ≤ d ∧ d < 341 → o = decide (Int.tmod be 2 = 0) → Both ({ p with line:=li,dot:=d,odd:=o }:Pic) L ({ r with Line:=li,Dot:=d,Begun:=be }:RPic) M N S C:=by
  intro li d o be k1 k2 k3
  have hs:Same ({ p with line:=li,dot:=d,odd:=o }:Pic) ({ r with Line:=li,Dot:=d,Begun:=be }:RPic) M N:=
   ⟨⟨h.ok.tiles,h.ok.names,h.ok.colours,h.ok.men,h.ok.man,h.ok.scroll,h.ok.control,h.ok.mask,h.ok.flags,h.ok.waits,h.ok.bus,h.ok.screen⟩,h.low,h.tiles,h.names,h.colours,h.men,h.man,h.sc,h.control,h.mask,h.flags,h.waits,h.bus,h.upright⟩
  exact ⟨hs,b.wM,b.wN,rfl,rfl,k1,k2,k3,b.frames,b.screen,b.chosen,b.sok,b.len⟩
 have cond:(p.line = 261 ∧ p.dot = 339 ∧ p.odd = true ∧ decide (shownR r) = true) ↔ (p.line = 261 ∧ Int.tmod r.Begun 2 = 0 ∧ shownR r ∧ p.dot = 339):=by
  rw [b.odd];simp only [decide_eq_true_eq]
  exact ⟨fun q => ⟨q.1,q.2.2.1,q.2.2.2,q.2.1⟩,fun q => ⟨q.1,q.2.2.2,q.2.1,q.2.2.1⟩⟩
 have par:∀ x:Int,(!decide (Int.tmod x 2 = 0)) = decide (Int.tmod (i64.wrap (x + 1)) 2 = 0):=by
  intro x
  have t:∀ y:Int,Int.tmod y 2 = 0 ↔ y % 2 = 0:=fun y => by
   rw [← Int.dvd_iff_tmod_eq_zero,Int.dvd_iff_emod_eq_zero]
  rw [← decide_not]
  apply decide_eq_decide.2
  rw [t,t,IntKind.wrap_i64];omega
 by_cases c:p.line = 261 ∧ Int.tmod r.Begun 2 = 0 ∧ shownR r ∧ p.dot = 339
 ·rw [if_pos c,if_pos (cond.2 c),if_neg (show ¬ p.dot + 1 + 1 < 341 by omega),if_neg (show ¬ p.dot + 1 ≤ 339 by omega),if_pos c.1,if_pos (show p.line + 1 = 262 by omega)]
  exact mk 0 0 _ _ (by decide) (by decide) (by rw [b.odd];exact par _)
 ·rw [if_neg c,if_neg (fun q => c (cond.1 q))]
  by_cases c2:p.dot + 1 < 341
  ·rw [if_pos (show p.dot + 1 + 0 < 341 by omega),if_pos (show p.dot + 1 ≤ 340 by omega)]
   exact mk p.line (p.dot + 1) p.odd r.Begun lb (by omega) b.odd
  ·rw [if_neg (show ¬ p.dot + 1 + 0 < 341 by omega),if_neg (show ¬ p.dot + 1 ≤ 340 by omega)]
   by_cases c3:p.line = 261
   ·rw [if_pos c3,if_pos (show p.line + 1 = 262 by omega)]
    exact mk 0 0 _ _ (by decide) (by decide) (by rw [b.odd];exact par _)
   ·rw [if_neg c3,if_neg (show ¬ p.line + 1 = 262 by omega)]
    exact mk (p.line + 1) 0 p.odd r.Begun (by omega) (by decide) b.odd
theorem clock_same:Both (kClock p L).1 (kClock p L).2 (rClockF r M N S C).1 M N (rClockF r M N S C).2.1 (rClockF r M N S C).2.2:=by
 have b1:=blank_same b
 have b2:=kdraw_same b1
 have b3:=move_same b2
 have b4:=choose_same b3
 exact next_same b4
end
end Go.Proofs.Ytgnhhnmpeklciaa
namespace Go.Proofs.Ytgnhhnmpeklciaa
open Go VX
open Go.IntKind (i64 u8 u16)
def both (p:Pic) (r:RPic) (rM:Nat → Int) (rN:Nat → Int) (rS:Nat → Int) (reg:Int) (b:Int) (pC:List Sprite) (rC:List Man):Pic × RPic × (Nat → Int) × (Nat → Int):=
 ((pPut p pC reg b),(rPut r rM rN rS rC (i64.wrap reg) (i64.wrap b)).1,(rPut r rM rN rS rC (i64.wrap reg) (i64.wrap b)).2.1,(rPut r rM rN rS rC (i64.wrap reg) (i64.wrap b)).2.2)
theorem both_ok (p:Pic) (r:RPic) (rM:Nat → Int) (rN:Nat → Int) (rS:Nat → Int) (reg:Int) (b:Int) (pC:List Sprite) (rC:List Man) (w_p:Pic.ok p) (hA:0 ≤ r.At ∧ r.At < ((256:Nat):Int)) (hV:0 ≤ rBits r.S.V):FnSpec Try.prog 16 1007 [pt 1000,pt 1001,.int .u8 reg,.int .u8 b] [(1000,(Pic.bl p (sl 1005 (List.length pC) 5) false)),(1001,(RPic.bl r (sl 1002 16384 1) (sl 1003 256 1) (sl 1006 (List.length rC) 4) (sl 1004 61440 1) false)),(1002,iB 16384 rM false),(1003,iB 256 rN false),(1004,iB 61440 rS false),(1005,sB pC false),(1006,mB rC false)] (.tuple ⟨[]⟩) [(1000,(Pic.bl ((both p r rM rN rS reg b pC rC).1) (sl 1005 (List.length pC) 5) false)),(1001,(RPic.bl ((both p r rM rN rS reg b pC rC).2.1) (sl 1002 16384 1) (sl 1003 256 1) (sl 1006 (List.length rC) 4) (sl 1004 61440 1) false)),(1002,⟨[.ints .u8 16384 ((both p r rM rN rS reg b pC rC).2.2.1)],5,false⟩),(1003,⟨[.ints .u8 256 ((both p r rM rN rS reg b pC rC).2.2.2)],5,false⟩),(1004,iB 61440 rS false),(1005,sB pC false),(1006,mB rC false)]:=by
 unfold both
 exact fn_of_x hG hM Try.func16 (by kernel_rfl) (by kernel_rfl) 400 [.call [(1000,1000),(1005,1001)] [] 1002 (.tuple ⟨[]⟩) [(1000,(Pic.bl (pPut p pC reg b) (sl 1001 (List.length pC) 5) false)),(1001,sB pC false)],.call [(1001,1000),(1002,1001),(1003,1002),(1004,1003),(1006,1004)] [] 1005 (.tuple ⟨[]⟩) [(1000,(RPic.bl ((rPut r rM rN rS rC (i64.wrap reg) (i64.wrap b)).1) (sl 1001 16384 1) (sl 1002 256 1) (sl 1004 (List.length rC) 4) (sl 1003 61440 1) false)),(1001,⟨[.ints .u8 16384 ((rPut r rM rN rS rC (i64.wrap reg) (i64.wrap b)).2.1)],5,false⟩),(1002,⟨[.ints .u8 256 ((rPut r rM rN rS rC (i64.wrap reg) (i64.wrap b)).2.2)],5,false⟩),(1003,iB 61440 rS false),(1004,mB rC false)]] (J (pPut_ok p pC reg b w_p) (J (rPut_ok r rM rN rS rC (i64.wrap reg) (i64.wrap b) hA hV) trivial)) (by kernel_rfl)
end Go.Proofs.Ytgnhhnmpeklciaa
namespace Go.Proofs.Ytgnhhnmpeklciaa
open Go VX
open Go.IntKind (i64 u8 u16)
def qeJ2y (rM:Nat → Int) (rN:Nat → Int) (n:Int) (xd:(List Sprite) × (List Man) × Int × Bool × Pic × RPic × (Nat → Int)):Bool:=
 if ((rClockF xd.2.2.2.2.2.1 rM rN xd.2.2.2.2.2.2 xd.2.1).1).Blank = true then
  (!((pNMI ((pClock xd.2.2.2.2.1 xd.1).1) ((pClock xd.2.2.2.2.1 xd.1).2)) == (decide ((((rClockF xd.2.2.2.2.2.1 rM rN xd.2.2.2.2.2.2 xd.2.1).1).Control:Int) ≥ 128))))
 else
  (!((pNMI ((pClock xd.2.2.2.2.1 xd.1).1) ((pClock xd.2.2.2.2.1 xd.1).2)) == false))
def qeJ2y_T (rM:Nat → Int) (rN:Nat → Int) (n:Int) (xd:(List Sprite) × (List Man) × Int × Bool × Pic × RPic × (Nat → Int)):Tm:=[(0,pt 1000),(1,pt 1001),(6,.bool xd.2.2.2.1),(9,.int .i64 n),(10,.int .i64 xd.2.2.1)]
def qeJ2y_H (rM:Nat → Int) (rN:Nat → Int) (n:Int) (xd:(List Sprite) × (List Man) × Int × Bool × Pic × RPic × (Nat → Int)):Heap:=[(1000,(Pic.bl ((pClock xd.2.2.2.2.1 xd.1).1) (sl 1009 (List.length ((pClock xd.2.2.2.2.1 xd.1).2)) 5) false)),(1001,(RPic.bl ((rClockF xd.2.2.2.2.2.1 rM rN xd.2.2.2.2.2.2 xd.2.1).1) (sl 1002 16384 1) (sl 1003 256 1) (sl 1010 (List.length ((rClockF xd.2.2.2.2.2.1 rM rN xd.2.2.2.2.2.2 xd.2.1).2.2)) 4) (sl 1004 61440 1) false)),(1009,⟨[rowsL Sprite.cells Sprite.nil 5 ((pClock xd.2.2.2.2.1 xd.1).2)],92,false⟩)]
def qeJ2y_T1 (rM:Nat → Int) (rN:Nat → Int) (n:Int) (xd:(List Sprite) × (List Man) × Int × Bool × Pic × RPic × (Nat → Int)) (r_:Bool):Tm:=[(0,pt 1000),(1,pt 1001),(6,.bool xd.2.2.2.1),(9,.int .i64 n),(10,.int .i64 xd.2.2.1),(29,.bool r_)]
def qeJ2y_H1 (rM:Nat → Int) (rN:Nat → Int) (n:Int) (xd:(List Sprite) × (List Man) × Int × Bool × Pic × RPic × (Nat → Int)) (r_:Bool):Heap:=[(1000,(Pic.bl ((pClock xd.2.2.2.2.1 xd.1).1) (sl 1009 (List.length ((pClock xd.2.2.2.2.1 xd.1).2)) 5) false)),(1001,(RPic.bl ((rClockF xd.2.2.2.2.2.1 rM rN xd.2.2.2.2.2.2 xd.2.1).1) (sl 1002 16384 1) (sl 1003 256 1) (sl 1010 (List.length ((rClockF xd.2.2.2.2.2.1 rM rN xd.2.2.2.2.2.2 xd.2.1).2.2)) 4) (sl 1004 61440 1) false)),(1009,⟨[rowsL Sprite.cells Sprite.nil 5 ((pClock xd.2.2.2.2.1 xd.1).2)],92,false⟩)]
abbrev NQk0 (xd:(List Sprite) × (List Man) × Int × Bool × Pic × RPic × (Nat → Int)) (rM rN:Nat → Int):=(rClockF xd.2.2.2.2.2.1 rM rN xd.2.2.2.2.2.2 xd.2.1)
abbrev NQk1 (xd:(List Sprite) × (List Man) × Int × Bool × Pic × RPic × (Nat → Int)):=(pClock xd.2.2.2.2.1 xd.1)
theorem qeJ2y_p1 (rM:Nat → Int) (rN:Nat → Int) (n:Int) (xd:(List Sprite) × (List Man) × Int × Bool × Pic × RPic × (Nat → Int)) (e1:((NQk0 xd rM rN).1).Blank = true):Runs Try.prog 59 (bodyOf Try.f29 [1,0,1,0,0,1,1,0,0,1,1,0]) (qeJ2y_T rM rN n xd) (qeJ2y_H rM rN n xd) 1011 .normal (qeJ2y_T1 rM rN n xd (!((pNMI ((NQk1 xd).1) ((NQk1 xd).2)) == (decide ((((NQk0 xd rM rN).1).Control:Int) ≥ 128))))) (qeJ2y_H1 rM rN n xd (!((pNMI ((NQk1 xd).1) ((NQk1 xd).2)) == (decide ((((NQk0 xd rM rN).1).Control:Int) ≥ 128))))) 1011:=by
 exact runs_of_x hG hM 400 [.callr [(1000,1000),(1009,1001)] [1000,1009] [] 1002 (.bool (pNMI ((NQk1 xd).1) ((NQk1 xd).2))) [],.yes,.yes,.yes,.yes,.yes,.yes] (J (pNMI_ok ((NQk1 xd).1) ((NQk1 xd).2)) (J e1 (J e1 (J e1 (J e1 (J e1 (J e1 trivial))))))) (by kernel_rfl)
theorem qeJ2y_p2 (rM:Nat → Int) (rN:Nat → Int) (n:Int) (xd:(List Sprite) × (List Man) × Int × Bool × Pic × RPic × (Nat → Int)) (e1:((NQk0 xd rM rN).1).Blank = false):Runs Try.prog 59 (bodyOf Try.f29 [1,0,1,0,0,1,1,0,0,1,1,0]) (qeJ2y_T rM rN n xd) (qeJ2y_H rM rN n xd) 1011 .normal (qeJ2y_T1 rM rN n xd (!((pNMI ((NQk1 xd).1) ((NQk1 xd).2)) == false))) (qeJ2y_H1 rM rN n xd (!((pNMI ((NQk1 xd).1) ((NQk1 xd).2)) == false))) 1011:=by
 exact runs_of_x hG hM 400 [.callr [(1000,1000),(1009,1001)] [1000,1009] [] 1002 (.bool (pNMI ((NQk1 xd).1) ((NQk1 xd).2))) [],.no,.no,.no,.no,.no,.no] (J (pNMI_ok ((NQk1 xd).1) ((NQk1 xd).2)) (J e1 (J e1 (J e1 (J e1 (J e1 (J e1 trivial))))))) (by kernel_rfl)
theorem qeJ2y_runs (rM:Nat → Int) (rN:Nat → Int) (n:Int) (xd:(List Sprite) × (List Man) × Int × Bool × Pic × RPic × (Nat → Int)):Runs Try.prog 59 (bodyOf Try.f29 [1,0,1,0,0,1,1,0,0,1,1,0]) (qeJ2y_T rM rN n xd) (qeJ2y_H rM rN n xd) 1011 .normal (qeJ2y_T1 rM rN n xd (qeJ2y rM rN n xd)) (qeJ2y_H1 rM rN n xd (qeJ2y rM rN n xd)) 1011:=by
 rcases bt (((NQk0 xd rM rN).1).Blank) with e1 | e1
 ·
  rw [show qeJ2y rM rN n xd = (!((pNMI ((NQk1 xd).1) ((NQk1 xd).2)) == (decide ((((NQk0 xd rM rN).1).Control:Int) ≥ 128)))) from by unfold qeJ2y;rw [if_pos e1]]
  exact qeJ2y_p1 rM rN n xd e1
 ·
  rw [show qeJ2y rM rN n xd = (!((pNMI ((NQk1 xd).1) ((NQk1 xd).2)) == false)) from by unfold qeJ2y;rw [if_neg (nt e1)]]
  exact qeJ2y_p2 rM rN n xd e1
inductive qeL1 (p:Pic) (rM:Nat → Int) (rN:Nat → Int) (rS:Nat → Int) (n:Int) (xd:(List Sprite) × (List Man) × Int × Bool × Pic × RPic × (Nat → Int)):((List Sprite) × (List Man) × Int × Bool × Pic × RPic × (Nat → Int)) ⊕ (((List Sprite) × (List Man) × Int × Bool × Pic × RPic × (Nat → Int)) ⊕ ((List Sprite) × (List Man) × Int × Bool × Pic × RPic × (Nat → Int))) → Prop
 | p1 (d1:(decide (xd.2.2.1 < n)) = true) (w1d:Pic.ok xd.2.2.2.2.1) (w2d:0 ≤ xd.2.2.2.2.1.line) (w3d:(List.length xd.1) ≤ 8) (w4d:ROk xd.2.2.2.2.2.1) (w5d:∀ j,rng 256 (rM j)) (w6d:∀ j,rng 256 (rN j)) (w7d:∀ c ∈ xd.2.1,ManOk c) (w8d:xd.2.1.length ≤ 8) (d2:(qeJ2y rM rN n xd) = true):qeL1 p rM rN rS n xd (.inr (.inr ((pClock xd.2.2.2.2.1 xd.1).2,(rClockF xd.2.2.2.2.2.1 rM rN xd.2.2.2.2.2.2 xd.2.1).2.2,xd.2.2.1,false,(pClock xd.2.2.2.2.1 xd.1).1,(rClockF xd.2.2.2.2.2.1 rM rN xd.2.2.2.2.2.2 xd.2.1).1,(rClockF xd.2.2.2.2.2.1 rM rN xd.2.2.2.2.2.2 xd.2.1).2.1)))
 | p2 (d1:(decide (xd.2.2.1 < n)) = true) (w1d:Pic.ok xd.2.2.2.2.1) (w2d:0 ≤ xd.2.2.2.2.1.line) (w3d:(List.length xd.1) ≤ 8) (w4d:ROk xd.2.2.2.2.2.1) (w5d:∀ j,rng 256 (rM j)) (w6d:∀ j,rng 256 (rN j)) (w7d:∀ c ∈ xd.2.1,ManOk c) (w8d:xd.2.1.length ≤ 8) (d2:(qeJ2y rM rN n xd) = false):qeL1 p rM rN rS n xd (.inl ((pClock xd.2.2.2.2.1 xd.1).2,(rClockF xd.2.2.2.2.2.1 rM rN xd.2.2.2.2.2.2 xd.2.1).2.2,(i64.wrap (xd.2.2.1 + 1)),xd.2.2.2.1,(pClock xd.2.2.2.2.1 xd.1).1,(rClockF xd.2.2.2.2.2.1 rM rN xd.2.2.2.2.2.2 xd.2.1).1,(rClockF xd.2.2.2.2.2.1 rM rN xd.2.2.2.2.2.2 xd.2.1).2.1))
 | p3 (d1:(decide (xd.2.2.1 < n)) = false):qeL1 p rM rN rS n xd (.inr (.inl (xd.1,xd.2.1,xd.2.2.1,xd.2.2.2.1,xd.2.2.2.2.1,xd.2.2.2.2.2.1,xd.2.2.2.2.2.2)))
def qeL1_T (p:Pic) (rM:Nat → Int) (rN:Nat → Int) (rS:Nat → Int) (n:Int) (xd:(List Sprite) × (List Man) × Int × Bool × Pic × RPic × (Nat → Int)):Tm:=[(0,pt 1000),(1,pt 1001),(6,.bool xd.2.2.2.1),(9,.int .i64 n),(10,.int .i64 xd.2.2.1)]
def qeL1_H (p:Pic) (rM:Nat → Int) (rN:Nat → Int) (rS:Nat → Int) (n:Int) (xd:(List Sprite) × (List Man) × Int × Bool × Pic × RPic × (Nat → Int)):Heap:=[(1000,(Pic.bl xd.2.2.2.2.1 (sl 1007 (List.length xd.1) 5) false)),(1001,(RPic.bl xd.2.2.2.2.2.1 (sl 1002 16384 1) (sl 1003 256 1) (sl 1008 (List.length xd.2.1) 4) (sl 1004 61440 1) false)),(1002,iB 16384 rM false),(1003,iB 256 rN false),(1004,⟨[.ints .u8 61440 xd.2.2.2.2.2.2],5,false⟩),(1007,⟨[rowsL Sprite.cells Sprite.nil 5 xd.1],92,false⟩),(1008,⟨[rowsL Man.cells Man.nil 4 xd.2.1],119,false⟩)]
def qeL1_T1 (p:Pic) (rM:Nat → Int) (rN:Nat → Int) (rS:Nat → Int) (n:Int):(((List Sprite) × (List Man) × Int × Bool × Pic × RPic × (Nat → Int)) ⊕ ((List Sprite) × (List Man) × Int × Bool × Pic × RPic × (Nat → Int))) → Tm
 | .inl q_ => qeL1_T p rM rN rS n q_
 | .inr q_ => qeL1_T p rM rN rS n q_
def qeL1_H1 (p:Pic) (rM:Nat → Int) (rN:Nat → Int) (rS:Nat → Int) (n:Int):(((List Sprite) × (List Man) × Int × Bool × Pic × RPic × (Nat → Int)) ⊕ ((List Sprite) × (List Man) × Int × Bool × Pic × RPic × (Nat → Int))) → Heap
 | .inl q_ => qeL1_H p rM rN rS n q_
 | .inr q_ => qeL1_H p rM rN rS n q_
def qeL1_ex:(((List Sprite) × (List Man) × Int × Bool × Pic × RPic × (Nat → Int)) ⊕ ((List Sprite) × (List Man) × Int × Bool × Pic × RPic × (Nat → Int))) → Ex
 | .inl _ => .exit 0
 | .inr _ => .ret
theorem qeL1_p1 (p:Pic) (rM:Nat → Int) (rN:Nat → Int) (rS:Nat → Int) (n:Int) (xd:(List Sprite) × (List Man) × Int × Bool × Pic × RPic × (Nat → Int)) (d1:(decide (xd.2.2.1 < n)) = true) (w1d:Pic.ok xd.2.2.2.2.1) (w2d:0 ≤ xd.2.2.2.2.1.line) (w3d:(List.length xd.1) ≤ 8) (w4d:ROk xd.2.2.2.2.2.1) (w5d:∀ j,rng 256 (rM j)) (w6d:∀ j,rng 256 (rN j)) (w7d:∀ c ∈ xd.2.1,ManOk c) (w8d:xd.2.1.length ≤ 8) (d2:(qeJ2y rM rN n xd) = true):RunsM Try.prog 59 (bodyOf Try.f29 [1,0,1,0,0]) 1007 (qeL1_T p rM rN rS n xd) (qeL1_H p rM rN rS n xd) 1009 .ret (qeL1_T1 p rM rN rS n (.inr ((NQk1 xd).2,(NQk0 xd rM rN).2.2,xd.2.2.1,false,(NQk1 xd).1,(NQk0 xd rM rN).1,(NQk0 xd rM rN).2.1))) (qeL1_H1 p rM rN rS n (.inr ((NQk1 xd).2,(NQk0 xd rM rN).2.2,xd.2.2.1,false,(NQk1 xd).1,(NQk0 xd rM rN).1,(NQk0 xd rM rN).2.1))) 1009:=by
 exact runsM_of_x hG hM 400 1007 [.yes,.call [(1000,1000),(1007,1001)] [(1002,1009)] 1002 (.tuple ⟨[]⟩) [(1000,(Pic.bl ((NQk1 xd).1) (sl 1002 (List.length ((NQk1 xd).2)) 5) false)),(1002,⟨[rowsL Sprite.cells Sprite.nil 5 ((NQk1 xd).2)],92,false⟩)],.call [(1001,1000),(1002,1001),(1003,1002),(1004,1003),(1008,1004)] [(1005,1010)] 1005 (.tuple ⟨[]⟩) [(1000,(RPic.bl ((NQk0 xd rM rN).1) (sl 1001 16384 1) (sl 1002 256 1) (sl 1005 (List.length ((NQk0 xd rM rN).2.2)) 4) (sl 1003 61440 1) false)),(1001,iB 16384 rM false),(1002,iB 256 rN false),(1003,⟨[.ints .u8 61440 ((NQk0 xd rM rN).2.1)],5,false⟩),(1005,⟨[rowsL Man.cells Man.nil 4 ((NQk0 xd rM rN).2.2)],119,false⟩)],.segk 0 5 [0,1,6,9,10] [1000,1001,1009] .normal (qeJ2y_T1 rM rN n xd (qeJ2y rM rN n xd)) (qeJ2y_H1 rM rN n xd (qeJ2y rM rN n xd)) 1011,.yes] [(1000,1000),(1001,1001),(1002,1002),(1003,1003),(1004,1004),(1009,1007),(1010,1008)] (J d1 (J (pClock_ok xd.2.2.2.2.1 xd.1 w1d w2d w3d) (J (rClockF_ok xd.2.2.2.2.2.1 rM rN xd.2.2.2.2.2.2 xd.2.1 w4d w5d w6d w7d w8d) (J (qeJ2y_runs rM rN n xd) (J d2 trivial))))) (by kernel_rfl)
theorem qeL1_p2 (p:Pic) (rM:Nat → Int) (rN:Nat → Int) (rS:Nat → Int) (n:Int) (xd:(List Sprite) × (List Man) × Int × Bool × Pic × RPic × (Nat → Int)) (d1:(decide (xd.2.2.1 < n)) = true) (w1d:Pic.ok xd.2.2.2.2.1) (w2d:0 ≤ xd.2.2.2.2.1.line) (w3d:(List.length xd.1) ≤ 8) (w4d:ROk xd.2.2.2.2.2.1) (w5d:∀ j,rng 256 (rM j)) (w6d:∀ j,rng 256 (rN j)) (w7d:∀ c ∈ xd.2.1,ManOk c) (w8d:xd.2.1.length ≤ 8) (d2:(qeJ2y rM rN n xd) = false):RunsM Try.prog 59 (bodyOf Try.f29 [1,0,1,0,0]) 1007 (qeL1_T p rM rN rS n xd) (qeL1_H p rM rN rS n xd) 1009 .normal (qeL1_T p rM rN rS n ((NQk1 xd).2,(NQk0 xd rM rN).2.2,(i64.wrap (xd.2.2.1 + 1)),xd.2.2.2.1,(NQk1 xd).1,(NQk0 xd rM rN).1,(NQk0 xd rM rN).2.1)) (qeL1_H p rM rN rS n ((NQk1 xd).2,(NQk0 xd rM rN).2.2,(i64.wrap (xd.2.2.1 + 1)),xd.2.2.2.1,(NQk1 xd).1,(NQk0 xd rM rN).1,(NQk0 xd rM rN).2.1)) 1009:=by
 exact runsM_of_x hG hM 400 1007 [.yes,.call [(1000,1000),(1007,1001)] [(1002,1009)] 1002 (.tuple ⟨[]⟩) [(1000,(Pic.bl ((NQk1 xd).1) (sl 1002 (List.length ((NQk1 xd).2)) 5) false)),(1002,⟨[rowsL Sprite.cells Sprite.nil 5 ((NQk1 xd).2)],92,false⟩)],.call [(1001,1000),(1002,1001),(1003,1002),(1004,1003),(1008,1004)] [(1005,1010)] 1005 (.tuple ⟨[]⟩) [(1000,(RPic.bl ((NQk0 xd rM rN).1) (sl 1001 16384 1) (sl 1002 256 1) (sl 1005 (List.length ((NQk0 xd rM rN).2.2)) 4) (sl 1003 61440 1) false)),(1001,iB 16384 rM false),(1002,iB 256 rN false),(1003,⟨[.ints .u8 61440 ((NQk0 xd rM rN).2.1)],5,false⟩),(1005,⟨[rowsL Man.cells Man.nil 4 ((NQk0 xd rM rN).2.2)],119,false⟩)],.segk 0 5 [0,1,6,9,10] [1000,1001,1009] .normal (qeJ2y_T1 rM rN n xd (qeJ2y rM rN n xd)) (qeJ2y_H1 rM rN n xd (qeJ2y rM rN n xd)) 1011,.no] [(1000,1000),(1001,1001),(1002,1002),(1003,1003),(1004,1004),(1009,1007),(1010,1008)] (J d1 (J (pClock_ok xd.2.2.2.2.1 xd.1 w1d w2d w3d) (J (rClockF_ok xd.2.2.2.2.2.1 rM rN xd.2.2.2.2.2.2 xd.2.1 w4d w5d w6d w7d w8d) (J (qeJ2y_runs rM rN n xd) (J d2 trivial))))) (by kernel_rfl)
theorem qeL1_p3 (p:Pic) (rM:Nat → Int) (rN:Nat → Int) (rS:Nat → Int) (n:Int) (xd:(List Sprite) × (List Man) × Int × Bool × Pic × RPic × (Nat → Int)) (d1:(decide (xd.2.2.1 < n)) = false):RunsM Try.prog 59 (bodyOf Try.f29 [1,0,1,0,0]) 1007 (qeL1_T p rM rN rS n xd) (qeL1_H p rM rN rS n xd) 1009 (.exit 0) (qeL1_T1 p rM rN rS n (.inl (xd.1,xd.2.1,xd.2.2.1,xd.2.2.2.1,xd.2.2.2.2.1,xd.2.2.2.2.2.1,xd.2.2.2.2.2.2))) (qeL1_H1 p rM rN rS n (.inl (xd.1,xd.2.1,xd.2.2.1,xd.2.2.2.1,xd.2.2.2.2.1,xd.2.2.2.2.2.1,xd.2.2.2.2.2.2))) 1009:=by
 exact runsM_of_x hG hM 400 1007 [.no] [(1000,1000),(1001,1001),(1002,1002),(1003,1003),(1004,1004),(1007,1007),(1008,1008)] (J d1 trivial) (by kernel_rfl)
theorem qeL1_runs (p:Pic) (rM:Nat → Int) (rN:Nat → Int) (rS:Nat → Int) (n:Int) (x_:(List Sprite) × (List Man) × Int × Bool × Pic × RPic × (Nat → Int)) (y_:((List Sprite) × (List Man) × Int × Bool × Pic × RPic × (Nat → Int)) ⊕ ((List Sprite) × (List Man) × Int × Bool × Pic × RPic × (Nat → Int))) (h_:LoopR (qeL1 p rM rN rS n) x_ y_):RunsM Try.prog 59 (.block 0 (.loop (bodyOf Try.f29 [1,0,1,0,0]))) 1007 (qeL1_T p rM rN rS n x_) (qeL1_H p rM rN rS n x_) 1009 (outOf 0 (qeL1_ex y_)) (qeL1_T1 p rM rN rS n y_) (qeL1_H1 p rM rN rS n y_) 1009:=by
 refine block_loopM hG (qeL1 p rM rN rS n) (qeL1_T p rM rN rS n) (qeL1_H p rM rN rS n) qeL1_ex (qeL1_T1 p rM rN rS n) (qeL1_H1 p rM rN rS n) ?_ ?_ ?_ x_ y_ h_
 ·intro s r _ hr;cases r <;> cases hr
 ·intro xd y_ hx
  cases hx with
  | p2 d1 w1d w2d w3d w4d w5d w6d w7d w8d d2 => exact qeL1_p2 p rM rN rS n xd d1 w1d w2d w3d w4d w5d w6d w7d w8d d2
 ·intro xd y_ hx
  cases hx with
  | p1 d1 w1d w2d w3d w4d w5d w6d w7d w8d d2 => exact qeL1_p1 p rM rN rS n xd d1 w1d w2d w3d w4d w5d w6d w7d w8d d2
  | p3 d1 => exact qeL1_p3 p rM rN rS n xd d1
def qeJ3y (r1:(List Sprite) × (List Man) × Int × Bool × Pic × RPic × (Nat → Int)):Bool:=
 if (((pDot r1.2.2.2.2.1 r1.1).1:Int) == r1.2.2.2.2.2.1.Line) = true then
  if (((pDot r1.2.2.2.2.1 r1.1).2:Int) == r1.2.2.2.2.2.1.Dot) = true then
   ((pFrame r1.2.2.2.2.1 r1.1) == r1.2.2.2.2.2.1.Done)
  else
   false
 else
  false
def qeJ3y_T (r1:(List Sprite) × (List Man) × Int × Bool × Pic × RPic × (Nat → Int)):Tm:=[(0,pt 1000),(1,pt 1001),(6,.bool r1.2.2.2.1),(7,.int .i64 ((pDot r1.2.2.2.2.1 r1.1).1)),(8,.int .i64 ((pDot r1.2.2.2.2.1 r1.1).2))]
def qeJ3y_H (r1:(List Sprite) × (List Man) × Int × Bool × Pic × RPic × (Nat → Int)):Heap:=[(1000,(Pic.bl r1.2.2.2.2.1 (sl 1007 (List.length r1.1) 5) false)),(1001,(RPic.bl r1.2.2.2.2.2.1 (sl 1002 16384 1) (sl 1003 256 1) (sl 1008 (List.length r1.2.1) 4) (sl 1004 61440 1) false)),(1007,⟨[rowsL Sprite.cells Sprite.nil 5 r1.1],92,false⟩)]
def qeJ3y_T1 (r1:(List Sprite) × (List Man) × Int × Bool × Pic × RPic × (Nat → Int)) (r_:Bool):Tm:=[(6,.bool r_)]
def qeJ3y_H1 (r1:(List Sprite) × (List Man) × Int × Bool × Pic × RPic × (Nat → Int)) (r_:Bool):Heap:=[(1000,(Pic.bl r1.2.2.2.2.1 (sl 1007 (List.length r1.1) 5) false)),(1001,(RPic.bl r1.2.2.2.2.2.1 (sl 1002 16384 1) (sl 1003 256 1) (sl 1008 (List.length r1.2.1) 4) (sl 1004 61440 1) false)),(1007,⟨[rowsL Sprite.cells Sprite.nil 5 r1.1],92,false⟩)]
theorem qeJ3y_p1 (r1:(List Sprite) × (List Man) × Int × Bool × Pic × RPic × (Nat → Int)) (d1:(((pDot r1.2.2.2.2.1 r1.1).1:Int) == r1.2.2.2.2.2.1.Line) = true) (d2:(((pDot r1.2.2.2.2.1 r1.1).2:Int) == r1.2.2.2.2.2.1.Dot) = true):Runs Try.prog 59 (bodyOf Try.f29 [1,1,1,0]) (qeJ3y_T r1) (qeJ3y_H r1) 1009 .normal (qeJ3y_T1 r1 ((pFrame r1.2.2.2.2.1 r1.1) == r1.2.2.2.2.2.1.Done)) (qeJ3y_H1 r1 ((pFrame r1.2.2.2.2.1 r1.1) == r1.2.2.2.2.2.1.Done)) 1009:=by
 exact runs_of_x hG hM 400 [.yes,.yes,.yes,.yes,.yes,.yes,.yes,.yes,.yes,.callr [(1000,1000),(1007,1001)] [1000,1007] [] 1002 (.int .i64 (pFrame r1.2.2.2.2.1 r1.1)) [],.yes,.yes,.yes,.yes,.yes,.yes] (J d1 (J d1 (J d1 (J d1 (J d1 (J d1 (J d1 (J d2 (J d2 (J (pFrame_ok r1.2.2.2.2.1 r1.1) (J d2 (J d2 (J d2 (J d2 (J d2 (J d2 trivial)))))))))))))))) (by kernel_rfl)
theorem qeJ3y_p2 (r1:(List Sprite) × (List Man) × Int × Bool × Pic × RPic × (Nat → Int)) (d1:(((pDot r1.2.2.2.2.1 r1.1).1:Int) == r1.2.2.2.2.2.1.Line) = true) (d2:(((pDot r1.2.2.2.2.1 r1.1).2:Int) == r1.2.2.2.2.2.1.Dot) = false):Runs Try.prog 59 (bodyOf Try.f29 [1,1,1,0]) (qeJ3y_T r1) (qeJ3y_H r1) 1009 .normal (qeJ3y_T1 r1 false) (qeJ3y_H1 r1 false) 1009:=by
 exact runs_of_x hG hM 400 [.yes,.yes,.yes,.yes,.yes,.yes,.yes,.no,.no,.no,.no,.no,.no,.no,.no] (J d1 (J d1 (J d1 (J d1 (J d1 (J d1 (J d1 (J d2 (J d2 (J d2 (J d2 (J d2 (J d2 (J d2 (J d2 trivial))))))))))))))) (by kernel_rfl)
theorem qeJ3y_p3 (r1:(List Sprite) × (List Man) × Int × Bool × Pic × RPic × (Nat → Int)) (d1:(((pDot r1.2.2.2.2.1 r1.1).1:Int) == r1.2.2.2.2.2.1.Line) = false):Runs Try.prog 59 (bodyOf Try.f29 [1,1,1,0]) (qeJ3y_T r1) (qeJ3y_H r1) 1009 .normal (qeJ3y_T1 r1 false) (qeJ3y_H1 r1 false) 1009:=by
 exact runs_of_x hG hM 400 [.no,.no,.no,.no,.no,.no,.no,.no,.no,.no,.no,.no,.no,.no,.no] (J d1 (J d1 (J d1 (J d1 (J d1 (J d1 (J d1 (J T0 (J T0 (J T0 (J T0 (J T0 (J T0 (J T0 (J T0 trivial))))))))))))))) (by kernel_rfl)
theorem qeJ3y_runs (r1:(List Sprite) × (List Man) × Int × Bool × Pic × RPic × (Nat → Int)):Runs Try.prog 59 (bodyOf Try.f29 [1,1,1,0]) (qeJ3y_T r1) (qeJ3y_H r1) 1009 .normal (qeJ3y_T1 r1 (qeJ3y r1)) (qeJ3y_H1 r1 (qeJ3y r1)) 1009:=by
 rcases bt (((pDot r1.2.2.2.2.1 r1.1).1:Int) == r1.2.2.2.2.2.1.Line) with d1 | d1
 ·
  rcases bt (((pDot r1.2.2.2.2.1 r1.1).2:Int) == r1.2.2.2.2.2.1.Dot) with d2 | d2
  ·
   rw [show qeJ3y r1 = ((pFrame r1.2.2.2.2.1 r1.1) == r1.2.2.2.2.2.1.Done) from by unfold qeJ3y;rw [if_pos d1,if_pos d2]]
   exact qeJ3y_p1 r1 d1 d2
  ·
   rw [show qeJ3y r1 = false from by unfold qeJ3y;rw [if_pos d1,if_neg (nt d2)]]
   exact qeJ3y_p2 r1 d1 d2
 ·
  rw [show qeJ3y r1 = false from by unfold qeJ3y;rw [if_neg (nt d1)]]
  exact qeJ3y_p3 r1 d1
abbrev NQk2 (r1:(List Sprite) × (List Man) × Int × Bool × Pic × RPic × (Nat → Int)):=(r1.2.2.2.2.1,r1.2.2.2.2.2.1,r1.2.2.2.2.2.2,r1.1,r1.2.1,(qeJ3y r1))
theorem wStep_p1 (p:Pic) (r:RPic) (rM:Nat → Int) (rN:Nat → Int) (rS:Nat → Int) (n:Int) (pC:List Sprite) (rC:List Man) (r1:(List Sprite) × (List Man) × Int × Bool × Pic × RPic × (Nat → Int)) (l1:LoopR (qeL1 p rM rN rS n) (pC,rC,0,false,p,r,rS) (.inl r1)):FnSpec Try.prog 29 1007 [pt 1000,pt 1001,.int .i64 n] [(1000,(Pic.bl p (sl 1005 (List.length pC) 5) false)),(1001,(RPic.bl r (sl 1002 16384 1) (sl 1003 256 1) (sl 1006 (List.length rC) 4) (sl 1004 61440 1) false)),(1002,iB 16384 rM false),(1003,iB 256 rN false),(1004,iB 61440 rS false),(1005,sB pC false),(1006,mB rC false)] (.bool ((NQk2 r1).2.2.2.2.2)) [(1000,(Pic.bl ((NQk2 r1).1) (sl 1007 (List.length ((NQk2 r1).2.2.2.1)) 5) false)),(1001,(RPic.bl ((NQk2 r1).2.1) (sl 1002 16384 1) (sl 1003 256 1) (sl 1008 (List.length ((NQk2 r1).2.2.2.2.1)) 4) (sl 1004 61440 1) false)),(1002,iB 16384 rM false),(1003,iB 256 rN false),(1004,⟨[.ints .u8 61440 ((NQk2 r1).2.2.1)],5,false⟩),(1007,⟨[rowsL Sprite.cells Sprite.nil 5 ((NQk2 r1).2.2.2.1)],92,false⟩),(1008,⟨[rowsL Man.cells Man.nil 4 ((NQk2 r1).2.2.2.2.1)],119,false⟩)]:=by
 exact fn_ren (v:=.bool (qeJ3y r1)) (H1:=[(1000,(Pic.bl r1.2.2.2.2.1 (sl 1007 (List.length r1.1) 5) false)),(1001,(RPic.bl r1.2.2.2.2.2.1 (sl 1002 16384 1) (sl 1003 256 1) (sl 1008 (List.length r1.2.1) 4) (sl 1004 61440 1) false)),(1002,iB 16384 rM false),(1003,iB 256 rN false),(1004,⟨[.ints .u8 61440 r1.2.2.2.2.2.2],5,false⟩),(1007,⟨[rowsL Sprite.cells Sprite.nil 5 r1.1],92,false⟩),(1008,⟨[rowsL Man.cells Man.nil 4 r1.2.1],119,false⟩)]) (fn_of_x hG hM Try.func29 (by kernel_rfl) (by kernel_rfl) 400 [.segk 1 0 [0,1,6,9,10] [1000,1001,1002,1003,1004,1005,1006] .normal (qeL1_T1 p rM rN rS n (.inl r1)) (qeL1_H1 p rM rN rS n (.inl r1)) 1009,.callr [(1000,1000),(1007,1001)] [1000,1007] [] 1002 (.tuple ⟨[.int .i64 ((pDot r1.2.2.2.2.1 r1.1).1),.int .i64 ((pDot r1.2.2.2.2.1 r1.1).2)]⟩) [],.segk 0 9 [0,1,6,7,8] [1000,1001,1007] .normal (qeJ3y_T1 r1 (qeJ3y r1)) (qeJ3y_H1 r1 (qeJ3y r1)) 1009] (J (runs_of_pre hG (qeL1_runs p rM rN rS n (pC,rC,0,false,p,r,rS) (.inl r1) l1) [(1000,1000),(1001,1001),(1002,1002),(1003,1003),(1004,1004),(1005,1007),(1006,1008)] (T:=[(0,pt 1000),(1,pt 1001),(6,.bool false),(9,.int .i64 n),(10,.int .i64 0)]) (H:=[(1000,(Pic.bl p (sl 1005 (List.length pC) 5) false)),(1001,(RPic.bl r (sl 1002 16384 1) (sl 1003 256 1) (sl 1006 (List.length rC) 4) (sl 1004 61440 1) false)),(1002,iB 16384 rM false),(1003,iB 256 rN false),(1004,iB 61440 rS false),(1005,sB pC false),(1006,mB rC false)]) (by kernel_rfl)) (J (pDot_ok r1.2.2.2.2.1 r1.1) (J (qeJ3y_runs r1) trivial))) (by kernel_rfl)) [(1000,1000),(1001,1001),(1002,1002),(1003,1003),(1004,1004),(1007,1007),(1008,1008)] 1009 (by kernel_rfl)
end Go.Proofs.Ytgnhhnmpeklciaa
namespace Go.Proofs.Ytgnhhnmpeklciaa
open Go VX
open Go.IntKind (i64 u8 u16)
abbrev St:=Pic × RPic × (Nat → Int) × List Sprite × List Man
def BothS (M N:Nat → Int) (z:St):Prop:=Both z.1 z.2.2.2.1 z.2.1 M N z.2.2.1 z.2.2.2.2
def oneS (M N:Nat → Int) (z:St):St:=
 ((pClock z.1 z.2.2.2.1).1,(rClockF z.2.1 M N z.2.2.1 z.2.2.2.2).1,(rClockF z.2.1 M N z.2.2.1 z.2.2.2.2).2.1,(pClock z.1 z.2.2.2.1).2,(rClockF z.2.1 M N z.2.2.1 z.2.2.2.2).2.2)
def runS (M N:Nat → Int):Nat → St → St
 | 0,z => z
 | n + 1,z => runS M N n (oneS M N z)
def stepF (p:Pic) (r:RPic) (rM:Nat → Int) (rN:Nat → Int) (rS:Nat → Int) (n:Int) (pC:List Sprite) (rC:List Man):St:=runS rM rN n.toNat (p,r,rS,pC,rC)
theorem one_both {M N:Nat → Int} {z:St} (b:BothS M N z):BothS M N (oneS M N z):=by
 have:=clock_same b
 rw [← clock_eq] at this
 exact this
theorem run_both {M N:Nat → Int}:∀ (n:Nat) {z:St},BothS M N z → BothS M N (runS M N n z)
 | 0,_,b => b
 | n + 1,_,b => run_both n (one_both b)
theorem hi_bit {c:Int} (w:rng 256 c):rBit c 128 = decide (c ≥ 128):=by
 have w0:=w.1
 have w1:c < 256:=w.2
 unfold rBit
 rw [td_e 128 w0,w64 (by omega) (by omega),tm_e 2 (by omega)]
 by_cases k:c ≥ 128
 ·rw [decide_eq_true k,beq_iff_eq];omega
 ·rw [decide_eq_false k,beq_eq_false_iff_ne];omega
theorem flag_hi (b h m:Bool):((bAnd .u8 (flagsOf b h m) 128:Int) != 0) = b:=by cases b <;> cases h <;> cases m <;> decide
theorem nmi_same {p:Pic} {r:RPic} {M N:Nat → Int} (h:Same p r M N) (L:List Sprite):pNMI p L = if r.Blank = true then decide ((r.Control:Int) ≥ 128) else false:=by
 have f0:p.flags = flagsOf r.Blank r.Hit r.Many:=h.flags
 unfold pNMI
 rw [f0,flag_hi,mbit h.ok.control (k:=128) (by decide),h.control,hi_bit h.ok.control]
theorem step_loop (p0:Pic) (M N S0:Nat → Int) (n:Int) (hn:n < 1000000000):∀ (m:Nat) (z:St) (i:Int),BothS M N z → 0 ≤ i → i + m = n →
  LoopR (qeL1 p0 M N S0 n) (z.2.2.2.1,z.2.2.2.2,i,false,z.1,z.2.1,z.2.2.1) (.inl ((runS M N m z).2.2.2.1,(runS M N m z).2.2.2.2,n,false,(runS M N m z).1,(runS M N m z).2.1,(runS M N m z).2.2.1))
 | 0,z,i,b,h0,hi => by
  have:i = n:=by omega
  subst this
  exact .last (.p3 (decide_eq_false (by simp)))
 | m + 1,z,i,b,h0,hi => by
  have b1:=one_both b
  obtain ⟨k1,k2,k3⟩:=b.rok
  have hw:i64.wrap (i + 1) = i + 1:=w64 (by omega) (by omega)
  have en:=nmi_same b1.same (oneS M N z).2.2.2.1
  have st:=qeL1.p2 (p:=p0) (rM:=M) (rN:=N) (rS:=S0) (n:=n) (xd:=(z.2.2.2.1,z.2.2.2.2,i,false,z.1,z.2.1,z.2.2.1)) (decide_eq_true (by show i < n;omega)) b.same.ok b.lb.1 b.len k1 b.wM b.wN k2 k3 (by
   unfold qeJ2y
   show (if (oneS M N z).2.1.Blank = true then !(pNMI (oneS M N z).1 (oneS M N z).2.2.2.1 == decide ((oneS M N z).2.1.Control ≥ 128)) else !(pNMI (oneS M N z).1 (oneS M N z).2.2.2.1 == false)) = false
   rw [en]
   cases (oneS M N z).2.1.Blank <;> simp)
  simp only [hw] at st
  exact .more st (step_loop p0 M N S0 n hn m (oneS M N z) (i + 1) b1 (by omega) (by omega))
theorem stepF_ok (p:Pic) (r:RPic) (rM:Nat → Int) (rN:Nat → Int) (rS:Nat → Int) (n:Int) (pC:List Sprite) (rC:List Man) (b:Both p pC r rM rN rS rC) (hn:0 ≤ n ∧ n < 1000000000):FnSpec Try.prog 29 1007 [pt 1000,pt 1001,.int .i64 n] [(1000,(Pic.bl p (sl 1005 (List.length pC) 5) false)),(1001,(RPic.bl r (sl 1002 16384 1) (sl 1003 256 1) (sl 1006 (List.length rC) 4) (sl 1004 61440 1) false)),(1002,iB 16384 rM false),(1003,iB 256 rN false),(1004,iB 61440 rS false),(1005,sB pC false),(1006,mB rC false)] (.bool true) [(1000,(Pic.bl (stepF p r rM rN rS n pC rC).1 (sl 1007 (List.length (stepF p r rM rN rS n pC rC).2.2.2.1) 5) false)),(1001,(RPic.bl (stepF p r rM rN rS n pC rC).2.1 (sl 1002 16384 1) (sl 1003 256 1) (sl 1008 (List.length (stepF p r rM rN rS n pC rC).2.2.2.2) 4) (sl 1004 61440 1) false)),(1002,iB 16384 rM false),(1003,iB 256 rN false),(1004,⟨[.ints .u8 61440 (stepF p r rM rN rS n pC rC).2.2.1],5,false⟩),(1007,⟨[rowsL Sprite.cells Sprite.nil 5 (stepF p r rM rN rS n pC rC).2.2.2.1],92,false⟩),(1008,⟨[rowsL Man.cells Man.nil 4 (stepF p r rM rN rS n pC rC).2.2.2.2],119,false⟩)]:=by
 have lp:=step_loop p rM rN rS n hn.2 n.toNat (p,r,rS,pC,rC) 0 b (by decide) (by omega)
 have b2:BothS rM rN (stepF p r rM rN rS n pC rC):=run_both n.toNat (z:=(p,r,rS,pC,rC)) b
 have P:=wStep_p1 p r rM rN rS n pC rC _ lp
 have e:qeJ3y ((stepF p r rM rN rS n pC rC).2.2.2.1,(stepF p r rM rN rS n pC rC).2.2.2.2,n,false,(stepF p r rM rN rS n pC rC).1,(stepF p r rM rN rS n pC rC).2.1,(stepF p r rM rN rS n pC rC).2.2.1) = true:=by
  unfold qeJ3y pDot pFrame
  simp only [b2.line,b2.dot,b2.frames,beq_self_eq_true,if_true]
 show FnSpec Try.prog 29 1007 [pt 1000,pt 1001,.int .i64 n] [(1000,(Pic.bl p (sl 1005 (List.length pC) 5) false)),(1001,(RPic.bl r (sl 1002 16384 1) (sl 1003 256 1) (sl 1006 (List.length rC) 4) (sl 1004 61440 1) false)),(1002,iB 16384 rM false),(1003,iB 256 rN false),(1004,iB 61440 rS false),(1005,sB pC false),(1006,mB rC false)] (.bool true) [(1000,(Pic.bl (stepF p r rM rN rS n pC rC).1 (sl 1007 (List.length (stepF p r rM rN rS n pC rC).2.2.2.1) 5) false)),(1001,(RPic.bl (stepF p r rM rN rS n pC rC).2.1 (sl 1002 16384 1) (sl 1003 256 1) (sl 1008 (List.length (stepF p r rM rN rS n pC rC).2.2.2.2) 4) (sl 1004 61440 1) false)),(1002,iB 16384 rM false),(1003,iB 256 rN false),(1004,⟨[.ints .u8 61440 (stepF p r rM rN rS n pC rC).2.2.1],5,false⟩),(1007,⟨[rowsL Sprite.cells Sprite.nil 5 (stepF p r rM rN rS n pC rC).2.2.2.1],92,false⟩),(1008,⟨[rowsL Man.cells Man.nil 4 (stepF p r rM rN rS n pC rC).2.2.2.2],119,false⟩)]
 rw [← e]
 exact P
end Go.Proofs.Ytgnhhnmpeklciaa
namespace Go.Proofs.Ytgnhhnmpeklciaa
open Go VX
theorem wAgain_p1 (N_p:Nat) (d_p:Nat) (p:Nat → Int) (i:Int) (w_p:∀ j,rng 256 (p j)) (c1:((((N_p:Nat):Int):Int) == 0) = true):FnSpec Try.prog 57 1001 [sd 1000 d_p N_p,.int .i64 i] [(1000,gB d_p N_p p)] (.int .u8 0) []:=by
 exact fn_of_x hG hM Try.func57 (by kernel_rfl) (by kernel_rfl) 400 [.yes] (J c1 trivial) (by kernel_rfl)
theorem wAgain_p2 (N_p:Nat) (d_p:Nat) (p:Nat → Int) (i:Int) (w_p:∀ j,rng 256 (p j)) (c1:((((N_p:Nat):Int):Int) == 0) = false) (w1c:0 ≤ (Int.tmod i ((N_p:Nat):Int)) ∧ (Int.tmod i ((N_p:Nat):Int)) < ((N_p:Nat):Int)):FnSpec Try.prog 57 1001 [sd 1000 d_p N_p,.int .i64 i] [(1000,gB d_p N_p p)] (.int .u8 (p (Int.toNat (Int.tmod i ((N_p:Nat):Int))))) []:=by
 have o1:((N_p:Nat):Int) ≠ 0:=by first | decide | omega | (simp only [decide_eq_true_eq,decide_eq_false_iff_not,rng,IntKind.wrap_i64,IntKind.wrap_u8,IntKind.wrap_u16] at *;omega)
 exact fn_of_x hG hM Try.func57 (by kernel_rfl) (by kernel_rfl) 400 [.no,.sym] (J c1 (J o1 (J w1c (J (Eq.refl d_p) (J (lt_nat w1c) trivial))))) (by kernel_rfl)
end Go.Proofs.Ytgnhhnmpeklciaa
namespace Go.Proofs.Ytgnhhnmpeklciaa
open Go VX
open Go.IntKind (i64 u8 u16)
theorem wPut_p1 (a:Int) (b:Int) (p:Pic) (r:RPic) (rM:Nat → Int) (rN:Nat → Int) (rS:Nat → Int) (pC:List Sprite) (rC:List Man) (w1c:0 ≤ a):FnSpec Try.prog 56 1009 [.int .i64 a,.int .u8 b,pt 1007,pt 1008] [(1000,(Pic.bl p (sl 1005 (List.length pC) 5) false)),(1001,(RPic.bl r (sl 1002 16384 1) (sl 1003 256 1) (sl 1006 (List.length rC) 4) (sl 1004 61440 1) false)),(1002,iB 16384 rM false),(1003,iB 256 rN false),(1004,iB 61440 rS false),(1005,sB pC false),(1006,mB rC false),(1007,⟨[.one (pt 1000)],26,true⟩),(1008,⟨[.one (pt 1001)],28,true⟩)] (.tuple ⟨[]⟩) [(1000,(Pic.bl (((pPoke p pC (u16.wrap a) b),(rPoke r rM rN rS rC a (i64.wrap b))).1) (sl 1005 (List.length pC) 5) false)),(1001,(RPic.bl r (sl 1002 16384 1) (sl 1003 256 1) (sl 1006 (List.length rC) 4) (sl 1004 61440 1) false)),(1002,⟨[.ints .u8 16384 (((pPoke p pC (u16.wrap a) b),(rPoke r rM rN rS rC a (i64.wrap b))).2)],5,false⟩),(1003,iB 256 rN false),(1004,iB 61440 rS false),(1005,sB pC false),(1006,mB rC false)]:=by
 exact fn_of_x hG hM Try.func56 (by kernel_rfl) (by kernel_rfl) 400 [.call [(1000,1000),(1005,1001)] [] 1002 (.tuple ⟨[]⟩) [(1000,(Pic.bl (pPoke p pC (u16.wrap a) b) (sl 1001 (List.length pC) 5) false)),(1001,sB pC false)],.call [(1001,1000),(1002,1001),(1003,1002),(1004,1003),(1006,1004)] [] 1005 (.tuple ⟨[]⟩) [(1000,(RPic.bl r (sl 1001 16384 1) (sl 1002 256 1) (sl 1004 (List.length rC) 4) (sl 1003 61440 1) false)),(1001,⟨[.ints .u8 16384 (rPoke r rM rN rS rC a (i64.wrap b))],5,false⟩),(1002,iB 256 rN false),(1003,iB 61440 rS false),(1004,mB rC false)]] (J (pPoke_ok p pC (u16.wrap a) b) (J (rPoke_ok r rM rN rS rC a (i64.wrap b) w1c) trivial)) (by kernel_rfl)
end Go.Proofs.Ytgnhhnmpeklciaa
namespace Go.Proofs.Ytgnhhnmpeklciaa
open Go VX
open Go.IntKind (i64 u8 u16)
def againF (N_p:Nat) (d_p:Nat) (p:Nat → Int) (i:Int):Int:=if N_p = 0 then 0 else p (i % (N_p:Int)).toNat
theorem againF_ok (N_p:Nat) (d_p:Nat) (p:Nat → Int) (i:Int) (w_p:∀ j,rng 256 (p j)) (hi:0 ≤ i):FnSpec Try.prog 57 1001 [sd 1000 d_p N_p,.int .i64 i] [(1000,gB d_p N_p p)] (.int .u8 (againF N_p d_p p i)) []:=by
 unfold againF
 by_cases c:N_p = 0
 ·rw [if_pos c]
  exact wAgain_p1 N_p d_p p i w_p (by rw [c];rfl)
 ·rw [if_neg c]
  have e:Int.tmod i ((N_p:Nat):Int) = i % (N_p:Int):=tm_e _ hi
  have P:=wAgain_p2 N_p d_p p i w_p (beq_eq_false_iff_ne.2 (by omega)) (by rw [e];exact ⟨Int.emod_nonneg _ (by omega),Int.emod_lt_of_pos _ (by omega)⟩)
  rw [e] at P
  exact P
def putF (a:Int) (b:Int) (p:Pic) (r:RPic) (rM:Nat → Int) (rN:Nat → Int) (rS:Nat → Int) (pC:List Sprite) (rC:List Man):Pic × (Nat → Int):=(pPoke p pC (u16.wrap a) b,rPoke r rM rN rS rC a (i64.wrap b))
theorem putF_ok (a:Int) (b:Int) (p:Pic) (r:RPic) (rM:Nat → Int) (rN:Nat → Int) (rS:Nat → Int) (pC:List Sprite) (rC:List Man) (ha:0 ≤ a):FnSpec Try.prog 56 1009 [.int .i64 a,.int .u8 b,pt 1007,pt 1008] [(1000,(Pic.bl p (sl 1005 (List.length pC) 5) false)),(1001,(RPic.bl r (sl 1002 16384 1) (sl 1003 256 1) (sl 1006 (List.length rC) 4) (sl 1004 61440 1) false)),(1002,iB 16384 rM false),(1003,iB 256 rN false),(1004,iB 61440 rS false),(1005,sB pC false),(1006,mB rC false),(1007,⟨[.one (pt 1000)],26,true⟩),(1008,⟨[.one (pt 1001)],28,true⟩)] (.tuple ⟨[]⟩) [(1000,(Pic.bl ((putF a b p r rM rN rS pC rC).1) (sl 1005 (List.length pC) 5) false)),(1001,(RPic.bl r (sl 1002 16384 1) (sl 1003 256 1) (sl 1006 (List.length rC) 4) (sl 1004 61440 1) false)),(1002,⟨[.ints .u8 16384 ((putF a b p r rM rN rS pC rC).2)],5,false⟩),(1003,iB 256 rN false),(1004,iB 61440 rS false),(1005,sB pC false),(1006,mB rC false)]:=wPut_p1 a b p r rM rN rS pC rC ha
end Go.Proofs.Ytgnhhnmpeklciaa
namespace Go.Proofs.Ytgnhhnmpeklciaa
open Go VX
open Go.IntKind (i64 u8 u16)
inductive qlL1 (p:Pic) (rM:Nat → Int) (rN:Nat → Int) (rS:Nat → Int) (nTz:Nat) (dTz:Nat) (sTz:Nat → Int) (nNz:Nat) (dNz:Nat) (sNz:Nat → Int) (nKz:Nat) (dKz:Nat) (sKz:Nat → Int) (nMz:Nat) (dMz:Nat) (sMz:Nat → Int) (sUz:Bool) (pC:List Sprite) (rC:List Man) (xd:Int × Pic × RPic × (Nat → Int)):(Int × Pic × RPic × (Nat → Int)) ⊕ (Int × Pic × RPic × (Nat → Int)) → Prop
 | p1 (d1:(decide (xd.1 < 8192)) = true) (w1d:∀ j,rng 256 (sTz j)) (w2d:0 ≤ xd.1):qlL1 p rM rN rS nTz dTz sTz nNz dNz sNz nKz dKz sKz nMz dMz sMz sUz pC rC xd (.inl ((i64.wrap (xd.1 + 1)),(putF xd.1 (againF nTz dTz sTz xd.1) xd.2.1 xd.2.2.1 xd.2.2.2 rN rS pC rC).1,xd.2.2.1,(putF xd.1 (againF nTz dTz sTz xd.1) xd.2.1 xd.2.2.1 xd.2.2.2 rN rS pC rC).2))
 | p2 (d1:(decide (xd.1 < 8192)) = false):qlL1 p rM rN rS nTz dTz sTz nNz dNz sNz nKz dKz sKz nMz dMz sMz sUz pC rC xd (.inr (xd.1,xd.2.1,xd.2.2.1,xd.2.2.2))
def qlL1_T (p:Pic) (rM:Nat → Int) (rN:Nat → Int) (rS:Nat → Int) (nTz:Nat) (dTz:Nat) (sTz:Nat → Int) (nNz:Nat) (dNz:Nat) (sNz:Nat → Int) (nKz:Nat) (dKz:Nat) (sKz:Nat → Int) (nMz:Nat) (dMz:Nat) (sMz:Nat → Int) (sUz:Bool) (pC:List Sprite) (rC:List Man) (xd:Int × Pic × RPic × (Nat → Int)):Tm:=[(3,pt 1011),(4,pt 1012),(5,pt 1013),(6,.func (.func 56) ⟨[]⟩ ⟨[pt 1011,pt 1012]⟩),(21,.int .i64 xd.1)]
def qlL1_H (p:Pic) (rM:Nat → Int) (rN:Nat → Int) (rS:Nat → Int) (nTz:Nat) (dTz:Nat) (sTz:Nat → Int) (nNz:Nat) (dNz:Nat) (sNz:Nat → Int) (nKz:Nat) (dKz:Nat) (sKz:Nat → Int) (nMz:Nat) (dMz:Nat) (sMz:Nat → Int) (sUz:Bool) (pC:List Sprite) (rC:List Man) (xd:Int × Pic × RPic × (Nat → Int)):Heap:=[(1000,(Pic.bl xd.2.1 (sl 1009 (List.length pC) 5) false)),(1001,(RPic.bl xd.2.2.1 (sl 1002 16384 1) (sl 1003 256 1) (sl 1010 (List.length rC) 4) (sl 1004 61440 1) false)),(1002,⟨[.ints .u8 16384 xd.2.2.2],5,false⟩),(1003,iB 256 rN false),(1004,iB 61440 rS false),(1005,gB dTz nTz sTz),(1009,sB pC false),(1010,mB rC false),(1011,⟨[.one (pt 1000)],26,false⟩),(1012,⟨[.one (pt 1001)],28,false⟩),(1013,⟨[.one (sd 1005 dTz nTz),.one (sd 1006 dNz nNz),.one (sd 1007 dKz nKz),.one (sd 1008 dMz nMz),.one (.bool sUz)],45,false⟩)]
def qlL1_T1 (p:Pic) (rM:Nat → Int) (rN:Nat → Int) (rS:Nat → Int) (nTz:Nat) (dTz:Nat) (sTz:Nat → Int) (nNz:Nat) (dNz:Nat) (sNz:Nat → Int) (nKz:Nat) (dKz:Nat) (sKz:Nat → Int) (nMz:Nat) (dMz:Nat) (sMz:Nat → Int) (sUz:Bool) (pC:List Sprite) (rC:List Man) (y_:Int × Pic × RPic × (Nat → Int)):Tm:=qlL1_T p rM rN rS nTz dTz sTz nNz dNz sNz nKz dKz sKz nMz dMz sMz sUz pC rC y_
def qlL1_H1 (p:Pic) (rM:Nat → Int) (rN:Nat → Int) (rS:Nat → Int) (nTz:Nat) (dTz:Nat) (sTz:Nat → Int) (nNz:Nat) (dNz:Nat) (sNz:Nat → Int) (nKz:Nat) (dKz:Nat) (sKz:Nat → Int) (nMz:Nat) (dMz:Nat) (sMz:Nat → Int) (sUz:Bool) (pC:List Sprite) (rC:List Man) (y_:Int × Pic × RPic × (Nat → Int)):Heap:=qlL1_H p rM rN rS nTz dTz sTz nNz dNz sNz nKz dKz sKz nMz dMz sMz sUz pC rC y_
def qlL1_ex (_:Int × Pic × RPic × (Nat → Int)):Ex:=.exit 0
theorem qlL1_p1 (p:Pic) (rM:Nat → Int) (rN:Nat → Int) (rS:Nat → Int) (nTz:Nat) (dTz:Nat) (sTz:Nat → Int) (nNz:Nat) (dNz:Nat) (sNz:Nat → Int) (nKz:Nat) (dKz:Nat) (sKz:Nat → Int) (nMz:Nat) (dMz:Nat) (sMz:Nat → Int) (sUz:Bool) (pC:List Sprite) (rC:List Man) (xd:Int × Pic × RPic × (Nat → Int)) (d1:(decide (xd.1 < 8192)) = true) (w1d:∀ j,rng 256 (sTz j)) (w2d:0 ≤ xd.1):Runs Try.prog 73 (bodyOf Try.f28 [1,1,1,1,0,1,0,0]) (qlL1_T p rM rN rS nTz dTz sTz nNz dNz sNz nKz dKz sKz nMz dMz sMz sUz pC rC xd) (qlL1_H p rM rN rS nTz dTz sTz nNz dNz sNz nKz dKz sKz nMz dMz sMz sUz pC rC xd) 1014 .normal (qlL1_T p rM rN rS nTz dTz sTz nNz dNz sNz nKz dKz sKz nMz dMz sMz sUz pC rC ((i64.wrap (xd.1 + 1)),(putF xd.1 (againF nTz dTz sTz xd.1) xd.2.1 xd.2.2.1 xd.2.2.2 rN rS pC rC).1,xd.2.2.1,(putF xd.1 (againF nTz dTz sTz xd.1) xd.2.1 xd.2.2.1 xd.2.2.2 rN rS pC rC).2)) (qlL1_H p rM rN rS nTz dTz sTz nNz dNz sNz nKz dKz sKz nMz dMz sMz sUz pC rC ((i64.wrap (xd.1 + 1)),(putF xd.1 (againF nTz dTz sTz xd.1) xd.2.1 xd.2.2.1 xd.2.2.2 rN rS pC rC).1,xd.2.2.1,(putF xd.1 (againF nTz dTz sTz xd.1) xd.2.1 xd.2.2.1 xd.2.2.2 rN rS pC rC).2)) 1014:=by
 exact runs_of_x hG hM 400 [.yes,.call [(1005,1000)] [] 1001 (.int .u8 (againF nTz dTz sTz xd.1)) [],.callr [(1000,1000),(1001,1001),(1002,1002),(1003,1003),(1004,1004),(1009,1005),(1010,1006),(1011,1007),(1012,1008)] [1011,1012] [] 1009 (.tuple ⟨[]⟩) [(1000,(Pic.bl ((putF xd.1 (againF nTz dTz sTz xd.1) xd.2.1 xd.2.2.1 xd.2.2.2 rN rS pC rC).1) (sl 1005 (List.length pC) 5) false)),(1001,(RPic.bl xd.2.2.1 (sl 1002 16384 1) (sl 1003 256 1) (sl 1006 (List.length rC) 4) (sl 1004 61440 1) false)),(1002,⟨[.ints .u8 16384 ((putF xd.1 (againF nTz dTz sTz xd.1) xd.2.1 xd.2.2.1 xd.2.2.2 rN rS pC rC).2)],5,false⟩),(1003,iB 256 rN false),(1004,iB 61440 rS false),(1005,sB pC false),(1006,mB rC false)]] (J d1 (J (againF_ok nTz dTz sTz xd.1 w1d w2d) (J (putF_ok xd.1 (againF nTz dTz sTz xd.1) xd.2.1 xd.2.2.1 xd.2.2.2 rN rS pC rC w2d) trivial))) (by kernel_rfl)
theorem qlL1_p2 (p:Pic) (rM:Nat → Int) (rN:Nat → Int) (rS:Nat → Int) (nTz:Nat) (dTz:Nat) (sTz:Nat → Int) (nNz:Nat) (dNz:Nat) (sNz:Nat → Int) (nKz:Nat) (dKz:Nat) (sKz:Nat → Int) (nMz:Nat) (dMz:Nat) (sMz:Nat → Int) (sUz:Bool) (pC:List Sprite) (rC:List Man) (xd:Int × Pic × RPic × (Nat → Int)) (d1:(decide (xd.1 < 8192)) = false):Runs Try.prog 73 (bodyOf Try.f28 [1,1,1,1,0,1,0,0]) (qlL1_T p rM rN rS nTz dTz sTz nNz dNz sNz nKz dKz sKz nMz dMz sMz sUz pC rC xd) (qlL1_H p rM rN rS nTz dTz sTz nNz dNz sNz nKz dKz sKz nMz dMz sMz sUz pC rC xd) 1014 (.exit 0) (qlL1_T1 p rM rN rS nTz dTz sTz nNz dNz sNz nKz dKz sKz nMz dMz sMz sUz pC rC (xd.1,xd.2.1,xd.2.2.1,xd.2.2.2)) (qlL1_H1 p rM rN rS nTz dTz sTz nNz dNz sNz nKz dKz sKz nMz dMz sMz sUz pC rC (xd.1,xd.2.1,xd.2.2.1,xd.2.2.2)) 1014:=by
 exact runs_of_x hG hM 400 [.no] (J d1 trivial) (by kernel_rfl)
theorem qlL1_runs (p:Pic) (rM:Nat → Int) (rN:Nat → Int) (rS:Nat → Int) (nTz:Nat) (dTz:Nat) (sTz:Nat → Int) (nNz:Nat) (dNz:Nat) (sNz:Nat → Int) (nKz:Nat) (dKz:Nat) (sKz:Nat → Int) (nMz:Nat) (dMz:Nat) (sMz:Nat → Int) (sUz:Bool) (pC:List Sprite) (rC:List Man) (x_:Int × Pic × RPic × (Nat → Int)) (y_:Int × Pic × RPic × (Nat → Int)) (h_:LoopR (qlL1 p rM rN rS nTz dTz sTz nNz dNz sNz nKz dKz sKz nMz dMz sMz sUz pC rC) x_ y_):Runs Try.prog 73 (.block 0 (.loop (bodyOf Try.f28 [1,1,1,1,0,1,0,0]))) (qlL1_T p rM rN rS nTz dTz sTz nNz dNz sNz nKz dKz sKz nMz dMz sMz sUz pC rC x_) (qlL1_H p rM rN rS nTz dTz sTz nNz dNz sNz nKz dKz sKz nMz dMz sMz sUz pC rC x_) 1014 (outOf 0 (qlL1_ex y_)) (qlL1_T1 p rM rN rS nTz dTz sTz nNz dNz sNz nKz dKz sKz nMz dMz sMz sUz pC rC y_) (qlL1_H1 p rM rN rS nTz dTz sTz nNz dNz sNz nKz dKz sKz nMz dMz sMz sUz pC rC y_) 1014:=by
 refine block_loop (qlL1 p rM rN rS nTz dTz sTz nNz dNz sNz nKz dKz sKz nMz dMz sMz sUz pC rC) (qlL1_T p rM rN rS nTz dTz sTz nNz dNz sNz nKz dKz sKz nMz dMz sMz sUz pC rC) (qlL1_H p rM rN rS nTz dTz sTz nNz dNz sNz nKz dKz sKz nMz dMz sMz sUz pC rC) qlL1_ex (qlL1_T1 p rM rN rS nTz dTz sTz nNz dNz sNz nKz dKz sKz nMz dMz sMz sUz pC rC) (qlL1_H1 p rM rN rS nTz dTz sTz nNz dNz sNz nKz dKz sKz nMz dMz sMz sUz pC rC) ?_ ?_ ?_ x_ y_ h_
 ·intro r hr;cases hr
 ·intro xd y_ hx
  cases hx with
  | p1 d1 w1d w2d => exact qlL1_p1 p rM rN rS nTz dTz sTz nNz dNz sNz nKz dKz sKz nMz dMz sMz sUz pC rC xd d1 w1d w2d
 ·intro xd y_ hx
  cases hx with
  | p2 d1 => exact qlL1_p2 p rM rN rS nTz dTz sTz nNz dNz sNz nKz dKz sKz nMz dMz sMz sUz pC rC xd d1
inductive qlL2 (p:Pic) (r:RPic) (rM:Nat → Int) (rN:Nat → Int) (rS:Nat → Int) (nTz:Nat) (dTz:Nat) (sTz:Nat → Int) (nNz:Nat) (dNz:Nat) (sNz:Nat → Int) (nKz:Nat) (dKz:Nat) (sKz:Nat → Int) (nMz:Nat) (dMz:Nat) (sMz:Nat → Int) (sUz:Bool) (pC:List Sprite) (rC:List Man) (r1:Int × Pic × RPic × (Nat → Int)) (xd:Int × Pic × (Nat → Int)):(Int × Pic × (Nat → Int)) ⊕ (Int × Pic × (Nat → Int)) → Prop
 | p1 (d1:(decide (xd.1 < 4096)) = true) (w1d:∀ j,rng 256 (sNz j)) (w2d:0 ≤ xd.1) (w3d:0 ≤ (i64.wrap (8192 + xd.1))):qlL2 p r rM rN rS nTz dTz sTz nNz dNz sNz nKz dKz sKz nMz dMz sMz sUz pC rC r1 xd (.inl ((i64.wrap (xd.1 + 1)),(putF (i64.wrap (8192 + xd.1)) (againF nNz dNz sNz xd.1) xd.2.1 r1.2.2.1 xd.2.2 rN rS pC rC).1,(putF (i64.wrap (8192 + xd.1)) (againF nNz dNz sNz xd.1) xd.2.1 r1.2.2.1 xd.2.2 rN rS pC rC).2))
 | p2 (d1:(decide (xd.1 < 4096)) = false):qlL2 p r rM rN rS nTz dTz sTz nNz dNz sNz nKz dKz sKz nMz dMz sMz sUz pC rC r1 xd (.inr (xd.1,xd.2.1,xd.2.2))
def qlL2_T (p:Pic) (r:RPic) (rM:Nat → Int) (rN:Nat → Int) (rS:Nat → Int) (nTz:Nat) (dTz:Nat) (sTz:Nat → Int) (nNz:Nat) (dNz:Nat) (sNz:Nat → Int) (nKz:Nat) (dKz:Nat) (sKz:Nat → Int) (nMz:Nat) (dMz:Nat) (sMz:Nat → Int) (sUz:Bool) (pC:List Sprite) (rC:List Man) (r1:Int × Pic × RPic × (Nat → Int)) (xd:Int × Pic × (Nat → Int)):Tm:=[(3,pt 1011),(4,pt 1012),(5,pt 1013),(6,.func (.func 56) ⟨[]⟩ ⟨[pt 1011,pt 1012]⟩),(32,.int .i64 xd.1)]
def qlL2_H (p:Pic) (r:RPic) (rM:Nat → Int) (rN:Nat → Int) (rS:Nat → Int) (nTz:Nat) (dTz:Nat) (sTz:Nat → Int) (nNz:Nat) (dNz:Nat) (sNz:Nat → Int) (nKz:Nat) (dKz:Nat) (sKz:Nat → Int) (nMz:Nat) (dMz:Nat) (sMz:Nat → Int) (sUz:Bool) (pC:List Sprite) (rC:List Man) (r1:Int × Pic × RPic × (Nat → Int)) (xd:Int × Pic × (Nat → Int)):Heap:=[(1000,(Pic.bl xd.2.1 (sl 1009 (List.length pC) 5) false)),(1001,(RPic.bl r1.2.2.1 (sl 1002 16384 1) (sl 1003 256 1) (sl 1010 (List.length rC) 4) (sl 1004 61440 1) false)),(1002,⟨[.ints .u8 16384 xd.2.2],5,false⟩),(1003,iB 256 rN false),(1004,iB 61440 rS false),(1006,gB dNz nNz sNz),(1009,sB pC false),(1010,mB rC false),(1011,⟨[.one (pt 1000)],26,false⟩),(1012,⟨[.one (pt 1001)],28,false⟩),(1013,⟨[.one (sd 1005 dTz nTz),.one (sd 1006 dNz nNz),.one (sd 1007 dKz nKz),.one (sd 1008 dMz nMz),.one (.bool sUz)],45,false⟩)]
def qlL2_T1 (p:Pic) (r:RPic) (rM:Nat → Int) (rN:Nat → Int) (rS:Nat → Int) (nTz:Nat) (dTz:Nat) (sTz:Nat → Int) (nNz:Nat) (dNz:Nat) (sNz:Nat → Int) (nKz:Nat) (dKz:Nat) (sKz:Nat → Int) (nMz:Nat) (dMz:Nat) (sMz:Nat → Int) (sUz:Bool) (pC:List Sprite) (rC:List Man) (r1:Int × Pic × RPic × (Nat → Int)) (y_:Int × Pic × (Nat → Int)):Tm:=qlL2_T p r rM rN rS nTz dTz sTz nNz dNz sNz nKz dKz sKz nMz dMz sMz sUz pC rC r1 y_
def qlL2_H1 (p:Pic) (r:RPic) (rM:Nat → Int) (rN:Nat → Int) (rS:Nat → Int) (nTz:Nat) (dTz:Nat) (sTz:Nat → Int) (nNz:Nat) (dNz:Nat) (sNz:Nat → Int) (nKz:Nat) (dKz:Nat) (sKz:Nat → Int) (nMz:Nat) (dMz:Nat) (sMz:Nat → Int) (sUz:Bool) (pC:List Sprite) (rC:List Man) (r1:Int × Pic × RPic × (Nat → Int)) (y_:Int × Pic × (Nat → Int)):Heap:=qlL2_H p r rM rN rS nTz dTz sTz nNz dNz sNz nKz dKz sKz nMz dMz sMz sUz pC rC r1 y_
def qlL2_ex (_:Int × Pic × (Nat → Int)):Ex:=.exit 2
theorem qlL2_p1 (p:Pic) (r:RPic) (rM:Nat → Int) (rN:Nat → Int) (rS:Nat → Int) (nTz:Nat) (dTz:Nat) (sTz:Nat → Int) (nNz:Nat) (dNz:Nat) (sNz:Nat → Int) (nKz:Nat) (dKz:Nat) (sKz:Nat → Int) (nMz:Nat) (dMz:Nat) (sMz:Nat → Int) (sUz:Bool) (pC:List Sprite) (rC:List Man) (r1:Int × Pic × RPic × (Nat → Int)) (xd:Int × Pic × (Nat → Int)) (d1:(decide (xd.1 < 4096)) = true) (w1d:∀ j,rng 256 (sNz j)) (w2d:0 ≤ xd.1) (w3d:0 ≤ (i64.wrap (8192 + xd.1))):Runs Try.prog 73 (bodyOf Try.f28 [1,1,1,1,1,0,1,0,0]) (qlL2_T p r rM rN rS nTz dTz sTz nNz dNz sNz nKz dKz sKz nMz dMz sMz sUz pC rC r1 xd) (qlL2_H p r rM rN rS nTz dTz sTz nNz dNz sNz nKz dKz sKz nMz dMz sMz sUz pC rC r1 xd) 1014 .normal (qlL2_T p r rM rN rS nTz dTz sTz nNz dNz sNz nKz dKz sKz nMz dMz sMz sUz pC rC r1 ((i64.wrap (xd.1 + 1)),(putF (i64.wrap (8192 + xd.1)) (againF nNz dNz sNz xd.1) xd.2.1 r1.2.2.1 xd.2.2 rN rS pC rC).1,(putF (i64.wrap (8192 + xd.1)) (againF nNz dNz sNz xd.1) xd.2.1 r1.2.2.1 xd.2.2 rN rS pC rC).2)) (qlL2_H p r rM rN rS nTz dTz sTz nNz dNz sNz nKz dKz sKz nMz dMz sMz sUz pC rC r1 ((i64.wrap (xd.1 + 1)),(putF (i64.wrap (8192 + xd.1)) (againF nNz dNz sNz xd.1) xd.2.1 r1.2.2.1 xd.2.2 rN rS pC rC).1,(putF (i64.wrap (8192 + xd.1)) (againF nNz dNz sNz xd.1) xd.2.1 r1.2.2.1 xd.2.2 rN rS pC rC).2)) 1014:=by
 exact runs_of_x hG hM 400 [.yes,.call [(1006,1000)] [] 1001 (.int .u8 (againF nNz dNz sNz xd.1)) [],.callr [(1000,1000),(1001,1001),(1002,1002),(1003,1003),(1004,1004),(1009,1005),(1010,1006),(1011,1007),(1012,1008)] [1011,1012] [] 1009 (.tuple ⟨[]⟩) [(1000,(Pic.bl ((putF (i64.wrap (8192 + xd.1)) (againF nNz dNz sNz xd.1) xd.2.1 r1.2.2.1 xd.2.2 rN rS pC rC).1) (sl 1005 (List.length pC) 5) false)),(1001,(RPic.bl r1.2.2.1 (sl 1002 16384 1) (sl 1003 256 1) (sl 1006 (List.length rC) 4) (sl 1004 61440 1) false)),(1002,⟨[.ints .u8 16384 ((putF (i64.wrap (8192 + xd.1)) (againF nNz dNz sNz xd.1) xd.2.1 r1.2.2.1 xd.2.2 rN rS pC rC).2)],5,false⟩),(1003,iB 256 rN false),(1004,iB 61440 rS false),(1005,sB pC false),(1006,mB rC false)]] (J d1 (J (againF_ok nNz dNz sNz xd.1 w1d w2d) (J (putF_ok (i64.wrap (8192 + xd.1)) (againF nNz dNz sNz xd.1) xd.2.1 r1.2.2.1 xd.2.2 rN rS pC rC w3d) trivial))) (by kernel_rfl)
theorem qlL2_p2 (p:Pic) (r:RPic) (rM:Nat → Int) (rN:Nat → Int) (rS:Nat → Int) (nTz:Nat) (dTz:Nat) (sTz:Nat → Int) (nNz:Nat) (dNz:Nat) (sNz:Nat → Int) (nKz:Nat) (dKz:Nat) (sKz:Nat → Int) (nMz:Nat) (dMz:Nat) (sMz:Nat → Int) (sUz:Bool) (pC:List Sprite) (rC:List Man) (r1:Int × Pic × RPic × (Nat → Int)) (xd:Int × Pic × (Nat → Int)) (d1:(decide (xd.1 < 4096)) = false):Runs Try.prog 73 (bodyOf Try.f28 [1,1,1,1,1,0,1,0,0]) (qlL2_T p r rM rN rS nTz dTz sTz nNz dNz sNz nKz dKz sKz nMz dMz sMz sUz pC rC r1 xd) (qlL2_H p r rM rN rS nTz dTz sTz nNz dNz sNz nKz dKz sKz nMz dMz sMz sUz pC rC r1 xd) 1014 (.exit 2) (qlL2_T1 p r rM rN rS nTz dTz sTz nNz dNz sNz nKz dKz sKz nMz dMz sMz sUz pC rC r1 (xd.1,xd.2.1,xd.2.2)) (qlL2_H1 p r rM rN rS nTz dTz sTz nNz dNz sNz nKz dKz sKz nMz dMz sMz sUz pC rC r1 (xd.1,xd.2.1,xd.2.2)) 1014:=by
 exact runs_of_x hG hM 400 [.no] (J d1 trivial) (by kernel_rfl)
theorem qlL2_runs (p:Pic) (r:RPic) (rM:Nat → Int) (rN:Nat → Int) (rS:Nat → Int) (nTz:Nat) (dTz:Nat) (sTz:Nat → Int) (nNz:Nat) (dNz:Nat) (sNz:Nat → Int) (nKz:Nat) (dKz:Nat) (sKz:Nat → Int) (nMz:Nat) (dMz:Nat) (sMz:Nat → Int) (sUz:Bool) (pC:List Sprite) (rC:List Man) (r1:Int × Pic × RPic × (Nat → Int)) (x_:Int × Pic × (Nat → Int)) (y_:Int × Pic × (Nat → Int)) (h_:LoopR (qlL2 p r rM rN rS nTz dTz sTz nNz dNz sNz nKz dKz sKz nMz dMz sMz sUz pC rC r1) x_ y_):Runs Try.prog 73 (.block 2 (.loop (bodyOf Try.f28 [1,1,1,1,1,0,1,0,0]))) (qlL2_T p r rM rN rS nTz dTz sTz nNz dNz sNz nKz dKz sKz nMz dMz sMz sUz pC rC r1 x_) (qlL2_H p r rM rN rS nTz dTz sTz nNz dNz sNz nKz dKz sKz nMz dMz sMz sUz pC rC r1 x_) 1014 (outOf 2 (qlL2_ex y_)) (qlL2_T1 p r rM rN rS nTz dTz sTz nNz dNz sNz nKz dKz sKz nMz dMz sMz sUz pC rC r1 y_) (qlL2_H1 p r rM rN rS nTz dTz sTz nNz dNz sNz nKz dKz sKz nMz dMz sMz sUz pC rC r1 y_) 1014:=by
 refine block_loop (qlL2 p r rM rN rS nTz dTz sTz nNz dNz sNz nKz dKz sKz nMz dMz sMz sUz pC rC r1) (qlL2_T p r rM rN rS nTz dTz sTz nNz dNz sNz nKz dKz sKz nMz dMz sMz sUz pC rC r1) (qlL2_H p r rM rN rS nTz dTz sTz nNz dNz sNz nKz dKz sKz nMz dMz sMz sUz pC rC r1) qlL2_ex (qlL2_T1 p r rM rN rS nTz dTz sTz nNz dNz sNz nKz dKz sKz nMz dMz sMz sUz pC rC r1) (qlL2_H1 p r rM rN rS nTz dTz sTz nNz dNz sNz nKz dKz sKz nMz dMz sMz sUz pC rC r1) ?_ ?_ ?_ x_ y_ h_
 ·intro r hr;cases hr
 ·intro xd y_ hx
  cases hx with
  | p1 d1 w1d w2d w3d => exact qlL2_p1 p r rM rN rS nTz dTz sTz nNz dNz sNz nKz dKz sKz nMz dMz sMz sUz pC rC r1 xd d1 w1d w2d w3d
 ·intro xd y_ hx
  cases hx with
  | p2 d1 => exact qlL2_p2 p r rM rN rS nTz dTz sTz nNz dNz sNz nKz dKz sKz nMz dMz sMz sUz pC rC r1 xd d1
inductive qlL3 (p:Pic) (r:RPic) (rM:Nat → Int) (rN:Nat → Int) (rS:Nat → Int) (nTz:Nat) (dTz:Nat) (sTz:Nat → Int) (nNz:Nat) (dNz:Nat) (sNz:Nat → Int) (nKz:Nat) (dKz:Nat) (sKz:Nat → Int) (nMz:Nat) (dMz:Nat) (sMz:Nat → Int) (sUz:Bool) (pC:List Sprite) (rC:List Man) (r1:Int × Pic × RPic × (Nat → Int)) (r2:Int × Pic × (Nat → Int)) (xd:Int × Pic × (Nat → Int)):(Int × Pic × (Nat → Int)) ⊕ (Int × Pic × (Nat → Int)) → Prop
 | p1 (d1:(decide (xd.1 < 32)) = true) (w1d:∀ j,rng 256 (sKz j)) (w2d:0 ≤ xd.1) (w3d:0 ≤ (i64.wrap (16128 + xd.1))):qlL3 p r rM rN rS nTz dTz sTz nNz dNz sNz nKz dKz sKz nMz dMz sMz sUz pC rC r1 r2 xd (.inl ((i64.wrap (xd.1 + 1)),(putF (i64.wrap (16128 + xd.1)) (againF nKz dKz sKz xd.1) xd.2.1 r1.2.2.1 xd.2.2 rN rS pC rC).1,(putF (i64.wrap (16128 + xd.1)) (againF nKz dKz sKz xd.1) xd.2.1 r1.2.2.1 xd.2.2 rN rS pC rC).2))
 | p2 (d1:(decide (xd.1 < 32)) = false):qlL3 p r rM rN rS nTz dTz sTz nNz dNz sNz nKz dKz sKz nMz dMz sMz sUz pC rC r1 r2 xd (.inr (xd.1,xd.2.1,xd.2.2))
def qlL3_T (p:Pic) (r:RPic) (rM:Nat → Int) (rN:Nat → Int) (rS:Nat → Int) (nTz:Nat) (dTz:Nat) (sTz:Nat → Int) (nNz:Nat) (dNz:Nat) (sNz:Nat → Int) (nKz:Nat) (dKz:Nat) (sKz:Nat → Int) (nMz:Nat) (dMz:Nat) (sMz:Nat → Int) (sUz:Bool) (pC:List Sprite) (rC:List Man) (r1:Int × Pic × RPic × (Nat → Int)) (r2:Int × Pic × (Nat → Int)) (xd:Int × Pic × (Nat → Int)):Tm:=[(3,pt 1011),(4,pt 1012),(5,pt 1013),(6,.func (.func 56) ⟨[]⟩ ⟨[pt 1011,pt 1012]⟩),(44,.int .i64 xd.1)]
def qlL3_H (p:Pic) (r:RPic) (rM:Nat → Int) (rN:Nat → Int) (rS:Nat → Int) (nTz:Nat) (dTz:Nat) (sTz:Nat → Int) (nNz:Nat) (dNz:Nat) (sNz:Nat → Int) (nKz:Nat) (dKz:Nat) (sKz:Nat → Int) (nMz:Nat) (dMz:Nat) (sMz:Nat → Int) (sUz:Bool) (pC:List Sprite) (rC:List Man) (r1:Int × Pic × RPic × (Nat → Int)) (r2:Int × Pic × (Nat → Int)) (xd:Int × Pic × (Nat → Int)):Heap:=[(1000,(Pic.bl xd.2.1 (sl 1009 (List.length pC) 5) false)),(1001,(RPic.bl r1.2.2.1 (sl 1002 16384 1) (sl 1003 256 1) (sl 1010 (List.length rC) 4) (sl 1004 61440 1) false)),(1002,⟨[.ints .u8 16384 xd.2.2],5,false⟩),(1003,iB 256 rN false),(1004,iB 61440 rS false),(1007,gB dKz nKz sKz),(1009,sB pC false),(1010,mB rC false),(1011,⟨[.one (pt 1000)],26,false⟩),(1012,⟨[.one (pt 1001)],28,false⟩),(1013,⟨[.one (sd 1005 dTz nTz),.one (sd 1006 dNz nNz),.one (sd 1007 dKz nKz),.one (sd 1008 dMz nMz),.one (.bool sUz)],45,false⟩)]
def qlL3_T1 (p:Pic) (r:RPic) (rM:Nat → Int) (rN:Nat → Int) (rS:Nat → Int) (nTz:Nat) (dTz:Nat) (sTz:Nat → Int) (nNz:Nat) (dNz:Nat) (sNz:Nat → Int) (nKz:Nat) (dKz:Nat) (sKz:Nat → Int) (nMz:Nat) (dMz:Nat) (sMz:Nat → Int) (sUz:Bool) (pC:List Sprite) (rC:List Man) (r1:Int × Pic × RPic × (Nat → Int)) (r2:Int × Pic × (Nat → Int)) (y_:Int × Pic × (Nat → Int)):Tm:=qlL3_T p r rM rN rS nTz dTz sTz nNz dNz sNz nKz dKz sKz nMz dMz sMz sUz pC rC r1 r2 y_
def qlL3_H1 (p:Pic) (r:RPic) (rM:Nat → Int) (rN:Nat → Int) (rS:Nat → Int) (nTz:Nat) (dTz:Nat) (sTz:Nat → Int) (nNz:Nat) (dNz:Nat) (sNz:Nat → Int) (nKz:Nat) (dKz:Nat) (sKz:Nat → Int) (nMz:Nat) (dMz:Nat) (sMz:Nat → Int) (sUz:Bool) (pC:List Sprite) (rC:List Man) (r1:Int × Pic × RPic × (Nat → Int)) (r2:Int × Pic × (Nat → Int)) (y_:Int × Pic × (Nat → Int)):Heap:=qlL3_H p r rM rN rS nTz dTz sTz nNz dNz sNz nKz dKz sKz nMz dMz sMz sUz pC rC r1 r2 y_
def qlL3_ex (_:Int × Pic × (Nat → Int)):Ex:=.exit 4
theorem qlL3_p1 (p:Pic) (r:RPic) (rM:Nat → Int) (rN:Nat → Int) (rS:Nat → Int) (nTz:Nat) (dTz:Nat) (sTz:Nat → Int) (nNz:Nat) (dNz:Nat) (sNz:Nat → Int) (nKz:Nat) (dKz:Nat) (sKz:Nat → Int) (nMz:Nat) (dMz:Nat) (sMz:Nat → Int) (sUz:Bool) (pC:List Sprite) (rC:List Man) (r1:Int × Pic × RPic × (Nat → Int)) (r2:Int × Pic × (Nat → Int)) (xd:Int × Pic × (Nat → Int)) (d1:(decide (xd.1 < 32)) = true) (w1d:∀ j,rng 256 (sKz j)) (w2d:0 ≤ xd.1) (w3d:0 ≤ (i64.wrap (16128 + xd.1))):Runs Try.prog 73 (bodyOf Try.f28 [1,1,1,1,1,1,0,1,0,0]) (qlL3_T p r rM rN rS nTz dTz sTz nNz dNz sNz nKz dKz sKz nMz dMz sMz sUz pC rC r1 r2 xd) (qlL3_H p r rM rN rS nTz dTz sTz nNz dNz sNz nKz dKz sKz nMz dMz sMz sUz pC rC r1 r2 xd) 1014 .normal (qlL3_T p r rM rN rS nTz dTz sTz nNz dNz sNz nKz dKz sKz nMz dMz sMz sUz pC rC r1 r2 ((i64.wrap (xd.1 + 1)),(putF (i64.wrap (16128 + xd.1)) (againF nKz dKz sKz xd.1) xd.2.1 r1.2.2.1 xd.2.2 rN rS pC rC).1,(putF (i64.wrap (16128 + xd.1)) (againF nKz dKz sKz xd.1) xd.2.1 r1.2.2.1 xd.2.2 rN rS pC rC).2)) (qlL3_H p r rM rN rS nTz dTz sTz nNz dNz sNz nKz dKz sKz nMz dMz sMz sUz pC rC r1 r2 ((i64.wrap (xd.1 + 1)),(putF (i64.wrap (16128 + xd.1)) (againF nKz dKz sKz xd.1) xd.2.1 r1.2.2.1 xd.2.2 rN rS pC rC).1,(putF (i64.wrap (16128 + xd.1)) (againF nKz dKz sKz xd.1) xd.2.1 r1.2.2.1 xd.2.2 rN rS pC rC).2)) 1014:=by
 exact runs_of_x hG hM 400 [.yes,.call [(1007,1000)] [] 1001 (.int .u8 (againF nKz dKz sKz xd.1)) [],.callr [(1000,1000),(1001,1001),(1002,1002),(1003,1003),(1004,1004),(1009,1005),(1010,1006),(1011,1007),(1012,1008)] [1011,1012] [] 1009 (.tuple ⟨[]⟩) [(1000,(Pic.bl ((putF (i64.wrap (16128 + xd.1)) (againF nKz dKz sKz xd.1) xd.2.1 r1.2.2.1 xd.2.2 rN rS pC rC).1) (sl 1005 (List.length pC) 5) false)),(1001,(RPic.bl r1.2.2.1 (sl 1002 16384 1) (sl 1003 256 1) (sl 1006 (List.length rC) 4) (sl 1004 61440 1) false)),(1002,⟨[.ints .u8 16384 ((putF (i64.wrap (16128 + xd.1)) (againF nKz dKz sKz xd.1) xd.2.1 r1.2.2.1 xd.2.2 rN rS pC rC).2)],5,false⟩),(1003,iB 256 rN false),(1004,iB 61440 rS false),(1005,sB pC false),(1006,mB rC false)]] (J d1 (J (againF_ok nKz dKz sKz xd.1 w1d w2d) (J (putF_ok (i64.wrap (16128 + xd.1)) (againF nKz dKz sKz xd.1) xd.2.1 r1.2.2.1 xd.2.2 rN rS pC rC w3d) trivial))) (by kernel_rfl)
theorem qlL3_p2 (p:Pic) (r:RPic) (rM:Nat → Int) (rN:Nat → Int) (rS:Nat → Int) (nTz:Nat) (dTz:Nat) (sTz:Nat → Int) (nNz:Nat) (dNz:Nat) (sNz:Nat → Int) (nKz:Nat) (dKz:Nat) (sKz:Nat → Int) (nMz:Nat) (dMz:Nat) (sMz:Nat → Int) (sUz:Bool) (pC:List Sprite) (rC:List Man) (r1:Int × Pic × RPic × (Nat → Int)) (r2:Int × Pic × (Nat → Int)) (xd:Int × Pic × (Nat → Int)) (d1:(decide (xd.1 < 32)) = false):Runs Try.prog 73 (bodyOf Try.f28 [1,1,1,1,1,1,0,1,0,0]) (qlL3_T p r rM rN rS nTz dTz sTz nNz dNz sNz nKz dKz sKz nMz dMz sMz sUz pC rC r1 r2 xd) (qlL3_H p r rM rN rS nTz dTz sTz nNz dNz sNz nKz dKz sKz nMz dMz sMz sUz pC rC r1 r2 xd) 1014 (.exit 4) (qlL3_T1 p r rM rN rS nTz dTz sTz nNz dNz sNz nKz dKz sKz nMz dMz sMz sUz pC rC r1 r2 (xd.1,xd.2.1,xd.2.2)) (qlL3_H1 p r rM rN rS nTz dTz sTz nNz dNz sNz nKz dKz sKz nMz dMz sMz sUz pC rC r1 r2 (xd.1,xd.2.1,xd.2.2)) 1014:=by
 exact runs_of_x hG hM 400 [.no] (J d1 trivial) (by kernel_rfl)
theorem qlL3_runs (p:Pic) (r:RPic) (rM:Nat → Int) (rN:Nat → Int) (rS:Nat → Int) (nTz:Nat) (dTz:Nat) (sTz:Nat → Int) (nNz:Nat) (dNz:Nat) (sNz:Nat → Int) (nKz:Nat) (dKz:Nat) (sKz:Nat → Int) (nMz:Nat) (dMz:Nat) (sMz:Nat → Int) (sUz:Bool) (pC:List Sprite) (rC:List Man) (r1:Int × Pic × RPic × (Nat → Int)) (r2:Int × Pic × (Nat → Int)) (x_:Int × Pic × (Nat → Int)) (y_:Int × Pic × (Nat → Int)) (h_:LoopR (qlL3 p r rM rN rS nTz dTz sTz nNz dNz sNz nKz dKz sKz nMz dMz sMz sUz pC rC r1 r2) x_ y_):Runs Try.prog 73 (.block 4 (.loop (bodyOf Try.f28 [1,1,1,1,1,1,0,1,0,0]))) (qlL3_T p r rM rN rS nTz dTz sTz nNz dNz sNz nKz dKz sKz nMz dMz sMz sUz pC rC r1 r2 x_) (qlL3_H p r rM rN rS nTz dTz sTz nNz dNz sNz nKz dKz sKz nMz dMz sMz sUz pC rC r1 r2 x_) 1014 (outOf 4 (qlL3_ex y_)) (qlL3_T1 p r rM rN rS nTz dTz sTz nNz dNz sNz nKz dKz sKz nMz dMz sMz sUz pC rC r1 r2 y_) (qlL3_H1 p r rM rN rS nTz dTz sTz nNz dNz sNz nKz dKz sKz nMz dMz sMz sUz pC rC r1 r2 y_) 1014:=by
 refine block_loop (qlL3 p r rM rN rS nTz dTz sTz nNz dNz sNz nKz dKz sKz nMz dMz sMz sUz pC rC r1 r2) (qlL3_T p r rM rN rS nTz dTz sTz nNz dNz sNz nKz dKz sKz nMz dMz sMz sUz pC rC r1 r2) (qlL3_H p r rM rN rS nTz dTz sTz nNz dNz sNz nKz dKz sKz nMz dMz sMz sUz pC rC r1 r2) qlL3_ex (qlL3_T1 p r rM rN rS nTz dTz sTz nNz dNz sNz nKz dKz sKz nMz dMz sMz sUz pC rC r1 r2) (qlL3_H1 p r rM rN rS nTz dTz sTz nNz dNz sNz nKz dKz sKz nMz dMz sMz sUz pC rC r1 r2) ?_ ?_ ?_ x_ y_ h_
 ·intro r hr;cases hr
 ·intro xd y_ hx
  cases hx with
  | p1 d1 w1d w2d w3d => exact qlL3_p1 p r rM rN rS nTz dTz sTz nNz dNz sNz nKz dKz sKz nMz dMz sMz sUz pC rC r1 r2 xd d1 w1d w2d w3d
 ·intro xd y_ hx
  cases hx with
  | p2 d1 => exact qlL3_p2 p r rM rN rS nTz dTz sTz nNz dNz sNz nKz dKz sKz nMz dMz sMz sUz pC rC r1 r2 xd d1
inductive qlL4 (p:Pic) (r:RPic) (rM:Nat → Int) (rN:Nat → Int) (rS:Nat → Int) (nTz:Nat) (dTz:Nat) (sTz:Nat → Int) (nNz:Nat) (dNz:Nat) (sNz:Nat → Int) (nKz:Nat) (dKz:Nat) (sKz:Nat → Int) (nMz:Nat) (dMz:Nat) (sMz:Nat → Int) (sUz:Bool) (pC:List Sprite) (rC:List Man) (r1:Int × Pic × RPic × (Nat → Int)) (r2:Int × Pic × (Nat → Int)) (r3:Int × Pic × (Nat → Int)) (xd:Int × Pic × RPic × (Nat → Int) × (Nat → Int)):(Int × Pic × RPic × (Nat → Int) × (Nat → Int)) ⊕ (Int × Pic × RPic × (Nat → Int) × (Nat → Int)) → Prop
 | p1 (d1:(decide (xd.1 < 256)) = true) (w1d:∀ j,rng 256 (sMz j)) (w2d:0 ≤ xd.1) (w3d:Pic.ok xd.2.1) (w4d:0 ≤ xd.2.2.1.At ∧ xd.2.2.1.At < ((256:Nat):Int)) (w5d:0 ≤ rBits xd.2.2.1.S.V):qlL4 p r rM rN rS nTz dTz sTz nNz dNz sNz nKz dKz sKz nMz dMz sMz sUz pC rC r1 r2 r3 xd (.inl ((i64.wrap (xd.1 + 1)),(pPut xd.2.1 pC 4 (againF nMz dMz sMz xd.1)),(rPut xd.2.2.1 xd.2.2.2.1 xd.2.2.2.2 rS rC 4 (i64.wrap (againF nMz dMz sMz xd.1))).1,(rPut xd.2.2.1 xd.2.2.2.1 xd.2.2.2.2 rS rC 4 (i64.wrap (againF nMz dMz sMz xd.1))).2.1,(rPut xd.2.2.1 xd.2.2.2.1 xd.2.2.2.2 rS rC 4 (i64.wrap (againF nMz dMz sMz xd.1))).2.2))
 | p2 (d1:(decide (xd.1 < 256)) = false):qlL4 p r rM rN rS nTz dTz sTz nNz dNz sNz nKz dKz sKz nMz dMz sMz sUz pC rC r1 r2 r3 xd (.inr (xd.1,xd.2.1,xd.2.2.1,xd.2.2.2.1,xd.2.2.2.2))
def qlL4_T (p:Pic) (r:RPic) (rM:Nat → Int) (rN:Nat → Int) (rS:Nat → Int) (nTz:Nat) (dTz:Nat) (sTz:Nat → Int) (nNz:Nat) (dNz:Nat) (sNz:Nat → Int) (nKz:Nat) (dKz:Nat) (sKz:Nat → Int) (nMz:Nat) (dMz:Nat) (sMz:Nat → Int) (sUz:Bool) (pC:List Sprite) (rC:List Man) (r1:Int × Pic × RPic × (Nat → Int)) (r2:Int × Pic × (Nat → Int)) (r3:Int × Pic × (Nat → Int)) (xd:Int × Pic × RPic × (Nat → Int) × (Nat → Int)):Tm:=[(3,pt 1011),(4,pt 1012),(5,pt 1013),(56,.int .i64 xd.1)]
def qlL4_H (p:Pic) (r:RPic) (rM:Nat → Int) (rN:Nat → Int) (rS:Nat → Int) (nTz:Nat) (dTz:Nat) (sTz:Nat → Int) (nNz:Nat) (dNz:Nat) (sNz:Nat → Int) (nKz:Nat) (dKz:Nat) (sKz:Nat → Int) (nMz:Nat) (dMz:Nat) (sMz:Nat → Int) (sUz:Bool) (pC:List Sprite) (rC:List Man) (r1:Int × Pic × RPic × (Nat → Int)) (r2:Int × Pic × (Nat → Int)) (r3:Int × Pic × (Nat → Int)) (xd:Int × Pic × RPic × (Nat → Int) × (Nat → Int)):Heap:=[(1000,(Pic.bl xd.2.1 (sl 1009 (List.length pC) 5) false)),(1001,(RPic.bl xd.2.2.1 (sl 1002 16384 1) (sl 1003 256 1) (sl 1010 (List.length rC) 4) (sl 1004 61440 1) false)),(1002,⟨[.ints .u8 16384 xd.2.2.2.1],5,false⟩),(1003,⟨[.ints .u8 256 xd.2.2.2.2],5,false⟩),(1004,iB 61440 rS false),(1008,gB dMz nMz sMz),(1009,sB pC false),(1010,mB rC false),(1011,⟨[.one (pt 1000)],26,false⟩),(1012,⟨[.one (pt 1001)],28,false⟩),(1013,⟨[.one (sd 1005 dTz nTz),.one (sd 1006 dNz nNz),.one (sd 1007 dKz nKz),.one (sd 1008 dMz nMz),.one (.bool sUz)],45,false⟩)]
def qlL4_T1 (p:Pic) (r:RPic) (rM:Nat → Int) (rN:Nat → Int) (rS:Nat → Int) (nTz:Nat) (dTz:Nat) (sTz:Nat → Int) (nNz:Nat) (dNz:Nat) (sNz:Nat → Int) (nKz:Nat) (dKz:Nat) (sKz:Nat → Int) (nMz:Nat) (dMz:Nat) (sMz:Nat → Int) (sUz:Bool) (pC:List Sprite) (rC:List Man) (r1:Int × Pic × RPic × (Nat → Int)) (r2:Int × Pic × (Nat → Int)) (r3:Int × Pic × (Nat → Int)) (y_:Int × Pic × RPic × (Nat → Int) × (Nat → Int)):Tm:=qlL4_T p r rM rN rS nTz dTz sTz nNz dNz sNz nKz dKz sKz nMz dMz sMz sUz pC rC r1 r2 r3 y_
def qlL4_H1 (p:Pic) (r:RPic) (rM:Nat → Int) (rN:Nat → Int) (rS:Nat → Int) (nTz:Nat) (dTz:Nat) (sTz:Nat → Int) (nNz:Nat) (dNz:Nat) (sNz:Nat → Int) (nKz:Nat) (dKz:Nat) (sKz:Nat → Int) (nMz:Nat) (dMz:Nat) (sMz:Nat → Int) (sUz:Bool) (pC:List Sprite) (rC:List Man) (r1:Int × Pic × RPic × (Nat → Int)) (r2:Int × Pic × (Nat → Int)) (r3:Int × Pic × (Nat → Int)) (y_:Int × Pic × RPic × (Nat → Int) × (Nat → Int)):Heap:=qlL4_H p r rM rN rS nTz dTz sTz nNz dNz sNz nKz dKz sKz nMz dMz sMz sUz pC rC r1 r2 r3 y_
def qlL4_ex (_:Int × Pic × RPic × (Nat → Int) × (Nat → Int)):Ex:=.exit 6
abbrev NVk0 (xd:Int × Pic × RPic × (Nat → Int) × (Nat → Int)) (rS:Nat → Int) (rC:List Man) (nMz dMz:Nat) (sMz:Nat → Int):=(rPut xd.2.2.1 xd.2.2.2.1 xd.2.2.2.2 rS rC 4 (i64.wrap (againF nMz dMz sMz xd.1)))
theorem qlL4_p1 (p:Pic) (r:RPic) (rM:Nat → Int) (rN:Nat → Int) (rS:Nat → Int) (nTz:Nat) (dTz:Nat) (sTz:Nat → Int) (nNz:Nat) (dNz:Nat) (sNz:Nat → Int) (nKz:Nat) (dKz:Nat) (sKz:Nat → Int) (nMz:Nat) (dMz:Nat) (sMz:Nat → Int) (sUz:Bool) (pC:List Sprite) (rC:List Man) (r1:Int × Pic × RPic × (Nat → Int)) (r2:Int × Pic × (Nat → Int)) (r3:Int × Pic × (Nat → Int)) (xd:Int × Pic × RPic × (Nat → Int) × (Nat → Int)) (d1:(decide (xd.1 < 256)) = true) (w1d:∀ j,rng 256 (sMz j)) (w2d:0 ≤ xd.1) (w3d:Pic.ok xd.2.1) (w4d:0 ≤ xd.2.2.1.At ∧ xd.2.2.1.At < ((256:Nat):Int)) (w5d:0 ≤ rBits xd.2.2.1.S.V):Runs Try.prog 73 (bodyOf Try.f28 [1,1,1,1,1,1,1,1,0,0]) (qlL4_T p r rM rN rS nTz dTz sTz nNz dNz sNz nKz dKz sKz nMz dMz sMz sUz pC rC r1 r2 r3 xd) (qlL4_H p r rM rN rS nTz dTz sTz nNz dNz sNz nKz dKz sKz nMz dMz sMz sUz pC rC r1 r2 r3 xd) 1014 .normal (qlL4_T p r rM rN rS nTz dTz sTz nNz dNz sNz nKz dKz sKz nMz dMz sMz sUz pC rC r1 r2 r3 ((i64.wrap (xd.1 + 1)),(pPut xd.2.1 pC 4 (againF nMz dMz sMz xd.1)),(NVk0 xd rS rC nMz dMz sMz).1,(NVk0 xd rS rC nMz dMz sMz).2.1,(NVk0 xd rS rC nMz dMz sMz).2.2)) (qlL4_H p r rM rN rS nTz dTz sTz nNz dNz sNz nKz dKz sKz nMz dMz sMz sUz pC rC r1 r2 r3 ((i64.wrap (xd.1 + 1)),(pPut xd.2.1 pC 4 (againF nMz dMz sMz xd.1)),(NVk0 xd rS rC nMz dMz sMz).1,(NVk0 xd rS rC nMz dMz sMz).2.1,(NVk0 xd rS rC nMz dMz sMz).2.2)) 1014:=by
 exact runs_of_x hG hM 400 [.yes,.call [(1008,1000)] [] 1001 (.int .u8 (againF nMz dMz sMz xd.1)) [],.call [(1000,1000),(1009,1001)] [] 1002 (.tuple ⟨[]⟩) [(1000,(Pic.bl (pPut xd.2.1 pC 4 (againF nMz dMz sMz xd.1)) (sl 1001 (List.length pC) 5) false)),(1001,sB pC false)],.call [(1008,1000)] [] 1001 (.int .u8 (againF nMz dMz sMz xd.1)) [],.call [(1001,1000),(1002,1001),(1003,1002),(1004,1003),(1010,1004)] [] 1005 (.tuple ⟨[]⟩) [(1000,(RPic.bl ((NVk0 xd rS rC nMz dMz sMz).1) (sl 1001 16384 1) (sl 1002 256 1) (sl 1004 (List.length rC) 4) (sl 1003 61440 1) false)),(1001,⟨[.ints .u8 16384 ((NVk0 xd rS rC nMz dMz sMz).2.1)],5,false⟩),(1002,⟨[.ints .u8 256 ((NVk0 xd rS rC nMz dMz sMz).2.2)],5,false⟩),(1003,iB 61440 rS false),(1004,mB rC false)]] (J d1 (J (againF_ok nMz dMz sMz xd.1 w1d w2d) (J (pPut_ok xd.2.1 pC 4 (againF nMz dMz sMz xd.1) w3d) (J (againF_ok nMz dMz sMz xd.1 w1d w2d) (J (rPut_ok xd.2.2.1 xd.2.2.2.1 xd.2.2.2.2 rS rC 4 (i64.wrap (againF nMz dMz sMz xd.1)) w4d w5d) trivial))))) (by kernel_rfl)
theorem qlL4_p2 (p:Pic) (r:RPic) (rM:Nat → Int) (rN:Nat → Int) (rS:Nat → Int) (nTz:Nat) (dTz:Nat) (sTz:Nat → Int) (nNz:Nat) (dNz:Nat) (sNz:Nat → Int) (nKz:Nat) (dKz:Nat) (sKz:Nat → Int) (nMz:Nat) (dMz:Nat) (sMz:Nat → Int) (sUz:Bool) (pC:List Sprite) (rC:List Man) (r1:Int × Pic × RPic × (Nat → Int)) (r2:Int × Pic × (Nat → Int)) (r3:Int × Pic × (Nat → Int)) (xd:Int × Pic × RPic × (Nat → Int) × (Nat → Int)) (d1:(decide (xd.1 < 256)) = false):Runs Try.prog 73 (bodyOf Try.f28 [1,1,1,1,1,1,1,1,0,0]) (qlL4_T p r rM rN rS nTz dTz sTz nNz dNz sNz nKz dKz sKz nMz dMz sMz sUz pC rC r1 r2 r3 xd) (qlL4_H p r rM rN rS nTz dTz sTz nNz dNz sNz nKz dKz sKz nMz dMz sMz sUz pC rC r1 r2 r3 xd) 1014 (.exit 6) (qlL4_T1 p r rM rN rS nTz dTz sTz nNz dNz sNz nKz dKz sKz nMz dMz sMz sUz pC rC r1 r2 r3 (xd.1,xd.2.1,xd.2.2.1,xd.2.2.2.1,xd.2.2.2.2)) (qlL4_H1 p r rM rN rS nTz dTz sTz nNz dNz sNz nKz dKz sKz nMz dMz sMz sUz pC rC r1 r2 r3 (xd.1,xd.2.1,xd.2.2.1,xd.2.2.2.1,xd.2.2.2.2)) 1014:=by
 exact runs_of_x hG hM 400 [.no] (J d1 trivial) (by kernel_rfl)
theorem qlL4_runs (p:Pic) (r:RPic) (rM:Nat → Int) (rN:Nat → Int) (rS:Nat → Int) (nTz:Nat) (dTz:Nat) (sTz:Nat → Int) (nNz:Nat) (dNz:Nat) (sNz:Nat → Int) (nKz:Nat) (dKz:Nat) (sKz:Nat → Int) (nMz:Nat) (dMz:Nat) (sMz:Nat → Int) (sUz:Bool) (pC:List Sprite) (rC:List Man) (r1:Int × Pic × RPic × (Nat → Int)) (r2:Int × Pic × (Nat → Int)) (r3:Int × Pic × (Nat → Int)) (x_:Int × Pic × RPic × (Nat → Int) × (Nat → Int)) (y_:Int × Pic × RPic × (Nat → Int) × (Nat → Int)) (h_:LoopR (qlL4 p r rM rN rS nTz dTz sTz nNz dNz sNz nKz dKz sKz nMz dMz sMz sUz pC rC r1 r2 r3) x_ y_):Runs Try.prog 73 (.block 6 (.loop (bodyOf Try.f28 [1,1,1,1,1,1,1,1,0,0]))) (qlL4_T p r rM rN rS nTz dTz sTz nNz dNz sNz nKz dKz sKz nMz dMz sMz sUz pC rC r1 r2 r3 x_) (qlL4_H p r rM rN rS nTz dTz sTz nNz dNz sNz nKz dKz sKz nMz dMz sMz sUz pC rC r1 r2 r3 x_) 1014 (outOf 6 (qlL4_ex y_)) (qlL4_T1 p r rM rN rS nTz dTz sTz nNz dNz sNz nKz dKz sKz nMz dMz sMz sUz pC rC r1 r2 r3 y_) (qlL4_H1 p r rM rN rS nTz dTz sTz nNz dNz sNz nKz dKz sKz nMz dMz sMz sUz pC rC r1 r2 r3 y_) 1014:=by
 refine block_loop (qlL4 p r rM rN rS nTz dTz sTz nNz dNz sNz nKz dKz sKz nMz dMz sMz sUz pC rC r1 r2 r3) (qlL4_T p r rM rN rS nTz dTz sTz nNz dNz sNz nKz dKz sKz nMz dMz sMz sUz pC rC r1 r2 r3) (qlL4_H p r rM rN rS nTz dTz sTz nNz dNz sNz nKz dKz sKz nMz dMz sMz sUz pC rC r1 r2 r3) qlL4_ex (qlL4_T1 p r rM rN rS nTz dTz sTz nNz dNz sNz nKz dKz sKz nMz dMz sMz sUz pC rC r1 r2 r3) (qlL4_H1 p r rM rN rS nTz dTz sTz nNz dNz sNz nKz dKz sKz nMz dMz sMz sUz pC rC r1 r2 r3) ?_ ?_ ?_ x_ y_ h_
 ·intro r hr;cases hr
 ·intro xd y_ hx
  cases hx with
  | p1 d1 w1d w2d w3d w4d w5d => exact qlL4_p1 p r rM rN rS nTz dTz sTz nNz dNz sNz nKz dKz sKz nMz dMz sMz sUz pC rC r1 r2 r3 xd d1 w1d w2d w3d w4d w5d
 ·intro xd y_ hx
  cases hx with
  | p2 d1 => exact qlL4_p2 p r rM rN rS nTz dTz sTz nNz dNz sNz nKz dKz sKz nMz dMz sMz sUz pC rC r1 r2 r3 xd d1
theorem wLay_p1 (p:Pic) (r:RPic) (rM:Nat → Int) (rN:Nat → Int) (rS:Nat → Int) (nTz:Nat) (dTz:Nat) (sTz:Nat → Int) (nNz:Nat) (dNz:Nat) (sNz:Nat → Int) (nKz:Nat) (dKz:Nat) (sKz:Nat → Int) (nMz:Nat) (dMz:Nat) (sMz:Nat → Int) (sUz:Bool) (pC:List Sprite) (rC:List Man) (r1:Int × Pic × RPic × (Nat → Int)) (l1:LoopR (qlL1 p rM rN rS nTz dTz sTz nNz dNz sNz nKz dKz sKz nMz dMz sMz sUz pC rC) (0,(pUpright p pC sUz),({ r with Upright:=sUz }:RPic),rM) r1) (r2:Int × Pic × (Nat → Int)) (l2:LoopR (qlL2 p r rM rN rS nTz dTz sTz nNz dNz sNz nKz dKz sKz nMz dMz sMz sUz pC rC r1) (0,r1.2.1,r1.2.2.2) r2) (r3:Int × Pic × (Nat → Int)) (l3:LoopR (qlL3 p r rM rN rS nTz dTz sTz nNz dNz sNz nKz dKz sKz nMz dMz sMz sUz pC rC r1 r2) (0,r2.2.1,r2.2.2) r3) (r4:Int × Pic × RPic × (Nat → Int) × (Nat → Int)) (l4:LoopR (qlL4 p r rM rN rS nTz dTz sTz nNz dNz sNz nKz dKz sKz nMz dMz sMz sUz pC rC r1 r2 r3) (0,r3.2.1,r1.2.2.1,r3.2.2,rN) r4):FnSpec Try.prog 28 1011 [pt 1000,pt 1001,.agg ⟨[sd 1005 dTz nTz,sd 1006 dNz nNz,sd 1007 dKz nKz,sd 1008 dMz nMz,.bool sUz]⟩] [(1000,(Pic.bl p (sl 1009 (List.length pC) 5) false)),(1001,(RPic.bl r (sl 1002 16384 1) (sl 1003 256 1) (sl 1010 (List.length rC) 4) (sl 1004 61440 1) false)),(1002,iB 16384 rM false),(1003,iB 256 rN false),(1004,iB 61440 rS false),(1009,sB pC false),(1010,mB rC false),(1005,gB dTz nTz sTz),(1006,gB dNz nNz sNz),(1007,gB dKz nKz sKz),(1008,gB dMz nMz sMz)] (.tuple ⟨[]⟩) [(1000,(Pic.bl ((r4.2.1,r4.2.2.1,r4.2.2.2.1,r4.2.2.2.2).1) (sl 1009 (List.length pC) 5) false)),(1001,(RPic.bl ((r4.2.1,r4.2.2.1,r4.2.2.2.1,r4.2.2.2.2).2.1) (sl 1002 16384 1) (sl 1003 256 1) (sl 1010 (List.length rC) 4) (sl 1004 61440 1) false)),(1002,⟨[.ints .u8 16384 ((r4.2.1,r4.2.2.1,r4.2.2.2.1,r4.2.2.2.2).2.2.1)],5,false⟩),(1003,⟨[.ints .u8 256 ((r4.2.1,r4.2.2.1,r4.2.2.2.1,r4.2.2.2.2).2.2.2)],5,false⟩),(1004,iB 61440 rS false),(1009,sB pC false),(1010,mB rC false)]:=by
 exact fn_of_x hG hM Try.func28 (by kernel_rfl) (by kernel_rfl) 400 [.call [(1000,1000),(1009,1001)] [] 1002 (.tuple ⟨[]⟩) [(1000,(Pic.bl (pUpright p pC sUz) (sl 1001 (List.length pC) 5) false)),(1001,sB pC false)],.segk 1 0 [3,4,5,6,21] [1000,1001,1002,1003,1004,1005,1009,1010,1011,1012,1013] .normal (qlL1_T1 p rM rN rS nTz dTz sTz nNz dNz sNz nKz dKz sKz nMz dMz sMz sUz pC rC r1) (qlL1_H1 p rM rN rS nTz dTz sTz nNz dNz sNz nKz dKz sKz nMz dMz sMz sUz pC rC r1) 1014,.segk 1 2 [3,4,5,6,32] [1000,1001,1002,1003,1004,1006,1009,1010,1011,1012,1013] .normal (qlL2_T1 p r rM rN rS nTz dTz sTz nNz dNz sNz nKz dKz sKz nMz dMz sMz sUz pC rC r1 r2) (qlL2_H1 p r rM rN rS nTz dTz sTz nNz dNz sNz nKz dKz sKz nMz dMz sMz sUz pC rC r1 r2) 1014,.segk 1 4 [3,4,5,6,44] [1000,1001,1002,1003,1004,1007,1009,1010,1011,1012,1013] .normal (qlL3_T1 p r rM rN rS nTz dTz sTz nNz dNz sNz nKz dKz sKz nMz dMz sMz sUz pC rC r1 r2 r3) (qlL3_H1 p r rM rN rS nTz dTz sTz nNz dNz sNz nKz dKz sKz nMz dMz sMz sUz pC rC r1 r2 r3) 1014,.segk 1 6 [3,4,5,56] [1000,1001,1002,1003,1004,1008,1009,1010,1011,1012,1013] .normal (qlL4_T1 p r rM rN rS nTz dTz sTz nNz dNz sNz nKz dKz sKz nMz dMz sMz sUz pC rC r1 r2 r3 r4) (qlL4_H1 p r rM rN rS nTz dTz sTz nNz dNz sNz nKz dKz sKz nMz dMz sMz sUz pC rC r1 r2 r3 r4) 1014] (J (pUpright_ok p pC sUz) (J (qlL1_runs p rM rN rS nTz dTz sTz nNz dNz sNz nKz dKz sKz nMz dMz sMz sUz pC rC (0,(pUpright p pC sUz),({ r with Upright:=sUz }:RPic),rM) r1 l1) (J (qlL2_runs p r rM rN rS nTz dTz sTz nNz dNz sNz nKz dKz sKz nMz dMz sMz sUz pC rC r1 (0,r1.2.1,r1.2.2.2) r2 l2) (J (qlL3_runs p r rM rN rS nTz dTz sTz nNz dNz sNz nKz dKz sKz nMz dMz sMz sUz pC rC r1 r2 (0,r2.2.1,r2.2.2) r3 l3) (J (qlL4_runs p r rM rN rS nTz dTz sTz nNz dNz sNz nKz dKz sKz nMz dMz sMz sUz pC rC r1 r2 r3 (0,r3.2.1,r1.2.2.1,r3.2.2,rN) r4 l4) trivial))))) (by kernel_rfl)
end Go.Proofs.Ytgnhhnmpeklciaa
namespace Go.Proofs.Ytgnhhnmpeklciaa
open Go VX
open Go.IntKind (i64 u8 u16)
theorem pPoke_keep (p:Pic) (L:List Sprite) (a b:Int):(pPoke p L a b).line = p.line ∧ (pPoke p L a b).dot = p.dot ∧ (pPoke p L a b).odd = p.odd ∧ (pPoke p L a b).frames = p.frames ∧ (pPoke p L a b).screen = p.screen:=by
 unfold pPoke;repeat' split
 all_goals exact ⟨rfl,rfl,rfl,rfl,rfl⟩
theorem pPut_keep (p:Pic) (L:List Sprite) (reg b:Int):(pPut p L reg b).line = p.line ∧ (pPut p L reg b).dot = p.dot ∧ (pPut p L reg b).odd = p.odd ∧ (pPut p L reg b).frames = p.frames ∧ (pPut p L reg b).screen = p.screen:=by
 unfold pPut;repeat' split
 all_goals first | exact ⟨rfl,rfl,rfl,rfl,rfl⟩ | exact pPoke_keep _ _ _ _
theorem rPut_keep (r:RPic) (M N S:Nat → Int) (C:List Man) (reg b:Int):(rPut r M N S C reg b).1.Line = r.Line ∧ (rPut r M N S C reg b).1.Dot = r.Dot ∧ (rPut r M N S C reg b).1.Begun = r.Begun ∧ (rPut r M N S C reg b).1.Done = r.Done:=by
 unfold rPut;repeat' split
 all_goals exact ⟨rfl,rfl,rfl,rfl⟩
theorem upd_rng {f:Nat → Int} (w:∀ j,rng 256 (f j)) (i:Nat) {v:Int} (wv:rng 256 v):∀ j,rng 256 (upd f i v j):=by
 intro j;unfold upd
 cases Nat.beq j i
 ·exact w j
 ·exact wv
theorem u8_rng (x:Int):rng 256 (u8.wrap x):=rng_wrap_u8 x
theorem rPoke_rng {r:RPic} {M N S:Nat → Int} {C:List Man} (w:∀ j,rng 256 (M j)) (a b:Int):∀ j,rng 256 (rPoke r M N S C a b j):=by
 unfold rPoke;split
 ·exact upd_rng w _ (u8_rng _)
 ·exact upd_rng w _ (u8_rng _)
theorem rPut_rng {r:RPic} {M N S:Nat → Int} {C:List Man} (w:∀ j,rng 256 (M j)) (wN:∀ j,rng 256 (N j)) (reg b:Int):(∀ j,rng 256 ((rPut r M N S C reg b).2.1 j)) ∧ ∀ j,rng 256 ((rPut r M N S C reg b).2.2 j):=by
 unfold rPut;repeat' split
 all_goals first | exact ⟨w,wN⟩ | exact ⟨w,upd_rng wN _ (u8_rng _)⟩ | exact ⟨rPoke_rng w _ _,wN⟩
section
variable {p:Pic} {L:List Sprite} {r:RPic} {M N S:Nat → Int} {C:List Man} (b:Both p L r M N S C)
include b
theorem both_poke (a v:Int) (h0:0 ≤ a) (h1:a < 65536) (wv:rng 256 v):Both (pPoke p L a v) L r (rPoke r M N S C a v) N S C:=by
 obtain ⟨k1,k2,k3,k4,k5⟩:=pPoke_keep p L a v
 exact ⟨poke_same b.same a v h0 h1 wv L S C,rPoke_rng b.wM a v,b.wN,by rw [k1];exact b.line,by rw [k2];exact b.dot,by rw [k1];exact b.lb,by rw [k2];exact b.db,by rw [k3];exact b.odd,by rw [k4];exact b.frames,by rw [k5];exact b.screen,b.chosen,b.sok,b.len⟩
theorem both_put (reg v:Int) (wr:rng 256 reg) (wv:rng 256 v):Both (pPut p L reg v) L (rPut r M N S C reg v).1 (rPut r M N S C reg v).2.1 (rPut r M N S C reg v).2.2 S C:=by
 obtain ⟨k1,k2,k3,k4,k5⟩:=pPut_keep p L reg v
 obtain ⟨q1,q2,q3,q4⟩:=rPut_keep r M N S C reg v
 obtain ⟨w1,w2⟩:=rPut_rng (r:=r) (S:=S) (C:=C) b.wM b.wN reg v
 exact ⟨put_same b.same reg v wr wv L S C,w1,w2,by rw [q1,k1];exact b.line,by rw [q2,k2];exact b.dot,by rw [k1];exact b.lb,by rw [k2];exact b.db,by rw [k3,q3];exact b.odd,by rw [k4,q4];exact b.frames,by rw [k5];exact b.screen,b.chosen,b.sok,b.len⟩
theorem both_up (u:Bool):Both (pUpright p L u) L ({ r with Upright:=u }:RPic) M N S C:=by
 have h:=b.same
 exact ⟨⟨pUpright_w p L u h.ok,h.low,h.tiles,h.names,h.colours,h.men,h.man,h.sc,h.control,h.mask,h.flags,h.waits,h.bus,rfl⟩,b.wM,b.wN,b.line,b.dot,b.lb,b.db,b.odd,b.frames,b.screen,b.chosen,b.sok,b.len⟩
end
end Go.Proofs.Ytgnhhnmpeklciaa
namespace Go.Proofs.Ytgnhhnmpeklciaa
open Go VX
open Go.IntKind (i64 u8 u16)
abbrev Ly:=Pic × RPic × (Nat → Int) × (Nat → Int)
def BothY (L:List Sprite) (S:Nat → Int) (C:List Man) (z:Ly):Prop:=Both z.1 L z.2.1 z.2.2.1 z.2.2.2 S C
def pokeY (L:List Sprite) (S:Nat → Int) (C:List Man) (f:Int → Int) (base:Int) (k:Nat) (z:Ly):Ly:=(pPoke z.1 L (base + k) (f k),z.2.1,rPoke z.2.1 z.2.2.1 z.2.2.2 S C (base + k) (f k),z.2.2.2)
def putY (L:List Sprite) (S:Nat → Int) (C:List Man) (f:Int → Int) (k:Nat) (z:Ly):Ly:=
 (pPut z.1 L 4 (f k),(rPut z.2.1 z.2.2.1 z.2.2.2 S C 4 (f k)).1,(rPut z.2.1 z.2.2.1 z.2.2.2 S C 4 (f k)).2.1,(rPut z.2.1 z.2.2.1 z.2.2.2 S C 4 (f k)).2.2)
def upto (g:Nat → Ly → Ly):Nat → Nat → Ly → Ly
 | 0,_,z => z
 | n + 1,k,z => upto g n (k + 1) (g k z)
theorem upto_both {L:List Sprite} {S:Nat → Int} {C:List Man} {g:Nat → Ly → Ly} {top:Nat} (h:∀ k z,k < top → BothY L S C z → BothY L S C (g k z)):∀ (n k:Nat) (z:Ly),n + k ≤ top → BothY L S C z → BothY L S C (upto g n k z)
 | 0,_,_,_,b => b
 | n + 1,k,z,hk,b => upto_both h n (k + 1) _ (by omega) (h k z (by omega) b)
theorem again_rng {N d:Nat} {f:Nat → Int} (w:∀ j,rng 256 (f j)) (i:Int):rng 256 (againF N d f i):=by
 unfold againF;split
 ·exact ⟨by decide,by decide⟩
 ·exact w _
theorem poke_both {L:List Sprite} {S:Nat → Int} {C:List Man} {f:Int → Int} (w:∀ i,rng 256 (f i)) {base:Int} (h0:0 ≤ base) {top:Nat} (h1:base + top < 65536) (k:Nat) (z:Ly) (hk:k < top) (b:BothY L S C z):BothY L S C (pokeY L S C f base k z):=
 both_poke b _ _ (by omega) (by omega) (w _)
theorem put_both {L:List Sprite} {S:Nat → Int} {C:List Man} {f:Int → Int} (w:∀ i,rng 256 (f i)) (k:Nat) (z:Ly) (b:BothY L S C z):BothY L S C (putY L S C f k z):=
 both_put b 4 _ ⟨by decide,by decide⟩ (w _)
theorem put_eq_poke {a b:Int} (h0:0 ≤ a) (h1:a < 65536) (w:rng 256 b) (p:Pic) (r:RPic) (M N S:Nat → Int) (L:List Sprite) (C:List Man):putF a b p r M N S L C = (pPoke p L a b,rPoke r M N S C a b):=by
 unfold putF;rw [u16w h0 h1,rw256 w]
section
variable (p:Pic) (r:RPic) (rM:Nat → Int) (rN:Nat → Int) (rS:Nat → Int) (nTz:Nat) (dTz:Nat) (sTz:Nat → Int) (nNz:Nat) (dNz:Nat) (sNz:Nat → Int) (nKz:Nat) (dKz:Nat) (sKz:Nat → Int) (nMz:Nat) (dMz:Nat) (sMz:Nat → Int) (sUz:Bool) (pC:List Sprite) (rC:List Man) (wTz:∀ j,rng 256 (sTz j)) (wNz:∀ j,rng 256 (sNz j)) (wKz:∀ j,rng 256 (sKz j)) (wMz:∀ j,rng 256 (sMz j))
def layT (sTz:Int → Int) (sNz:Int → Int) (sKz:Int → Int) (sMz:Int → Int) (S:Nat → Int) (L:List Sprite) (C:List Man) (z:Ly):Ly:=
 upto (putY L S C sMz) 256 0 (upto (pokeY L S C sKz 16128) 32 0 (upto (pokeY L S C sNz 8192) 4096 0 (upto (pokeY L S C sTz 0) 8192 0 z)))
def layF (p:Pic) (r:RPic) (rM:Nat → Int) (rN:Nat → Int) (rS:Nat → Int) (nTz:Nat) (dTz:Nat) (sTz:Nat → Int) (nNz:Nat) (dNz:Nat) (sNz:Nat → Int) (nKz:Nat) (dKz:Nat) (sKz:Nat → Int) (nMz:Nat) (dMz:Nat) (sMz:Nat → Int) (sUz:Bool) (pC:List Sprite) (rC:List Man):Ly:=layT (againF nTz dTz sTz) (againF nNz dNz sNz) (againF nKz dKz sKz) (againF nMz dMz sMz) rS pC rC (pUpright p pC sUz,{ r with Upright:=sUz },rM,rN)
theorem pokeY_keep (L:List Sprite) (S:Nat → Int) (C:List Man) (f:Int → Int) (base:Int):∀ (n k:Nat) (z:Ly),(upto (pokeY L S C f base) n k z).2.1 = z.2.1 ∧ (upto (pokeY L S C f base) n k z).2.2.2 = z.2.2.2
 | 0,_,_ => ⟨rfl,rfl⟩
 | n + 1,k,z => by
  have:=pokeY_keep L S C f base n (k + 1) (pokeY L S C f base k z)
  exact this
include wTz in
theorem lay_l1:∀ (n k:Nat) (z:Ly),n + k = 8192 → z.2.2.2 = rN → LoopR (qlL1 p rM rN rS nTz dTz sTz nNz dNz sNz nKz dKz sKz nMz dMz sMz sUz pC rC) ((k:Int),z.1,z.2.1,z.2.2.1) (8192,(upto (pokeY pC rS rC (againF nTz dTz sTz) 0) n k z).1,(upto (pokeY pC rS rC (againF nTz dTz sTz) 0) n k z).2.1,(upto (pokeY pC rS rC (againF nTz dTz sTz) 0) n k z).2.2.1)
 | 0,k,z,hk,hN => by
  have:k = 8192:=by omega
  subst this
  exact .last (.p2 (decide_eq_false (by simp)))
 | n + 1,k,z,hk,hN => by
  have st:=qlL1.p1 (p:=p) (rM:=rM) (rN:=rN) (rS:=rS) (nTz:=nTz) (dTz:=dTz) (sTz:=sTz) (nNz:=nNz) (dNz:=dNz) (sNz:=sNz) (nKz:=nKz) (dKz:=dKz) (sKz:=sKz) (nMz:=nMz) (dMz:=dMz) (sMz:=sMz) (sUz:=sUz) (pC:=pC) (rC:=rC) (xd:=((k:Int),z.1,z.2.1,z.2.2.1)) (decide_eq_true (by show (k:Int) < 8192;omega)) wTz (by show 0 ≤ (k:Int);omega)
  have hw:i64.wrap ((k:Int) + 1) = ((k + 1:Nat):Int):=by rw [w64 (by omega) (by omega)];omega
  have ep:=put_eq_poke (a:=(k:Int)) (b:=againF nTz dTz sTz k) (by omega) (by omega) (again_rng wTz _) z.1 z.2.1 z.2.2.1 rN rS pC rC
  simp only [hw,ep] at st
  have ih:=lay_l1 n (k + 1) (pokeY pC rS rC (againF nTz dTz sTz) 0 k z) (by omega) hN
  refine .more st ?_
  have e0:(0:Int) + (k:Int) = k:=by omega
  simp only [upto]
  unfold pokeY at ih ⊢
  rw [e0,hN] at ih ⊢
  exact ih
include wNz in
theorem lay_l2 (r1:Int × Pic × RPic × (Nat → Int)):∀ (n k:Nat) (z:Ly),n + k = 4096 → z.2.2.2 = rN → z.2.1 = r1.2.2.1 → LoopR (qlL2 p r rM rN rS nTz dTz sTz nNz dNz sNz nKz dKz sKz nMz dMz sMz sUz pC rC r1) ((k:Int),z.1,z.2.2.1) (4096,(upto (pokeY pC rS rC (againF nNz dNz sNz) 8192) n k z).1,(upto (pokeY pC rS rC (againF nNz dNz sNz) 8192) n k z).2.2.1)
 | 0,k,z,hk,hN,hR => by
  have:k = 4096:=by omega
  subst this
  exact .last (.p2 (decide_eq_false (by simp)))
 | n + 1,k,z,hk,hN,hR => by
  have hb:i64.wrap (8192 + (k:Int)) = 8192 + (k:Int):=w64 (by omega) (by omega)
  have st:=qlL2.p1 (p:=p) (r:=r) (rM:=rM) (rN:=rN) (rS:=rS) (nTz:=nTz) (dTz:=dTz) (sTz:=sTz) (nNz:=nNz) (dNz:=dNz) (sNz:=sNz) (nKz:=nKz) (dKz:=dKz) (sKz:=sKz) (nMz:=nMz) (dMz:=dMz) (sMz:=sMz) (sUz:=sUz) (pC:=pC) (rC:=rC) (r1:=r1) (xd:=((k:Int),z.1,z.2.2.1)) (decide_eq_true (by show (k:Int) < 4096;omega)) wNz (by show 0 ≤ (k:Int);omega) (by show 0 ≤ i64.wrap (8192 + (k:Int));rw [hb];omega)
  have hw:i64.wrap ((k:Int) + 1) = ((k + 1:Nat):Int):=by rw [w64 (by omega) (by omega)];omega
  have ep:=put_eq_poke (a:=8192 + (k:Int)) (b:=againF nNz dNz sNz k) (by omega) (by omega) (again_rng wNz _) z.1 r1.2.2.1 z.2.2.1 rN rS pC rC
  simp only [hw,hb,ep] at st
  have ih:=lay_l2 r1 n (k + 1) (pokeY pC rS rC (againF nNz dNz sNz) 8192 k z) (by omega) hN hR
  refine .more st ?_
  simp only [upto]
  unfold pokeY at ih ⊢
  rw [hN,hR] at ih ⊢
  exact ih
include wKz in
theorem lay_l3 (r1:Int × Pic × RPic × (Nat → Int)) (r2:Int × Pic × (Nat → Int)):∀ (n k:Nat) (z:Ly),n + k = 32 → z.2.2.2 = rN → z.2.1 = r1.2.2.1 → LoopR (qlL3 p r rM rN rS nTz dTz sTz nNz dNz sNz nKz dKz sKz nMz dMz sMz sUz pC rC r1 r2) ((k:Int),z.1,z.2.2.1) (32,(upto (pokeY pC rS rC (againF nKz dKz sKz) 16128) n k z).1,(upto (pokeY pC rS rC (againF nKz dKz sKz) 16128) n k z).2.2.1)
 | 0,k,z,hk,hN,hR => by
  have:k = 32:=by omega
  subst this
  exact .last (.p2 (decide_eq_false (by simp)))
 | n + 1,k,z,hk,hN,hR => by
  have hb:i64.wrap (16128 + (k:Int)) = 16128 + (k:Int):=w64 (by omega) (by omega)
  have st:=qlL3.p1 (p:=p) (r:=r) (rM:=rM) (rN:=rN) (rS:=rS) (nTz:=nTz) (dTz:=dTz) (sTz:=sTz) (nNz:=nNz) (dNz:=dNz) (sNz:=sNz) (nKz:=nKz) (dKz:=dKz) (sKz:=sKz) (nMz:=nMz) (dMz:=dMz) (sMz:=sMz) (sUz:=sUz) (pC:=pC) (rC:=rC) (r1:=r1) (r2:=r2) (xd:=((k:Int),z.1,z.2.2.1)) (decide_eq_true (by show (k:Int) < 32;omega)) wKz (by show 0 ≤ (k:Int);omega) (by show 0 ≤ i64.wrap (16128 + (k:Int));rw [hb];omega)
  have hw:i64.wrap ((k:Int) + 1) = ((k + 1:Nat):Int):=by rw [w64 (by omega) (by omega)];omega
  have ep:=put_eq_poke (a:=16128 + (k:Int)) (b:=againF nKz dKz sKz k) (by omega) (by omega) (again_rng wKz _) z.1 r1.2.2.1 z.2.2.1 rN rS pC rC
  simp only [hw,hb,ep] at st
  have ih:=lay_l3 r1 r2 n (k + 1) (pokeY pC rS rC (againF nKz dKz sKz) 16128 k z) (by omega) hN hR
  refine .more st ?_
  simp only [upto]
  unfold pokeY at ih ⊢
  rw [hN,hR] at ih ⊢
  exact ih
include wMz in
theorem lay_l4 (r1:Int × Pic × RPic × (Nat → Int)) (r2:Int × Pic × (Nat → Int)) (r3:Int × Pic × (Nat → Int)):∀ (n k:Nat) (z:Ly),n + k = 256 → BothY pC rS rC z → LoopR (qlL4 p r rM rN rS nTz dTz sTz nNz dNz sNz nKz dKz sKz nMz dMz sMz sUz pC rC r1 r2 r3) ((k:Int),z.1,z.2.1,z.2.2.1,z.2.2.2) (256,(upto (putY pC rS rC (againF nMz dMz sMz)) n k z).1,(upto (putY pC rS rC (againF nMz dMz sMz)) n k z).2.1,(upto (putY pC rS rC (againF nMz dMz sMz)) n k z).2.2.1,(upto (putY pC rS rC (againF nMz dMz sMz)) n k z).2.2.2)
 | 0,k,z,hk,b => by
  have:k = 256:=by omega
  subst this
  exact .last (.p2 (decide_eq_false (by simp)))
 | n + 1,k,z,hk,b => by
  have hm:0 ≤ z.2.1.At ∧ z.2.1.At < ((256:Nat):Int):=by rw [b.same.man];exact ⟨b.same.ok.man.1,b.same.ok.man.2⟩
  have hv:0 ≤ rBits z.2.1.S.V:=by rw [bits_same b.same];exact b.same.sc.good.v0
  have st:=qlL4.p1 (p:=p) (r:=r) (rM:=rM) (rN:=rN) (rS:=rS) (nTz:=nTz) (dTz:=dTz) (sTz:=sTz) (nNz:=nNz) (dNz:=dNz) (sNz:=sNz) (nKz:=nKz) (dKz:=dKz) (sKz:=sKz) (nMz:=nMz) (dMz:=dMz) (sMz:=sMz) (sUz:=sUz) (pC:=pC) (rC:=rC) (r1:=r1) (r2:=r2) (r3:=r3) (xd:=((k:Int),z.1,z.2.1,z.2.2.1,z.2.2.2)) (decide_eq_true (by show (k:Int) < 256;omega)) wMz (by show 0 ≤ (k:Int);omega) b.same.ok hm hv
  have hw:i64.wrap ((k:Int) + 1) = ((k + 1:Nat):Int):=by rw [w64 (by omega) (by omega)];omega
  simp only [hw,rw256 (again_rng (N:=nMz) (d:=dMz) wMz _)] at st
  exact .more st (lay_l4 r1 r2 r3 n (k + 1) (putY pC rS rC (againF nMz dMz sMz) k z) (by omega) (put_both (again_rng wMz) k z b))
include wTz wNz wKz wMz in
theorem lay_both (b:Both p pC r rM rN rS rC):BothY pC rS rC (upto (pokeY pC rS rC (againF nKz dKz sKz) 16128) 32 0 (upto (pokeY pC rS rC (againF nNz dNz sNz) 8192) 4096 0 (upto (pokeY pC rS rC (againF nTz dTz sTz) 0) 8192 0 (pUpright p pC sUz,{ r with Upright:=sUz },rM,rN)))) ∧ BothY pC rS rC (layF p r rM rN rS nTz dTz sTz nNz dNz sNz nKz dKz sKz nMz dMz sMz sUz pC rC):=by
 have b0:BothY pC rS rC (pUpright p pC sUz,{ r with Upright:=sUz },rM,rN):=both_up b sUz
 have b1:=upto_both (top:=8192) (fun k z hk => poke_both (again_rng (N:=nTz) (d:=dTz) wTz) (base:=0) (by decide) (top:=8192) (by decide) k z hk) 8192 0 _ (by decide) b0
 have b2:=upto_both (top:=4096) (fun k z hk => poke_both (again_rng (N:=nNz) (d:=dNz) wNz) (base:=8192) (by decide) (top:=4096) (by decide) k z hk) 4096 0 _ (by decide) b1
 have b3:=upto_both (top:=32) (fun k z hk => poke_both (again_rng (N:=nKz) (d:=dKz) wKz) (base:=16128) (by decide) (top:=32) (by decide) k z hk) 32 0 _ (by decide) b2
 exact ⟨b3,upto_both (top:=256) (fun k z _ => put_both (again_rng (N:=nMz) (d:=dMz) wMz) k z) 256 0 _ (by decide) b3⟩
end
theorem lay_fin (p:Pic) (r:RPic) (rM:Nat → Int) (rN:Nat → Int) (rS:Nat → Int) (nTz:Nat) (dTz:Nat) (sTz:Nat → Int) (nNz:Nat) (dNz:Nat) (sNz:Nat → Int) (nKz:Nat) (dKz:Nat) (sKz:Nat → Int) (nMz:Nat) (dMz:Nat) (sMz:Nat → Int) (sUz:Bool) (pC:List Sprite) (rC:List Man) (z1 z2 z3 z4:Ly)
  (l1:LoopR (qlL1 p rM rN rS nTz dTz sTz nNz dNz sNz nKz dKz sKz nMz dMz sMz sUz pC rC) (0,pUpright p pC sUz,({ r with Upright:=sUz }:RPic),rM) (8192,z1.1,z1.2.1,z1.2.2.1))
  (l2:LoopR (qlL2 p r rM rN rS nTz dTz sTz nNz dNz sNz nKz dKz sKz nMz dMz sMz sUz pC rC (8192,z1.1,z1.2.1,z1.2.2.1)) (0,z1.1,z1.2.2.1) (4096,z2.1,z2.2.2.1))
  (l3:LoopR (qlL3 p r rM rN rS nTz dTz sTz nNz dNz sNz nKz dKz sKz nMz dMz sMz sUz pC rC (8192,z1.1,z1.2.1,z1.2.2.1) (4096,z2.1,z2.2.2.1)) (0,z2.1,z2.2.2.1) (32,z3.1,z3.2.2.1))
  (l4:LoopR (qlL4 p r rM rN rS nTz dTz sTz nNz dNz sNz nKz dKz sKz nMz dMz sMz sUz pC rC (8192,z1.1,z1.2.1,z1.2.2.1) (4096,z2.1,z2.2.2.1) (32,z3.1,z3.2.2.1)) (0,z3.1,z1.2.1,z3.2.2.1,rN) (256,z4.1,z4.2.1,z4.2.2.1,z4.2.2.2)):FnSpec Try.prog 28 1011 [pt 1000,pt 1001,.agg ⟨[sd 1005 dTz nTz,sd 1006 dNz nNz,sd 1007 dKz nKz,sd 1008 dMz nMz,.bool sUz]⟩] [(1000,(Pic.bl p (sl 1009 (List.length pC) 5) false)),(1001,(RPic.bl r (sl 1002 16384 1) (sl 1003 256 1) (sl 1010 (List.length rC) 4) (sl 1004 61440 1) false)),(1002,iB 16384 rM false),(1003,iB 256 rN false),(1004,iB 61440 rS false),(1009,sB pC false),(1010,mB rC false),(1005,gB dTz nTz sTz),(1006,gB dNz nNz sNz),(1007,gB dKz nKz sKz),(1008,gB dMz nMz sMz)] (.tuple ⟨[]⟩) [(1000,(Pic.bl (z4.1) (sl 1009 (List.length pC) 5) false)),(1001,(RPic.bl (z4.2.1) (sl 1002 16384 1) (sl 1003 256 1) (sl 1010 (List.length rC) 4) (sl 1004 61440 1) false)),(1002,iB 16384 (z4.2.2.1) false),(1003,iB 256 (z4.2.2.2) false),(1004,iB 61440 rS false),(1009,sB pC false),(1010,mB rC false)]:=
 wLay_p1 p r rM rN rS nTz dTz sTz nNz dNz sNz nKz dKz sKz nMz dMz sMz sUz pC rC _ l1 _ l2 _ l3 _ l4
theorem lay_mid (p:Pic) (r:RPic) (rM:Nat → Int) (rN:Nat → Int) (rS:Nat → Int) (nTz:Nat) (dTz:Nat) (sTz:Nat → Int) (nNz:Nat) (dNz:Nat) (sNz:Nat → Int) (nKz:Nat) (dKz:Nat) (sKz:Nat → Int) (nMz:Nat) (dMz:Nat) (sMz:Nat → Int) (sUz:Bool) (pC:List Sprite) (rC:List Man) (wTz:∀ j,rng 256 (sTz j)) (wNz:∀ j,rng 256 (sNz j)) (wKz:∀ j,rng 256 (sKz j)) (wMz:∀ j,rng 256 (sMz j)) (b:Both p pC r rM rN rS rC) (z1 z2 z3 z4:Ly) (h1:upto (pokeY pC rS rC (againF nTz dTz sTz) 0) 8192 0 (pUpright p pC sUz,{ r with Upright:=sUz },rM,rN) = z1)
  (h2:upto (pokeY pC rS rC (againF nNz dNz sNz) 8192) 4096 0 z1 = z2) (h3:upto (pokeY pC rS rC (againF nKz dKz sKz) 16128) 32 0 z2 = z3)
  (h4:upto (putY pC rS rC (againF nMz dMz sMz)) 256 0 z3 = z4):FnSpec Try.prog 28 1011 [pt 1000,pt 1001,.agg ⟨[sd 1005 dTz nTz,sd 1006 dNz nNz,sd 1007 dKz nKz,sd 1008 dMz nMz,.bool sUz]⟩] [(1000,(Pic.bl p (sl 1009 (List.length pC) 5) false)),(1001,(RPic.bl r (sl 1002 16384 1) (sl 1003 256 1) (sl 1010 (List.length rC) 4) (sl 1004 61440 1) false)),(1002,iB 16384 rM false),(1003,iB 256 rN false),(1004,iB 61440 rS false),(1009,sB pC false),(1010,mB rC false),(1005,gB dTz nTz sTz),(1006,gB dNz nNz sNz),(1007,gB dKz nKz sKz),(1008,gB dMz nMz sMz)] (.tuple ⟨[]⟩) [(1000,(Pic.bl (z4.1) (sl 1009 (List.length pC) 5) false)),(1001,(RPic.bl (z4.2.1) (sl 1002 16384 1) (sl 1003 256 1) (sl 1010 (List.length rC) 4) (sl 1004 61440 1) false)),(1002,iB 16384 (z4.2.2.1) false),(1003,iB 256 (z4.2.2.2) false),(1004,iB 61440 rS false),(1009,sB pC false),(1010,mB rC false)]:=by
 have l1:=lay_l1 p rM rN rS nTz dTz sTz nNz dNz sNz nKz dKz sKz nMz dMz sMz sUz pC rC wTz 8192 0 (pUpright p pC sUz,{ r with Upright:=sUz },rM,rN) rfl rfl
 have b3:=(lay_both p r rM rN rS nTz dTz sTz nNz dNz sNz nKz dKz sKz nMz dMz sMz sUz pC rC wTz wNz wKz wMz b).1
 have k0:=pokeY_keep pC rS rC (againF nTz dTz sTz) 0 8192 0 (pUpright p pC sUz,{ r with Upright:=sUz },rM,rN)
 rw [h1] at l1 k0
 rw [h1,h2,h3] at b3
 have k1:=pokeY_keep pC rS rC (againF nNz dNz sNz) 8192 4096 0 z1
 have l2:=lay_l2 p r rM rN rS nTz dTz sTz nNz dNz sNz nKz dKz sKz nMz dMz sMz sUz pC rC wNz (8192,z1.1,z1.2.1,z1.2.2.1) 4096 0 z1 rfl k0.2 rfl
 rw [h2] at l2 k1
 have k2:=pokeY_keep pC rS rC (againF nKz dKz sKz) 16128 32 0 z2
 have l3:=lay_l3 p r rM rN rS nTz dTz sTz nNz dNz sNz nKz dKz sKz nMz dMz sMz sUz pC rC wKz (8192,z1.1,z1.2.1,z1.2.2.1) (4096,z2.1,z2.2.2.1) 32 0 z2 rfl (k1.2.trans k0.2) k1.1
 rw [h3] at l3 k2
 have l4:=lay_l4 p r rM rN rS nTz dTz sTz nNz dNz sNz nKz dKz sKz nMz dMz sMz sUz pC rC wMz (8192,z1.1,z1.2.1,z1.2.2.1) (4096,z2.1,z2.2.2.1) (32,z3.1,z3.2.2.1) 256 0 z3 rfl b3
 rw [h4] at l4
 have e1:z3.2.1 = z1.2.1:=k2.1.trans k1.1
 have e2:z3.2.2.2 = rN:=k2.2.trans (k1.2.trans k0.2)
 rw [e1,e2] at l4
 exact lay_fin p r rM rN rS nTz dTz sTz nNz dNz sNz nKz dKz sKz nMz dMz sMz sUz pC rC z1 z2 z3 z4 l1 l2 l3 l4
theorem layF_ok (p:Pic) (r:RPic) (rM:Nat → Int) (rN:Nat → Int) (rS:Nat → Int) (nTz:Nat) (dTz:Nat) (sTz:Nat → Int) (nNz:Nat) (dNz:Nat) (sNz:Nat → Int) (nKz:Nat) (dKz:Nat) (sKz:Nat → Int) (nMz:Nat) (dMz:Nat) (sMz:Nat → Int) (sUz:Bool) (pC:List Sprite) (rC:List Man) (wTz:∀ j,rng 256 (sTz j)) (wNz:∀ j,rng 256 (sNz j)) (wKz:∀ j,rng 256 (sKz j)) (wMz:∀ j,rng 256 (sMz j)) (b:Both p pC r rM rN rS rC):FnSpec Try.prog 28 1011 [pt 1000,pt 1001,.agg ⟨[sd 1005 dTz nTz,sd 1006 dNz nNz,sd 1007 dKz nKz,sd 1008 dMz nMz,.bool sUz]⟩] [(1000,(Pic.bl p (sl 1009 (List.length pC) 5) false)),(1001,(RPic.bl r (sl 1002 16384 1) (sl 1003 256 1) (sl 1010 (List.length rC) 4) (sl 1004 61440 1) false)),(1002,iB 16384 rM false),(1003,iB 256 rN false),(1004,iB 61440 rS false),(1009,sB pC false),(1010,mB rC false),(1005,gB dTz nTz sTz),(1006,gB dNz nNz sNz),(1007,gB dKz nKz sKz),(1008,gB dMz nMz sMz)] (.tuple ⟨[]⟩) [(1000,(Pic.bl ((layF p r rM rN rS nTz dTz sTz nNz dNz sNz nKz dKz sKz nMz dMz sMz sUz pC rC).1) (sl 1009 (List.length pC) 5) false)),(1001,(RPic.bl ((layF p r rM rN rS nTz dTz sTz nNz dNz sNz nKz dKz sKz nMz dMz sMz sUz pC rC).2.1) (sl 1002 16384 1) (sl 1003 256 1) (sl 1010 (List.length rC) 4) (sl 1004 61440 1) false)),(1002,⟨[.ints .u8 16384 ((layF p r rM rN rS nTz dTz sTz nNz dNz sNz nKz dKz sKz nMz dMz sMz sUz pC rC).2.2.1)],5,false⟩),(1003,⟨[.ints .u8 256 ((layF p r rM rN rS nTz dTz sTz nNz dNz sNz nKz dKz sKz nMz dMz sMz sUz pC rC).2.2.2)],5,false⟩),(1004,iB 61440 rS false),(1009,sB pC false),(1010,mB rC false)]:=lay_mid p r rM rN rS nTz dTz sTz nNz dNz sNz nKz dKz sKz nMz dMz sMz sUz pC rC wTz wNz wKz wMz b _ _ _ _ rfl rfl rfl rfl
end Go.Proofs.Ytgnhhnmpeklciaa
