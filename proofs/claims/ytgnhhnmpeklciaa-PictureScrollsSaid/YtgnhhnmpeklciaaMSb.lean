/-
  Texts laid together: VQ, VQw, VH, VI, VJ, VK, VL, VP, VLm, VLl, VM. No condition.
-/
import Derived.ChangeSame
import Derived.Deep.AppendSrc
import Derived.HandedShaped
import Derived.Lib.SmallJoins
import Derived.LoopN
import Derived.ProofKit
import Derived.WideKeyArgs
import Derived.Test.YtgnhhnmpeklciaaMSa
set_option linter.unusedVariables false
set_option linter.unusedSimpArgs false
set_option linter.unusedSectionVars false
set_option maxRecDepth 100000
set_option maxHeartbeats 4000000
namespace Go.Proofs.Ytgnhhnmpeklciaa.VX
open Go
theorem OpSpec.quiet {P:Program} {o:Oper} {ρ:Operand → Value} {h:HF} {out:Out} (he:out.eff = []) (hn:out.new = [])
  (hv:∀ (μ:Mu) (a:Act) (w:World),Gl P μ → (∀ x ∈ o.op.operands,VRel μ (ρ x) (a.eval x)) → Rep μ h w → ∃ rv,(execOp a.eval o).run P w = .ok (.value rv) w ∧ VRel μ out.v rv) :
  OpSpec P o ρ h out:=by
 intro μ a w hg hx hr hnn K Q hk
 obtain ⟨rv,hrun,hvr⟩:=hv μ a w hg hx hr
 rw [he,hn] at hk
 exact wp_of_value hrun (hk μ w rv ⟨fun _ _ h => h,fun _ _ _ => rfl,fun _ _ h => h⟩ (fun _ _ => rfl) hr hvr (Keeps.refl _ _ _))
theorem all_drop {l:List Value} (n:Nat) (h:l.all solid = true):(l.drop n).all solid = true:=by
 rw [List.all_eq_true] at h ⊢
 exact fun x hx => h x (List.mem_of_mem_drop hx)
theorem all_take {l:List Value} (n:Nat) (h:l.all solid = true):(l.take n).all solid = true:=by
 rw [List.all_eq_true] at h ⊢
 exact fun x hx => h x (List.mem_of_mem_take hx)
theorem VRel.fptr_inv {μ : Mu} {l : List Value} {r : Value} (h : VRel μ (.func (.method "") ⟨l⟩ ⟨[]⟩) r) : ∃ b off cs, r = .pointer (some ⟨b, off, none⟩) ∧ l.all solid = true ∧ μ.fz b = some cs ∧ ∀ j v, l[j]? = some v → cs[off + j]? = some v := by
 cases h with
 | fptr l hs hf k => exact ⟨_,_,_,rfl,hs,hf,k⟩
theorem VRel.lst_inv {μ:Mu} {z:Nat} {l:List Value} {f:Bool} {r:Value} (h:VRel μ (.func (.yield z) ⟨l⟩ ⟨[.bool f]⟩) r) (hf:f = true):l.all solid = true ∧ Lst μ z l r:=by
 cases h with
 | lst z l f hs hr k => exact ⟨hs,k hf⟩
theorem VRel.lst_true {μ:Mu} {z:Nat} {l:List Value} {r:Value} (hs:l.all solid = true) (k:Lst μ z l r):VRel μ (.func (.yield z) ⟨l⟩ ⟨[.bool true]⟩) r:=by
 refine .lst z l true hs ?_ fun _ => k
 rcases k with ⟨_,rfl⟩ | ⟨_,_,a,rfl⟩ | ⟨_,b,off,len,cap,cs,rfl,_⟩
 ·exact ⟨_,_,_,rfl⟩
 ·exact ⟨_,_,_,rfl⟩
 ·exact ⟨_,_,_,rfl⟩
theorem xrow_ok {P:Program} {H h:HF} {t:TypeId} {j k:Nat} {p v:Value} {i:Nat} {ob:List Prop} (hx:xrow P H t j k p = some (v,i,ob)) (hob:∀ q ∈ ob,q) (hH:h i = H i)
  {μ:Mu} {w:World} (r:Rep μ h w) {rp:Value} (hp:VRel μ p rp):∃ rv,(Instr.loadAt t rp).run P w = .ok rv w ∧ VRel μ v rv:=by
 unfold xrow at hx
 split at hx
 ·rename_i i' off s
  split at hx
  ·rename_i B hB
   split at hx
   ·rename_i n sz g hsg
    have hgp0:ob = gapOb B.segs s ++ [off = j * sz + k,j < n] → ∀ q ∈ gapOb B.segs s,q:=fun e q hq => hob q (by rw [e];exact List.mem_append_left _ hq)
    have main:∀ (hgp:∀ q ∈ gapOb B.segs s,q) (hi:i = i') (hoff:off = j * sz + k) (hj:j < n) (m:Nat),k + m ≤ sz → (g j).length = sz → ∃ b o,rp = .pointer (some ⟨b,o,none⟩) ∧ ∃ rs,VRels μ (((g j).drop k).take m) rs ∧ rs.length = m ∧ ∀ q x,rs[q]? = some x → w.cell? ⟨b,o + q,none⟩ = some x:=by
     intro hgp hi hoff hj m hm hlen
     subst hi
     rw [← hH] at hB
     obtain ⟨b,hb,cs,ty,fr,he,_,hcs⟩:=r.blk i B hB (.inr hp.ptr_ne)
     cases hp with
     | ptrS hb' _ _ =>
      rw [hb] at hb'
      obtain rfl:b = _:=by simpa using hb'
      refine ⟨b,s + off,rfl,?_⟩
      have get:∀ q v,q < m → ((g j).drop k)[q]? = some v → ∃ x,cs[s + off + q]? = some x ∧ VRel μ v x:=by
       intro q v hq hv
       have hv':(g j)[k + q]? = some v:=by simpa using hv
       have hpos:0 < sz:=by omega
       have hget:(Seg.rows n sz g).get? (off + q) = some v:=by
        have h1:off + q < n * sz:=by
         have:(j + 1) * sz ≤ n * sz:=Nat.mul_le_mul_right _ hj
         rw [Nat.add_mul] at this;omega
        have h2:(off + q) / sz = j:=by
         rw [hoff,Nat.add_assoc,Nat.mul_comm,Nat.mul_add_div hpos,Nat.div_eq_of_lt (by omega),Nat.add_zero]
        have h3:(off + q) % sz = k + q:=by
         rw [hoff,Nat.add_assoc,Nat.mul_comm,Nat.mul_add_mod,Nat.mod_eq_of_lt (by omega)]
        simp only [Seg.get?]
        rw [show Nat.blt (off + q) (n * sz) = true from Nat.ble_eq_true_of_le h1,h2,h3]
        exact hv'
       have:=segAtG_get hsg hgp (off + q) v hget
       rw [← Nat.add_assoc] at this
       exact hcs _ v this
      have build:∀ (l:List Value) (base:Nat),(∀ q v,l[q]? = some v → ∃ x,cs[base + q]? = some x ∧ VRel μ v x) → ∃ rs,VRels μ l rs ∧ rs.length = l.length ∧ ∀ q x,rs[q]? = some x → cs[base + q]? = some x:=by
       intro l
       induction l with
       | nil => intro base _;exact ⟨[],.nil,rfl,by simp⟩
       | cons a l ih =>
        intro base hl
        obtain ⟨x,hx1,hx2⟩:=hl 0 a (by simp)
        obtain ⟨rs,h1,h2,h3⟩:=ih (base + 1) (fun q v hq => by
         obtain ⟨y,hy1,hy2⟩:=hl (q + 1) v (by simpa using hq)
         exact ⟨y,by rw [show base + 1 + q = base + (q + 1) by omega];exact hy1,hy2⟩)
        refine ⟨x :: rs,.cons hx2 h1,by simp [h2],fun q y hq => ?_⟩
        cases q with
        | zero => simp at hq;subst hq;simpa using hx1
        | succ q => have:=h3 q y (by simpa using hq);rw [show base + (q + 1) = base + 1 + q by omega];exact this
      obtain ⟨rs,h1,h2,h3⟩:=build (((g j).drop k).take m) (s + off) (fun q v hq => by
       rw [List.getElem?_take] at hq
       split at hq
       ·rename_i hlt;exact get q v hlt hq
       ·cases hq)
      refine ⟨rs,h1,by rw [h2];simp;omega,fun q x hq => cell_of he (h3 q x hq)⟩
    split at hx
    ·rename_i m ha hs
     cases hc:(Nat.beq ((g j).drop k).length (sz - k) && Nat.ble (k + m) sz && Nat.beq (g j).length sz) <;> rw [hc] at hx
     ·simp at hx
     ·simp only [cond_true,Option.some.injEq,Prod.mk.injEq] at hx
      obtain ⟨rfl,rfl,rfl⟩:=hx
      simp only [Bool.and_eq_true] at hc
      obtain ⟨b,o,rfl,rs,h1,h2,h3⟩:=main (hgp0 rfl) rfl (hob _ (by simp)) (hob _ (by simp)) m (ble_tt hc.1.2) (beq_tt hc.2)
      exact ⟨.agg ⟨rs⟩,loadAt_run_agg ha hs h2 h3,.agg h1⟩
    ·rename_i ha
     cases hc:Nat.blt k sz <;> rw [hc] at hx
     ·simp at hx
     ·simp only [cond_true] at hx
      cases hg:(g j)[k]? with
      | none => simp [hg] at hx
      | some u =>
       simp only [hg,Option.map_some,Option.some.injEq,Prod.mk.injEq] at hx
       obtain ⟨rfl,rfl,rfl⟩:=hx
       have hk:=blt_tt hc
       rw [← hH] at hB
       have hoff:off = j * sz + k:=hob _ (by simp)
       have hj:j < n:=hob _ (by simp)
       have hgp:=hgp0 rfl
       obtain ⟨b,hb,cs,ty,fr,he,_,hcs⟩:=r.blk i' B hB (.inr hp.ptr_ne)
       cases hp with
       | ptrS hb' _ _ =>
        rw [hb] at hb'
        obtain rfl:b = _:=by simpa using hb'
        have hpos:0 < sz:=by omega
        have hget:(Seg.rows n sz g).get? off = some u:=by
         have h1:off < n * sz:=by
          have:(j + 1) * sz ≤ n * sz:=Nat.mul_le_mul_right _ hj
          rw [Nat.add_mul] at this;omega
         have h2:off / sz = j:=by
          rw [hoff,Nat.mul_comm,Nat.mul_add_div hpos,Nat.div_eq_of_lt hk,Nat.add_zero]
         have h3:off % sz = k:=by
          rw [hoff,Nat.mul_comm,Nat.mul_add_mod,Nat.mod_eq_of_lt hk]
         simp only [Seg.get?]
         rw [show Nat.blt off (n * sz) = true from Nat.ble_eq_true_of_le h1,h2,h3]
         exact hg
        obtain ⟨rv,hr,hv⟩:=hcs (s + off) u (segAtG_get hsg hgp off u hget)
        exact ⟨rv,loadAt_run_one ha (cell_of he hr),hv⟩
    ·simp at hx
   ·simp at hx
  ·simp at hx
 ·simp at hx
theorem xloadE_ok {P:Program} {H h:HF} {n:Nat} {hs:List Hint} {t:TypeId} {v:Value} {out:Out} (hx:xloadE P H n hs t v = some out) (hob:∀ q ∈ out.ob,q) (hrd:∀ i ∈ out.rd,h i = H i) :
  out.eff = [] ∧ out.new = [] ∧ ∀ {μ:Mu} {w:World} {r:Value},Rep μ h w → VRel μ v r → ∃ rv,(Instr.loadAt t r).run P w = .ok rv w ∧ VRel μ out.v rv:=by
 unfold xloadE at hx
 split at hx
 ·rename_i l
  split at hx
  ·rename_i m ha hsz
   cases hc:Nat.ble m l.length <;> rw [hc] at hx
   ·simp at hx
   ·simp only [cond_true,Option.some.injEq] at hx;subst hx
    refine ⟨rfl,rfl,fun {μ w r} hr hv => ?_⟩
    obtain ⟨b,off,cs,rfl,hsol,hf,hg⟩:=hv.fptr_inv
    obtain ⟨ty,fr,he⟩:=hr.frz b cs hf
    refine ⟨.agg ⟨l.take m⟩,loadAt_run_agg ha hsz (by simp [ble_tt hc]) (fun j x hj => cell_of he (hg j x ?_)),.agg (.of_solids (all_take m hsol))⟩
    rw [List.getElem?_take] at hj
    split at hj
    ·exact hj
    ·cases hj
  ·rename_i ha
   cases hl:l[0]? with
   | none => simp [hl] at hx
   | some u =>
    simp only [hl,Option.map_some,Option.some.injEq] at hx;subst hx
    refine ⟨rfl,rfl,fun {μ w r} hr hv => ?_⟩
    obtain ⟨b,off,cs,rfl,hsol,hf,hg⟩:=hv.fptr_inv
    obtain ⟨ty,fr,he⟩:=hr.frz b cs hf
    exact ⟨u,loadAt_run_one ha (cell_of he (by simpa using hg 0 u hl)),.of_solid (by rw [List.all_eq_true] at hsol;exact hsol u (List.mem_of_getElem? hl))⟩
  ·simp at hx
 ·rename_i j k hs'
  split at hx
  ·rename_i u i ob hr
   simp only [Option.some.injEq] at hx;subst hx
   exact ⟨rfl,rfl,fun {μ w r} hrep hv => xrow_ok hr hob (hrd i (by simp)) hrep hv⟩
  ·simp at hx
 ·rename_i i off s m hs'
  split at hx
  ·rename_i B hB
   split at hx
   ·rename_i k a rr hg ha
    cases hns:intsOf k (.int k a :: rr) with
    | none => simp [hns] at hx
    | some ns =>
     simp only [hns,Option.map_some,Option.some.injEq] at hx;subst hx
     refine ⟨rfl,rfl,fun {μ w r} hrep hv => ?_⟩
     have hlt:off < m:=hob _ (by simp)
     have hcs:=intsOf_get hns
     rw [← hrd i (by simp)] at hB
     obtain ⟨b,hb,cs,ty,fr,he,_,hc⟩:=hrep.blk i B hB (.inr hv.ptr_ne)
     cases hv with
     | ptrS hb' _ _ =>
      rw [hb] at hb'
      obtain rfl:b = _:=by simpa using hb'
      obtain ⟨rs,h1,h2,h3⟩:=gets_spec hc _ _ _ hg
      rw [hcs] at h1 h2
      have hlen:off < ns.length:=by rw [List.length_map] at h2;omega
      obtain ⟨y,hy,hyv⟩:=h1.get off (.int k (ns.getD off 0)) (by simp [hlen])
      exact ⟨y,loadAt_run_one ha (cell_of he (h3 off y hy)),hyv⟩
   ·rename_i a rr hg ha
    cases hns:boolsOf (.bool a :: rr) with
    | none => simp [hns] at hx
    | some ns =>
     simp only [hns,Option.map_some,Option.some.injEq] at hx;subst hx
     refine ⟨rfl,rfl,fun {μ w r} hrep hv => ?_⟩
     have hlt:off < m:=hob _ (by simp)
     have hcs:=boolsOf_get hns
     rw [← hrd i (by simp)] at hB
     obtain ⟨b,hb,cs,ty,fr,he,_,hc⟩:=hrep.blk i B hB (.inr hv.ptr_ne)
     cases hv with
     | ptrS hb' _ _ =>
      rw [hb] at hb'
      obtain rfl:b = _:=by simpa using hb'
      obtain ⟨rs,h1,h2,h3⟩:=gets_spec hc _ _ _ hg
      rw [hcs] at h1 h2
      have hlen:off < ns.length:=by rw [List.length_map] at h2;omega
      obtain ⟨y,hy,hyv⟩:=h1.get off (.bool (ns.getD off false)) (by simp [hlen])
      exact ⟨y,loadAt_run_one ha (cell_of he (h3 off y hy)),hyv⟩
   ·simp at hx
  ·simp at hx
 ·simp at hx
theorem xfieldE_ok {P:Program} {n:Nat} {hs:List Hint} {s:TypeId} {f:Nat} {v:Value} {out:Out} (hx:xfieldE P n hs s f v = some out) :
  out.eff = [] ∧ out.new = [] ∧ ∀ {μ:Mu} {w:World} {r:Value},VRel μ v r → ∃ rv,(Instr.fieldAt s r f).run P w = .ok rv w ∧ VRel μ out.v rv:=by
 unfold xfieldE at hx
 split at hx
 ·rename_i l fields hu
  split at hx
  ·rename_i fd hfd
   split at hx
   ·rename_i m hsz
    simp only [Option.some.injEq] at hx;subst hx
    refine ⟨rfl,rfl,fun {μ w r} hv => ?_⟩
    obtain ⟨b,off,cs,rfl,hsol,hf,hg⟩:=hv.fptr_inv
    refine ⟨.pointer (some ⟨b,off + fd.offset,none⟩),?_,.fptr _ (all_drop _ hsol) hf fun j x hj => ?_⟩
    ·simp only [Instr.fieldAt,Sem.run_bind,underlying_run hu,Result.andThen_ok,hfd,Instr.sureAddr,Sem.run_pure,fieldPlace_run hsz]
    ·have:=hg (fd.offset + j) x (by simpa using hj)
     rw [← Nat.add_assoc] at this;exact this
   ·simp at hx
  ·simp at hx
 ·simp at hx
theorem xatE_ok {P:Program} {n:Nat} {hs:List Hint} {t:TypeId} {v ix:Value} {out:Out} (hx:xatE P n hs t v ix = some out) (hob:∀ q ∈ out.ob,q) :
  out.eff = [] ∧ out.new = [] ∧ ∀ {μ:Mu} {w:World} {r rx:Value},VRel μ v r → VRel μ ix rx → ∃ rv,(Instr.indexAt t r rx).run P w = .ok rv w ∧ VRel μ out.v rv:=by
 unfold xatE at hx
 split at hx
 ·rename_i k i e z l f hu
  split at hx
  ·rename_i sz j hs' hsz
   cases hc:(Nat.beq z sz && Nat.ble 1 sz && Nat.ble ((j + 1) * z) l.length) <;> rw [hc] at hx
   ·simp at hx
   ·simp only [cond_true,Option.some.injEq] at hx;subst hx
    simp only [Bool.and_eq_true] at hc
    obtain ⟨⟨c1,c2⟩,c3⟩:=hc
    obtain rfl:=beq_tt c1
    have c2:=ble_tt c2
    have c3:=ble_tt c3
    have h1:f = true:=hob _ (by simp [silent])
    have h2:i = (j:Int):=hob _ (by simp [silent])
    subst h2
    refine ⟨rfl,rfl,fun {μ w r rx} hv hix => ?_⟩
    cases hix
    obtain ⟨hsol,hl⟩:=hv.lst_inv h1
    have hpos:z ≤ (j + 1) * z:=by rw [Nat.add_mul];omega
    rcases hl with ⟨rfl,_⟩ | ⟨h0,_⟩ | ⟨_,b,off,len,cap,cs,rfl,hcap,hlen,hf,hg⟩
    ·simp at c3;omega
    ·omega
    ·have hj:j + 1 ≤ len:=Nat.le_of_mul_le_mul_right (by rw [hlen];exact c3) (by omega)
     refine ⟨_,indexAt_slice_run hu hsz ⟨by omega,by omega⟩ w,?_⟩
     simp only [Int.toNat_natCast]
     refine .fptr _ (all_drop _ hsol) hf fun q x hq => ?_
     have:=hg (j * z + q) x (by simpa using hq)
     rw [← Nat.add_assoc] at this;exact this
  ·rename_i sz hs' hsz
   cases hc:(Nat.beq z 1 && Nat.beq sz 1) <;> rw [hc] at hx
   ·simp at hx
   ·simp only [cond_true] at hx
    simp only [Bool.and_eq_true] at hc
    obtain rfl:=beq_tt hc.1
    obtain rfl:=beq_tt hc.2
    split at hx
    ·rename_i k' a rr
     cases hns:intsOf k' (.int k' a :: rr) with
     | none => simp [hns] at hx
     | some ns =>
      simp only [hns,Option.map_some,Option.some.injEq] at hx;subst hx
      have h1:f = true:=hob _ (by simp [silent])
      have h2:0 ≤ i ∧ i < (ns.length:Int):=hob _ (by simp [silent])
      have hcs:=intsOf_get hns
      refine ⟨rfl,rfl,fun {μ w r rx} hv hix => ?_⟩
      cases hix
      obtain ⟨hsol,hl⟩:=hv.lst_inv h1
      rw [hcs] at hl
      rcases hl with ⟨h0,_⟩ | ⟨h0,_⟩ | ⟨_,b,off,len,cap,cs,rfl,hcap,hlen,hf,hg⟩
      ·have:ns = []:=by simpa using h0
       rw [this] at h2;simp at h2;omega
      ·omega
      ·have hll:len = ns.length:=by simpa using hlen
       refine ⟨_,indexAt_slice_run hu hsz ⟨h2.1,by rw [hll];exact h2.2⟩ w,?_⟩
       rw [Nat.mul_one]
       refine .fptr _ rfl hf fun q x hq => ?_
       cases q with
       | zero =>
        simp at hq;subst hq
        have hlt:i.toNat < ns.length:=by omega
        have:=hg i.toNat (.int k' (ns.getD i.toNat 0)) (by simp [hlt])
        simpa using this
       | succ q => simp at hq
    ·rename_i a rr
     cases hns:strsOf (.string a :: rr) with
     | none => simp [hns] at hx
     | some ns =>
      simp only [hns,Option.map_some,Option.some.injEq] at hx;subst hx
      have h1:f = true:=hob _ (by simp [silent])
      have h2:0 ≤ i ∧ i < (ns.length:Int):=hob _ (by simp [silent])
      have hcs:=strsOf_get hns
      refine ⟨rfl,rfl,fun {μ w r rx} hv hix => ?_⟩
      cases hix
      obtain ⟨hsol,hl⟩:=hv.lst_inv h1
      rw [hcs] at hl
      rcases hl with ⟨h0,_⟩ | ⟨h0,_⟩ | ⟨_,b,off,len,cap,cs,rfl,hcap,hlen,hf,hg⟩
      ·have:ns = []:=by simpa using h0
       rw [this] at h2;simp at h2;omega
      ·omega
      ·have hll:len = ns.length:=by simpa using hlen
       refine ⟨_,indexAt_slice_run hu hsz ⟨h2.1,by rw [hll];exact h2.2⟩ w,?_⟩
       rw [Nat.mul_one]
       refine .fptr _ rfl hf fun q x hq => ?_
       cases q with
       | zero =>
        simp at hq;subst hq
        have hlt:i.toNat < ns.length:=by omega
        have:=hg i.toNat (.string (ns.getD i.toNat ⟨#[]⟩)) (by simp [hlt])
        simpa using this
       | succ q => simp at hq
    ·simp at hx
  ·simp at hx
 ·simp at hx
theorem xlenE_ok {P:Program} {n:Nat} {hs:List Hint} {t ty:TypeId} {v:Value} {out:Out} {ts:Array TypeId} (hx:xlenE P n hs t v = some out) (hob:∀ q ∈ out.ob,q) (ht:ts[0]? = some t) :
  out.eff = [] ∧ out.new = [] ∧ ∀ {μ:Mu} {w:World} {r:Value} {args:Array Value},VRel μ v r → args[0]? = some r → ∃ rv,(Builtin.len_ ts ty args).run P w = .ok rv w ∧ VRel μ out.v rv:=by
 unfold xlenE at hx
 split at hx
 ·rename_i z l f e hu
  split at hx
  ·rename_i k hs'
   cases hc:Nat.ble 1 z <;> rw [hc] at hx
   ·simp at hx
   ·simp only [cond_true,Option.some.injEq] at hx;subst hx
    have c1:=ble_tt hc
    have h1:f = true:=hob _ (by simp [silent])
    have h2:l.length = k * z:=hob _ (by simp [silent])
    refine ⟨rfl,rfl,fun {μ w r args} hv ha => ?_⟩
    obtain ⟨_,hl⟩:=hv.lst_inv h1
    have hr:∃ a c,r = .slice a k c:=by
     rcases hl with ⟨rfl,rfl⟩ | ⟨h0,_⟩ | ⟨_,b,off,len,cap,cs,rfl,_,hlen,_⟩
     ·have:k = 0:=by
       rcases Nat.eq_zero_or_pos k with h | h
       ·exact h
       ·have:=Nat.mul_pos h (show 0 < z by omega)
        simp at h2;omega
      exact ⟨none,0,by rw [this]⟩
     ·omega
     ·exact ⟨some ⟨b,off,none⟩,cap,by rw [show len = k from Nat.eq_of_mul_eq_mul_right (by omega) (hlen.trans h2)]⟩
    obtain ⟨a,c,rfl⟩:=hr
    refine ⟨.int .i64 (k:Int),?_,.int _ _⟩
    unfold Builtin.len_
    simp [ht,ha,underlying_run hu,goInt]
  cases hc:(Nat.ble 1 z && Nat.beq (l.length / z * z) l.length) <;> rw [hc] at hx
  ·simp at hx
  ·simp only [cond_true,Option.some.injEq] at hx;subst hx
   simp only [Bool.and_eq_true] at hc
   have c1:=ble_tt hc.1
   have h1:f = true:=hob _ (by simp [silent])
   refine ⟨rfl,rfl,fun {μ w r args} hv ha => ?_⟩
   obtain ⟨_,hl⟩:=hv.lst_inv h1
   have hr:∃ a c,r = .slice a (l.length / z) c:=by
    rcases hl with ⟨rfl,rfl⟩ | ⟨h0,_⟩ | ⟨_,b,off,len,cap,cs,rfl,_,hlen,_⟩
    ·exact ⟨none,0,by simp⟩
    ·omega
    ·refine ⟨some ⟨b,off,none⟩,cap,?_⟩
     rw [← hlen,Nat.mul_div_cancel _ (by omega)]
   obtain ⟨a,c,rfl⟩:=hr
   refine ⟨.int .i64 ((l.length / z:Nat):Int),?_,.int _ _⟩
   unfold Builtin.len_
   simp [ht,ha,underlying_run hu,goInt]
 ·simp at hx
theorem xempty_ok {P:Program} {n:Nat} {hs:List Hint} {t:TypeId} {out:Out} {o:Oper} {ρ:Operand → Value} {h:HF} (hx:xempty P n hs t = some out) {parts:Array (Nat × Operand)} (ho:o.op = .buildSlice t 0 parts) (hp:parts.toList = []):OpSpec P o ρ h out:=by
 unfold xempty at hx
 split at hx
 ·rename_i e hu
  split at hx
  ·rename_i sz hsz
   simp only [Option.some.injEq] at hx;subst hx
   refine .newBlk fun μ a w hg hxs => ⟨[],.slice (some ⟨w.heap.size,0,none⟩) 0 0,.nil,?_,fun μ' hm hs => .slice hm 0 _ _ _ (Nat.le_refl _) (.inr (by simp))⟩
   have hp':parts = #[]:=by apply Array.ext';simpa using hp
   subst hp'
   unfold execOp
   simp only [ho,Instr.buildSlice,Sem.run_bind,underlying_run hu,Result.andThen_ok,sizeOf_run hsz]
   have e0:(Array.range 0).map (fun _:Nat => (default:Value)) = #[]:=by apply Array.ext';simp
   simp [Instr.fill,newRow,newObj,Sem.run,e0]
  ·simp at hx
 ·simp at hx
theorem xnone_ok {P:Program} {n:Nat} {hs:List Hint} {t:TypeId} {out:Out} {o:Oper} {ρ:Operand → Value} {h:HF} (hx:xnone P n hs t = some out) {parts:Array (Nat × Operand)} (ho:o.op = .buildSlice t 0 parts) (hp:parts.toList = []):OpSpec P o ρ h out:=by
 unfold xnone at hx
 split at hx
 ·rename_i e hu
  split at hx
  ·rename_i sz hsz
   simp only [Option.some.injEq] at hx;subst hx
   intro μ a w hg hxs hr hn K Q hk
   obtain ⟨hle,hrep,hkeep⟩:=hr.born (cs:=#[]) (t:=e)
   have he:(execOp a.eval o).run P w = .ok (.value (.slice (some ⟨w.heap.size,0,none⟩) 0 0)) (w.alloc (.cells #[] e)):=by
    have hp':parts = #[]:=by apply Array.ext';simpa using hp
    subst hp'
    unfold execOp
    simp only [ho,Instr.buildSlice,Sem.run_bind,underlying_run hu,Result.andThen_ok,sizeOf_run hsz]
    have e0:(Array.range 0).map (fun _:Nat => (default:Value)) = #[]:=by apply Array.ext';simp
    simp [Instr.fill,newRow,newObj,Sem.run,e0]
   refine wp_of_value he (hk _ _ _ hle (fun _ _ => rfl) hrep ?_ hkeep)
   exact .lst _ _ _ rfl ⟨_,_,_,rfl⟩ fun _ => .inr (.inl ⟨rfl,rfl,_,rfl⟩)
  ·simp at hx
 ·simp at hx
theorem xeqNil_ok {P:Program} {ρ:Operand → Value} {n:Nat} {hs:List Hint} {t:TypeId} {x y:Operand} {out:Out} {o:Oper} {h:HF} {g:TypeId} (hx:xeqNil P ρ n hs t x y = some out) (hob:∀ q ∈ out.ob,q) (ho:o.op = .binOp .eql t x y g):OpSpec P o ρ h out:=by
 unfold xeqNil at hx
 split at hx
 ·rename_i z v l f hρx hρy
  cases he:eqv P 10000 t (.slice (some ⟨0,0,none⟩) 0 0) (.slice none 0 0) with
  | none => rw [he] at hx;simp at hx
  | some c =>
   rw [he] at hx
   simp only [Option.map_some,Option.some.injEq] at hx;subst hx
   refine .quiet rfl rfl fun μ a w hg hxs hr => ⟨.bool c,?_,.bool c⟩
   have hvx:=hxs x (by rw [ho];simp [Op.operands])
   have hvy:=hxs y (by rw [ho];simp [Op.operands])
   rw [hρx] at hvx
   rw [hρy] at hvy
   have hf:f = true:=hob _ (by simp [VX.silent])
   unfold execOp
   simp only [ho,Sem.run_bind]
   generalize a.eval x = X at hvx ⊢
   generalize a.eval y = Y at hvy ⊢
   obtain ⟨_,hl⟩:=hvx.lst_inv hf
   cases hvy
   rcases hl with ⟨h0,_⟩ | ⟨_,h0,_⟩ | ⟨_,b,off,len,cap,cs,rfl,_⟩
   ·cases h0
   ·cases h0
   ·have he':eqv P 10000 t (.slice (some ⟨b,off,none⟩) len cap) (.slice none 0 0) = some c:=by rw [← he];exact eqv_slice rfl rfl
    simp [eqGuard,binOp,equal_run he']
 ·simp at hx
theorem bound_spec {ρ:Operand → Value} {μ:Mu} {a:Act} {x:Option Operand} {k:Nat} {ob:List Prop} (h:boundP ρ x k = some ob) (hob:∀ q ∈ ob,q) (hx:∀ y,x = some y → VRel μ (ρ y) (a.eval y)) :
  x = none ∨ ∃ kd,x.map a.eval = some (.int kd (k:Int)):=by
 unfold boundP at h
 split at h
 ·exact .inl rfl
 ·rename_i y
  split at h
  ·rename_i kd i hi
   simp only [Option.some.injEq] at h;subst h
   have h1:i = (k:Int):=hob _ (by simp)
   have:=hx y rfl
   rw [hi,h1] at this
   refine .inr ⟨kd,?_⟩
   simp only [Option.map_some]
   revert this
   generalize a.eval y = Y
   intro this
   cases this;rfl
  ·simp at h
theorem sliceBounds_run {P:Program} {isSlice:Bool} {len cap lo hi:Nat} {L Hh:Option Value} (hL:(L = none ∧ lo = 0) ∨ ∃ k,L = some (.int k (lo:Int))) (hH:(Hh = none ∧ hi = len) ∨ ∃ k,Hh = some (.int k (hi:Int))) (h1:lo ≤ hi) (h2:hi ≤ cap) (w:World) :
  (Instr.sliceBounds isSlice len cap L Hh none).run P w = .ok (lo,hi,cap) w:=by
 unfold Instr.sliceBounds
 rcases hH with ⟨rfl,rfl⟩ | ⟨k,rfl⟩ <;> rcases hL with ⟨rfl,rfl⟩ | ⟨k',rfl⟩ <;>
  simp [Instr.sliceBound,asIntOf,h1,h2]
theorem at_add (b off n:Nat):(Addr.add ⟨b,off,none⟩ n) = ⟨b,off + n,none⟩:=add_off b off n
theorem xslice_ok {P:Program} {ρ:Operand → Value} {n:Nat} {t:TypeId} {x:Operand} {low high max:Option Operand} {hs:List Hint} {out:Out} {o:Oper} {h:HF} (hx:xslice P ρ n t x low high max hs = some out) (hob:∀ q ∈ out.ob,q)
  (ho:o.op = .slice t x low high max):OpSpec P o ρ h out:=by
 unfold xslice at hx
 have opx:∀ (μ:Mu) (a:Act),(∀ y ∈ o.op.operands,VRel μ (ρ y) (a.eval y)) → VRel μ (ρ x) (a.eval x) ∧ (∀ y,low = some y → VRel μ (ρ y) (a.eval y)) ∧ (∀ y,high = some y → VRel μ (ρ y) (a.eval y)) ∧ (∀ y,max = some y → VRel μ (ρ y) (a.eval y)):=by
  intro μ a hxs
  rw [ho] at hxs
  refine ⟨hxs x (by simp [Op.operands]),fun y hy => hxs y (by simp [Op.operands,hy]),fun y hy => hxs y (by simp [Op.operands,hy]),fun y hy => hxs y (by simp [Op.operands,hy])⟩
 have exop:∀ (a:Act) (w:World) (rv:Value),(Instr.sliceAt t (a.eval x) (low.map a.eval) (high.map a.eval) (max.map a.eval)).run P w = .ok rv w → (execOp a.eval o).run P w = .ok (.value rv) w:=by
  intro a w rv hrun
  unfold execOp
  simp only [ho,Sem.run_bind,hrun,Result.andThen_ok,Sem.run_pure]
 split at hx
 ·rename_i e z l f lo hi hs' hu hρ
  split at hx
  ·rename_i sz o1 o2 hsz hb1 hb2
   cases hc:(Nat.beq z sz && Nat.ble 1 sz && Nat.ble lo hi && Nat.ble (hi * z) l.length && (low.isSome || Nat.beq lo 0) && (high.isSome || Nat.beq (hi * z) l.length)) <;> rw [hc] at hx
   ·simp at hx
   ·simp only [cond_true,Option.some.injEq] at hx;subst hx
    simp only [Bool.and_eq_true,Bool.or_eq_true] at hc
    obtain ⟨⟨⟨⟨⟨c1,c2⟩,c3⟩,c4⟩,c5⟩,c6⟩:=hc
    obtain rfl:=beq_tt c1
    have c2:=ble_tt c2;have c3:=ble_tt c3;have c4:=ble_tt c4
    have h1:f = true:=hob _ (by simp [silent])
    refine .quiet rfl rfl fun μ a w hg hxs hr => ?_
    obtain ⟨hv,hlo,hhi,_⟩:=opx μ a hxs
    have B1:=bound_spec (a:=a) hb1 (fun q hq => hob q (by simp [silent,hq])) hlo
    have B2:=bound_spec (a:=a) hb2 (fun q hq => hob q (by simp [silent,hq])) hhi
    rw [hρ] at hv
    obtain ⟨hsol,hl⟩:=hv.lst_inv h1
    have hL:(low.map a.eval = none ∧ lo = 0) ∨ ∃ k,low.map a.eval = some (.int k (lo:Int)):=by
     rcases B1 with rfl | hk
     ·exact .inl ⟨rfl,by simpa using beq_tt (c5.resolve_left (by simp))⟩
     ·exact .inr hk
    have hnew:((l.drop (lo * z)).take ((hi - lo) * z)).all solid = true:=all_take _ (all_drop _ hsol)
    have key:∀ ad len cap,a.eval x = .slice ad len cap → hi ≤ cap → len * z = l.length → (Instr.sliceAt t (a.eval x) (low.map a.eval) (high.map a.eval) none).run P w = .ok (.slice (if cap = lo then ad else ad.map (·.add (lo * z))) (hi - lo) (cap - lo)) w:=by
     intro ad len cap he hcap hlen
     have hH:(high.map a.eval = none ∧ hi = len) ∨ ∃ k,high.map a.eval = some (.int k (hi:Int)):=by
      rcases B2 with rfl | hk
      ·refine .inl ⟨rfl,?_⟩
       have:=beq_tt (c6.resolve_left (by simp))
       rw [← hlen] at this
       exact Nat.eq_of_mul_eq_mul_right (by omega) this
      ·exact .inr hk
     unfold Instr.sliceAt
     rw [he]
     simp only [Sem.run_bind,underlying_run hu,Result.andThen_ok,Instr.slice,sliceBounds_run hL hH c3 hcap,sizeOf_run hsz,Sem.run_pure]
    rcases hl with ⟨rfl,hr0⟩ | ⟨h0,_⟩ | ⟨hz,b,off,len,cap,cs,hr0,hcap,hlen,hf,hg⟩
    ·have hhi0:hi = 0:=by
      rcases Nat.eq_zero_or_pos hi with h | h
      ·exact h
      ·have:=Nat.mul_pos h (show 0 < z by omega)
       simp at c4;omega
     have hlo0:lo = 0:=by omega
     subst hhi0;subst hlo0
     refine ⟨_,exop a w _ (key none 0 0 hr0 (Nat.le_refl _) (by simp)),VRel.lst_true hnew (.inl ⟨by simp,by simp⟩)⟩
    ·omega
    ·have hhl:hi ≤ len:=Nat.le_of_mul_le_mul_right (by rw [hlen];exact c4) (by omega)
     refine ⟨_,exop a w _ (key _ _ _ hr0 (by omega) hlen),VRel.lst_true hnew ?_⟩
     have hlength:((l.drop (lo * z)).take ((hi - lo) * z)).length = (hi - lo) * z:=by
      simp
      have:(hi - lo) * z + lo * z ≤ l.length:=by rw [← Nat.add_mul];rw [show hi - lo + lo = hi by omega];exact c4
      omega
     have hcells:∀ (o':Nat),(o' = off + lo * z ∨ hi - lo = 0) → ∀ j v,((l.drop (lo * z)).take ((hi - lo) * z))[j]? = some v → cs[o' + j]? = some v:=by
      intro o' ho' j v hj
      have hjl:=(List.getElem?_eq_some_iff.1 hj).1
      rw [hlength] at hjl
      rcases ho' with rfl | h0
      ·rw [List.getElem?_take,if_pos hjl] at hj
       rw [Nat.add_assoc];exact hg _ _ (by simpa using hj)
      ·rw [h0] at hjl;simp at hjl
     by_cases hm:cap = lo
     ·rw [if_pos hm]
      exact .inr (.inr ⟨hz,b,off,hi - lo,cap - lo,cs,rfl,by omega,by rw [hlength],hf,hcells off (.inr (by omega))⟩)
     ·rw [if_neg hm]
      refine .inr (.inr ⟨hz,b,off + lo * z,hi - lo,cap - lo,cs,?_,by omega,by rw [hlength],hf,hcells _ (.inl rfl)⟩)
      simp [at_add]
  ·simp at hx
 ·rename_i e z l f lo hs' hu hρ
  split at hx
  ·rename_i sz o1 hsz hb1
   cases hc:(Nat.beq z sz && Nat.ble 1 sz && (low.isSome || Nat.beq lo 0)) <;> rw [hc] at hx
   ·simp at hx
   ·simp only [cond_true,Option.some.injEq] at hx;subst hx
    simp only [Bool.and_eq_true,Bool.or_eq_true] at hc
    obtain ⟨⟨c1,c2⟩,c5⟩:=hc
    obtain rfl:=beq_tt c1
    have c2:=ble_tt c2
    have h1:f = true:=hob _ (by simp [silent])
    have c4:lo * z ≤ l.length:=hob _ (by simp [silent])
    refine .quiet rfl rfl fun μ a w hg hxs hr => ?_
    obtain ⟨hv,hlo,_,_⟩:=opx μ a hxs
    have B1:=bound_spec (a:=a) hb1 (fun q hq => hob q (by simp [silent,hq])) hlo
    rw [hρ] at hv
    obtain ⟨hsol,hl⟩:=hv.lst_inv h1
    have hL:(low.map a.eval = none ∧ lo = 0) ∨ ∃ k,low.map a.eval = some (.int k (lo:Int)):=by
     rcases B1 with rfl | hk
     ·exact .inl ⟨rfl,by simpa using beq_tt (c5.resolve_left (by simp))⟩
     ·exact .inr hk
    have hnew:(l.drop (lo * z)).all solid = true:=all_drop _ hsol
    have key:∀ ad len cap,a.eval x = .slice ad len cap → len ≤ cap → lo ≤ len → (Instr.sliceAt t (a.eval x) (low.map a.eval) (Option.map a.eval none) none).run P w = .ok (.slice (if cap = lo then ad else ad.map (·.add (lo * z))) (len - lo) (cap - lo)) w:=by
     intro ad len cap he hcap hlen
     unfold Instr.sliceAt
     rw [he]
     simp only [Sem.run_bind,underlying_run hu,Result.andThen_ok,Instr.slice,sliceBounds_run hL (.inl ⟨rfl,rfl⟩) hlen hcap,sizeOf_run hsz,Sem.run_pure,Option.map_none]
    rcases hl with ⟨rfl,hr0⟩ | ⟨h0,_⟩ | ⟨hz,b,off,len,cap,cs,hr0,hcap,hlen,hf,hg⟩
    ·have hlo0:lo = 0:=by
      rcases Nat.eq_zero_or_pos lo with h | h
      ·exact h
      ·have:=Nat.mul_pos h (show 0 < z by omega)
       simp at c4;omega
     subst hlo0
     refine ⟨_,exop a w _ (key none 0 0 hr0 (Nat.le_refl _) (by simp)),VRel.lst_true hnew (.inl ⟨by simp,by simp⟩)⟩
    ·omega
    ·have hhl:lo ≤ len:=Nat.le_of_mul_le_mul_right (by rw [hlen];exact c4) (by omega)
     refine ⟨_,exop a w _ (key _ _ _ hr0 hcap hhl),VRel.lst_true hnew ?_⟩
     have hlength:(l.drop (lo * z)).length = (len - lo) * z:=by
      simp [Nat.sub_mul,hlen]
     have hcells:∀ (o':Nat),(o' = off + lo * z ∨ len - lo = 0) → ∀ j v,(l.drop (lo * z))[j]? = some v → cs[o' + j]? = some v:=by
      intro o' ho' j v hj
      have hjl:=(List.getElem?_eq_some_iff.1 hj).1
      rw [hlength] at hjl
      rcases ho' with rfl | h0
      ·rw [Nat.add_assoc];exact hg _ _ (by simpa using hj)
      ·rw [h0] at hjl;simp at hjl
     by_cases hm:cap = lo
     ·rw [if_pos hm]
      exact .inr (.inr ⟨hz,b,off,len - lo,cap - lo,cs,rfl,by omega,by rw [hlength],hf,hcells off (.inr (by omega))⟩)
     ·rw [if_neg hm]
      refine .inr (.inr ⟨hz,b,off + lo * z,len - lo,cap - lo,cs,?_,by omega,by rw [hlength],hf,hcells _ (.inl rfl)⟩)
      simp [at_add]
  ·simp at hx
 ·rename_i e z l f mx lo hi hs' hu hρ
  split at hx
  ·rename_i sz o1 o2 o3 hsz hb1 hb2 hb3
   cases hc:(Nat.beq lo 0 && Nat.beq hi 0 && high.isSome) <;> rw [hc] at hx
   ·simp at hx
   ·simp only [cond_true,Option.some.injEq] at hx;subst hx
    simp only [Bool.and_eq_true] at hc
    obtain ⟨⟨c1,c2⟩,c3⟩:=hc
    obtain rfl:=beq_tt c1
    obtain rfl:=beq_tt c2
    have h1:f = true:=hob _ (by simp [silent])
    refine .quiet rfl rfl fun μ a w hg hxs hr => ?_
    obtain ⟨hv,hlo,hhi,hmx⟩:=opx μ a hxs
    have B1:=bound_spec (a:=a) hb1 (fun q hq => hob q (by simp [silent,hq])) hlo
    have B2:=bound_spec (a:=a) hb2 (fun q hq => hob q (by simp [silent,hq])) hhi
    have B3:=bound_spec (a:=a) hb3 (fun q hq => hob q (by simp [silent,hq])) (fun y hy => hmx y (by rw [← hy]))
    rw [hρ] at hv
    obtain ⟨hsol,hl⟩:=hv.lst_inv h1
    obtain ⟨kh,hkh⟩:=B2.resolve_left (by intro hh;rw [hh] at c3;cases c3)
    obtain ⟨km,hkm⟩:=B3.resolve_left (by simp)
    have key:∀ ad len cap,a.eval x = .slice ad len cap → ∃ ad',(Instr.sliceAt t (a.eval x) (low.map a.eval) (high.map a.eval) ((some mx).map a.eval)).run P w = .ok (.slice ad' 0 0) w:=by
     intro ad len cap he
     refine ⟨ad,?_⟩
     unfold Instr.sliceAt
     rw [he,hkh,hkm]
     rcases B1 with rfl | ⟨k,hk⟩
     ·simp [underlying_run hu,Instr.slice,Instr.sliceBounds,Instr.sliceBound,asIntOf,sizeOf_run hsz]
     ·rw [hk]
      simp [underlying_run hu,Instr.slice,Instr.sliceBounds,Instr.sliceBound,asIntOf,sizeOf_run hsz]
    have hex:∃ ad len cap,a.eval x = .slice ad len cap:=by
     rcases hl with ⟨rfl,hr0⟩ | ⟨h0,_,ad,hr0⟩ | ⟨hz,b,off,len,cap,cs,hr0,_⟩
     ·exact ⟨_,_,_,hr0⟩
     ·exact ⟨_,_,_,hr0⟩
     ·exact ⟨_,_,_,hr0⟩
    obtain ⟨ad,len,cap,he⟩:=hex
    obtain ⟨ad',hk⟩:=key ad len cap he
    exact ⟨_,exop a w _ hk,VRel.lst_true rfl (.inr (.inl ⟨rfl,rfl,ad',rfl⟩))⟩
  ·simp at hx
 ·rename_i e i off sp len z lo hi hs' hu hρ
  split at hx
  ·rename_i sz o1 o2 hsz hb1 hb2
   cases hc:((Nat.beq z sz || Nat.beq z 0 || sp.isSome) && (low.isSome || Nat.beq lo 0)) <;> rw [hc] at hx
   ·simp at hx
   ·simp only [cond_true,Option.some.injEq] at hx;subst hx
    simp only [Bool.and_eq_true,Bool.or_eq_true] at hc
    obtain ⟨c1,c5⟩:=hc
    have hb:hi ≤ len ∧ lo ≤ hi ∧ (lo = 0 ∨ lo < hi) ∧ (high.isSome = true ∨ hi = len):=hob _ (by simp [silent])
    obtain ⟨b1,b2,b3,b4⟩:=hb
    refine .quiet rfl rfl fun μ a w hg hxs hr => ?_
    obtain ⟨hv,hlo,hhi,_⟩:=opx μ a hxs
    have B1:=bound_spec (a:=a) hb1 (fun q hq => hob q (by simp [silent,hq])) hlo
    have B2:=bound_spec (a:=a) hb2 (fun q hq => hob q (by simp [silent,hq])) hhi
    rw [hρ] at hv
    have hL:(low.map a.eval = none ∧ lo = 0) ∨ ∃ k,low.map a.eval = some (.int k (lo:Int)):=by
     rcases B1 with rfl | hk
     ·exact .inl ⟨rfl,by simpa using beq_tt (c5.resolve_left (by simp))⟩
     ·exact .inr hk
    have hH:(high.map a.eval = none ∧ hi = len) ∨ ∃ k,high.map a.eval = some (.int k (hi:Int)):=by
     rcases B2 with rfl | hk
     ·exact .inl ⟨rfl,by simpa using b4⟩
     ·exact .inr hk
    have key:∀ b o' cap,a.eval x = .slice (some ⟨b,o',none⟩) len cap → len ≤ cap → (Instr.sliceAt t (a.eval x) (low.map a.eval) (high.map a.eval) none).run P w = .ok (.slice (some ⟨b,o' + lo * sz,none⟩) (hi - lo) (cap - lo)) w:=by
     intro b o' cap he hcap
     unfold Instr.sliceAt
     rw [he]
     simp only [Sem.run_bind,underlying_run hu,Result.andThen_ok,Instr.slice,sliceBounds_run hL hH b2 (Nat.le_trans b1 hcap),sizeOf_run hsz,Sem.run_pure]
     by_cases hm:cap = lo
     ·rw [if_pos hm]
      have hlo0:lo = 0:=by omega
      subst hlo0
      simp
     ·rw [if_neg hm]
      simp [at_add]
    refine (show ∃ rv,_ from ?_)
    generalize hX:a.eval x = X at hv
    cases hv with
    | slice hb _ _ _ cap' hcc hz =>
     refine ⟨_,exop a w _ (key _ _ _ hX hcc),.slice hb _ _ _ _ (by omega) ?_⟩
     rcases hz with hz | hz
     ·exact .inl hz
     ·rcases c1 with (c1 | c1) | c1
      ·refine .inr ?_
       obtain rfl:=beq_tt c1
       simp only [Option.isSome_none,cond_false]
       have:(cap' - lo) * z + lo * z = cap' * z:=by rw [← Nat.add_mul];rw [show cap' - lo + lo = cap' by omega]
       omega
      ·exact .inl (beq_tt c1)
      ·cases c1
    | sliceS hb st _ _ _ cap' hcc hz =>
     refine ⟨_,exop a w _ (key _ _ _ hX hcc),?_⟩
     rw [Nat.add_assoc]
     exact .sliceS hb _ _ _ _ _ (by omega) (.inl rfl)
    | sliceE i s off c ad c' hz =>
     obtain rfl:hi = 0:=by omega
     obtain rfl:lo = 0:=by omega
     have key0:∃ ad' c'',(Instr.sliceAt t (a.eval x) (low.map a.eval) (high.map a.eval) none).run P w = .ok (.slice ad' 0 c'') w:=by
      unfold Instr.sliceAt
      rw [hX]
      simp only [Sem.run_bind,underlying_run hu,Result.andThen_ok,Instr.slice,sliceBounds_run hL hH (Nat.le_refl 0) (Nat.zero_le c'),sizeOf_run hsz,Sem.run_pure]
      exact ⟨_,_,rfl⟩
     obtain ⟨ad',c'',key0⟩:=key0
     exact ⟨_,exop a w _ key0,.sliceE _ _ _ _ _ _ (.inl rfl)⟩
  ·simp at hx
 ·rename_i m e i off sp lo hi hs' hu hρ
  split at hx
  ·rename_i sz o1 o2 hsz hb1 hb2
   cases hc:(Nat.ble lo hi && Nat.ble hi m && (low.isSome || Nat.beq lo 0) && (high.isSome || Nat.beq hi m) && (Nat.beq lo 0 || Nat.blt lo m)) <;> rw [hc] at hx
   ·simp at hx
   ·simp only [cond_true,Option.some.injEq] at hx;subst hx
    simp only [Bool.and_eq_true,Bool.or_eq_true] at hc
    obtain ⟨⟨⟨⟨c1,c2⟩,c3⟩,c4⟩,c5⟩:=hc
    have c1:=ble_tt c1;have c2:=ble_tt c2
    refine .quiet rfl rfl fun μ a w hg hxs hr => ?_
    obtain ⟨hv,hlo,hhi,_⟩:=opx μ a hxs
    have B1:=bound_spec (a:=a) hb1 (fun q hq => hob q (by simp [silent,hq])) hlo
    have B2:=bound_spec (a:=a) hb2 (fun q hq => hob q (by simp [silent,hq])) hhi
    rw [hρ] at hv
    have hL:(low.map a.eval = none ∧ lo = 0) ∨ ∃ k,low.map a.eval = some (.int k (lo:Int)):=by
     rcases B1 with rfl | hk
     ·exact .inl ⟨rfl,by simpa using beq_tt (c3.resolve_left (by simp))⟩
     ·exact .inr hk
    have hH:(high.map a.eval = none ∧ hi = m) ∨ ∃ k,high.map a.eval = some (.int k (hi:Int)):=by
     rcases B2 with rfl | hk
     ·exact .inl ⟨rfl,beq_tt (c4.resolve_left (by simp))⟩
     ·exact .inr hk
    have key:∀ b o',a.eval x = .pointer (some ⟨b,o',none⟩) → (Instr.sliceAt t (a.eval x) (low.map a.eval) (high.map a.eval) none).run P w = .ok (.slice (some ⟨b,o' + lo * sz,none⟩) (hi - lo) (m - lo)) w:=by
     intro b o' he
     unfold Instr.sliceAt
     rw [he]
     simp only [Sem.run_bind,underlying_run hu,Result.andThen_ok,Instr.sureAddr,Sem.run_pure,sliceBounds_run hL hH c1 c2,sizeOf_run hsz]
     by_cases hm:m = lo
     ·rw [if_pos hm]
      have hlo0:lo = 0:=by
       rcases c5 with c5 | c5
       ·exact beq_tt c5
       ·have:=blt_tt c5;omega
      subst hlo0
      simp
     ·rw [if_neg hm]
      simp [at_add]
    refine (show ∃ rv,_ from ?_)
    generalize hX:a.eval x = X at hv
    cases hv with
    | ptr hb _ => exact ⟨_,exop a w _ (key _ _ hX),.slice hb _ _ _ _ (by omega) (.inl rfl)⟩
    | ptrS hb st _ =>
     refine ⟨_,exop a w _ (key _ _ hX),?_⟩
     rw [Nat.add_assoc]
     exact .sliceS hb _ _ _ _ _ (by omega) (.inl rfl)
  ·simp at hx
 ·rename_i s lo hi hs' hu hρ
  split at hx
  ·rename_i o1 o2 hb1 hb2
   cases hc:(Nat.ble lo hi && Nat.ble hi s.size && (low.isSome || Nat.beq lo 0) && (high.isSome || Nat.beq hi s.size)) <;> rw [hc] at hx
   ·simp at hx
   ·simp only [cond_true,Option.some.injEq] at hx;subst hx
    simp only [Bool.and_eq_true,Bool.or_eq_true] at hc
    obtain ⟨⟨⟨c1,c2⟩,c3⟩,c4⟩:=hc
    have c1:=ble_tt c1;have c2:=ble_tt c2
    refine .quiet rfl rfl fun μ a w hg hxs hr => ?_
    obtain ⟨hv,hlo,hhi,_⟩:=opx μ a hxs
    have B1:=bound_spec (a:=a) hb1 (fun q hq => hob q (by simp [silent,hq])) hlo
    have B2:=bound_spec (a:=a) hb2 (fun q hq => hob q (by simp [silent,hq])) hhi
    rw [hρ] at hv
    have hL:(low.map a.eval = none ∧ lo = 0) ∨ ∃ k,low.map a.eval = some (.int k (lo:Int)):=by
     rcases B1 with rfl | hk
     ·exact .inl ⟨rfl,by simpa using beq_tt (c3.resolve_left (by simp))⟩
     ·exact .inr hk
    have hH:(high.map a.eval = none ∧ hi = s.size) ∨ ∃ k,high.map a.eval = some (.int k (hi:Int)):=by
     rcases B2 with rfl | hk
     ·exact .inl ⟨rfl,beq_tt (c4.resolve_left (by simp))⟩
     ·exact .inr hk
    refine ⟨_,exop a w (.string (s.extract lo hi)) ?_,.string _⟩
    have he:a.eval x = .string s:=by
     revert hv;generalize a.eval x = X;intro hv;cases hv;rfl
    unfold Instr.sliceAt
    rw [he]
    simp only [Sem.run_bind,underlying_run hu,Result.andThen_ok,Instr.slice,Option.map_none,Option.isSome_none,Bool.false_eq_true,if_false,sliceBounds_run hL hH c1 c2,Sem.run_pure]
  ·simp at hx
 ·rename_i s hs' hu hρ
  split at hx
  ·rename_i y
   split at hx
   ·rename_i k i hi
    simp only [Option.some.injEq] at hx;subst hx
    have hb:0 ≤ i ∧ i ≤ (s.size:Int):=hob _ (by simp [silent])
    refine .quiet rfl rfl fun μ a w hg hxs hr => ?_
    obtain ⟨hv,_,hhi,_⟩:=opx μ a hxs
    have h2:=hhi y rfl
    rw [hρ] at hv
    rw [hi] at h2
    refine ⟨_,exop a w (.string (s.extract 0 i.toNat)) ?_,.string _⟩
    simp only [Option.map_some,Option.map_none]
    revert hv h2
    generalize a.eval x = X
    generalize a.eval y = Y
    intro hv h2
    cases hv;cases h2
    simp [Instr.sliceAt,underlying_run hu,Instr.slice,Instr.sliceBounds,Instr.sliceBound,asIntOf,hb]
   ·simp at hx
  ·rename_i yl yh
   split at hx
   ·rename_i k i k' j hl hi
    simp only [Option.some.injEq] at hx;subst hx
    have hb:0 ≤ i ∧ i ≤ j ∧ j ≤ (s.size:Int):=hob _ (by simp [silent])
    refine .quiet rfl rfl fun μ a w hg hxs hr => ?_
    obtain ⟨hv,hlo,hhi,_⟩:=opx μ a hxs
    have h1:=hlo yl rfl
    have h2:=hhi yh rfl
    rw [hρ] at hv
    rw [hl] at h1
    rw [hi] at h2
    refine ⟨_,exop a w (.string (s.extract i.toNat j.toNat)) ?_,.string _⟩
    simp only [Option.map_some,Option.map_none]
    revert hv h1 h2
    generalize a.eval x = X
    generalize a.eval yl = Yl
    generalize a.eval yh = Y
    intro hv h1 h2
    cases hv;cases h1;cases h2
    have e1:(i.toNat:Int) = i:=Int.toNat_of_nonneg hb.1
    have e2:(j.toNat:Int) = j:=Int.toNat_of_nonneg (by omega)
    have e3:i.toNat ≤ j.toNat:=by omega
    have e4:j.toNat ≤ s.size:=by omega
    have:=sliceBounds_run (P:=P) (isSlice:=false) (len:=s.size) (cap:=s.size) (lo:=i.toNat) (hi:=j.toNat) (L:=some (.int k i)) (Hh:=some (.int k' j)) (.inr ⟨k,by rw [e1]⟩) (.inr ⟨k',by rw [e2]⟩) e3 e4 w
    simp only [Instr.sliceAt,Sem.run_bind,underlying_run hu,Result.andThen_ok,Instr.slice,Option.isSome_none,Bool.false_eq_true,if_false,this,Sem.run_pure]
   ·simp at hx
  ·simp at hx
 ·simp at hx
theorem oneCell_of {v:Value} (h:storable v = true):v.oneCell' = true:=by
 cases v with
 | chan r => cases r <;> first | rfl | (simp [storable] at h)
 | _ => first | rfl | (simp [storable] at h)
theorem VRels.storables {μ:Mu}:∀ {l m:List Value},VRels μ l m → l.all storable = true → m.all storable = true
 | [],[],_,_ => rfl
 | x :: l,y :: m,h,ha => by
  simp only [List.all_cons,Bool.and_eq_true] at ha ⊢
  cases h with
  | cons a b =>
   refine ⟨?_,VRels.storables b ha.2⟩
   cases a <;> first | rfl | (simp [storable] at ha;done) | (rename_i hr _;obtain ⟨_,_,_,rfl⟩:=hr;rfl)
 | [],_ :: _,h,_ => nomatch h
 | _ :: _,[],h,_ => nomatch h
theorem ycells_ok {P:Program} {H h:HF} {sz m:Nat} {v:Value} {cs:List Value} {rd:List Nat} {ob:List Prop} {ty e':TypeId} (hy:ycells H sz v = some (cs,m,rd,ob)) (hob:∀ q ∈ ob,q) (hrd:∀ i ∈ rd,h i = H i) (hk:P.underlying ty = some (.slice e'))
  (hl:cs.length = m * sz) (hm:1 ≤ m) (h1:1 ≤ sz) (hst:cs.all storable = true) {μ:Mu} {w:World} (r:Rep μ h w) {x:Value} (hv:VRel μ v x):∃ rs,VRels μ cs rs ∧ Src P sz ty x m rs w:=by
 unfold ycells at hy
 split at hy
 ·rename_i i off m' c
  split at hy
  ·rename_i B hB
   cases hg:gets B off (m' * sz) with
   | none => simp [hg] at hy
   | some l =>
    simp only [hg,Option.map_some,Option.some.injEq,Prod.mk.injEq] at hy
    obtain ⟨rfl,rfl,rfl,rfl⟩:=hy
    rw [← hrd i (by simp)] at hB
    obtain ⟨b,hb,cells,ty',fr,he,_,hcs⟩:=r.blk i B hB (.inr hv.slice_ne)
    cases hv with
    | slice hb' _ _ _ cap' hc hz =>
     rw [hb] at hb'
     obtain rfl:b = _:=by simpa using hb'
     obtain ⟨rs,g1,g2,g3⟩:=gets_spec hcs _ _ _ hg
     refine ⟨rs,g1,Src.ofSlice w hk _ _ _ _ (by rw [← g1.length];exact hl) (fun j u hu => by rw [at_add];exact cell_of he (g3 j u hu)) ?_⟩
     intro u hu
     have:=g1.storables hst
     rw [List.all_eq_true] at this
     exact oneCell_of (this u hu)
  ·simp at hy
 ·rename_i z l f
  cases hc:(Nat.beq z sz && Nat.beq (l.length / z * z) l.length) <;> rw [hc] at hy
  ·simp at hy
  ·simp only [cond_true,Option.some.injEq,Prod.mk.injEq] at hy
   obtain ⟨rfl,rfl,rfl,rfl⟩:=hy
   simp only [Bool.and_eq_true] at hc
   obtain rfl:=beq_tt hc.1
   obtain ⟨hsol,hls⟩:=hv.lst_inv (hob _ (by simp))
   rcases hls with ⟨rfl,_⟩ | ⟨h0,_⟩ | ⟨_,b,off,len,cap,cells,rfl,hcap,hlen,hf,hg⟩
   ·simp at hm
   ·omega
   ·obtain ⟨ty',fr,he⟩:=r.frz b cells hf
    have hlm:len = l.length / z:=by rw [← hlen,Nat.mul_div_cancel _ (by omega)]
    subst hlm
    refine ⟨l,.of_solids hsol,Src.ofSlice w hk _ _ _ _ hl (fun j u hu => by rw [at_add];exact cell_of he (hg j u hu)) ?_⟩
    intro u hu
    rw [List.all_eq_true] at hst
    exact oneCell_of (hst u hu)
 ·simp at hy
theorem segsSize_append:∀ (a b:List Seg),segsSize (a ++ b) = segsSize a + segsSize b
 | [],b => by simp [segsSize]
 | x :: a,b => by simp only [List.cons_append,segsSize,segsSize_append a b];omega
theorem segsGet_left:∀ (a b:List Seg) (o:Nat),o < segsSize a → segsGet? (a ++ b) o = segsGet? a o
 | [],b,o,h => by simp [segsSize] at h
 | x :: a,b,o,h => by
  simp only [List.cons_append,segsGet?]
  cases e:Nat.blt o x.size
  ·have h2:=blt_ff e
   simp only [segsSize] at h
   simp only [cond_false]
   exact segsGet_left a b _ (by omega)
  ·rfl
theorem segsGet_right:∀ (a b:List Seg) (o:Nat),segsSize a ≤ o → segsGet? (a ++ b) o = segsGet? b (o - segsSize a)
 | [],b,o,h => by simp [segsSize]
 | x :: a,b,o,h => by
  simp only [segsSize] at h
  simp only [List.cons_append,segsGet?]
  have e:Nat.blt o x.size = false:=by
   cases e:Nat.blt o x.size with
   | false => rfl
   | true => have:=blt_tt e;omega
  rw [e]
  simp only [cond_false]
  rw [segsGet_right a b _ (by omega)]
  congr 1
  simp only [segsSize]
  omega
theorem ones_get (cs:List Value) (t:TypeId) (o:Nat):segsGet? (cs.map .one) o = cs[o]?:=cellsBlk_get cs t o
theorem ones_size (cs:List Value):segsSize (cs.map .one) = cs.length:=cellsBlk_size cs 0
theorem addSegs_spec (l:List Seg) (cs:List Value):segsSize (addSegs l cs) = segsSize l + cs.length ∧ ∀ o v,segsGet? (addSegs l cs) o = some v → (o < segsSize l ∧ segsGet? l o = some v) ∨ (segsSize l ≤ o ∧ cs[o - segsSize l]? = some v):=by
 have gen:segsSize (l ++ cs.map .one) = segsSize l + cs.length ∧ ∀ o v,segsGet? (l ++ cs.map .one) o = some v → (o < segsSize l ∧ segsGet? l o = some v) ∨ (segsSize l ≤ o ∧ cs[o - segsSize l]? = some v):=by
  refine ⟨by rw [segsSize_append,ones_size],fun o v h => ?_⟩
  rcases Nat.lt_or_ge o (segsSize l) with hlt | hge
  ·rw [segsGet_left _ _ _ hlt] at h
   exact .inl ⟨hlt,h⟩
  ·rw [segsGet_right _ _ _ hge,ones_get cs 0] at h
   exact .inr ⟨hge,h⟩
 unfold addSegs
 split
 ·rename_i k n a k' x
  cases e:k == k'
  ·exact gen
  ·have:k = k':=by simpa using e
   subst this
   refine ⟨by simp [segsSize,Seg.size],fun o v h => ?_⟩
   simp only [cond_true,segsGet?,Seg.size] at h
   cases e1:Nat.blt o (n + 1) <;> rw [e1] at h
   ·simp at h
   ·have:=blt_tt e1
    simp only [cond_true,Seg.get?,e1,Option.some.injEq,upd] at h
    simp only [segsSize,Seg.size,Nat.add_zero]
    by_cases ho:o = n
    ·subst ho
     rw [beq_self] at h
     simp at h
     exact .inr ⟨Nat.le_refl _,by simp [h]⟩
    ·rw [beq_ne ho] at h
     simp only [cond_false] at h
     refine .inl ⟨by omega,?_⟩
     have e2:Nat.blt o n = true:=Nat.ble_eq_true_of_le (show o + 1 ≤ n by omega)
     simp only [segsGet?,Seg.size,e2,cond_true,Seg.get?]
     exact congrArg some h
 ·rename_i n sz g
  cases e:Nat.beq cs.length sz
  ·exact gen
  ·have hsz:=beq_tt e
   refine ⟨by simp [segsSize,Seg.size,Nat.add_mul,hsz],fun o v h => ?_⟩
   simp only [cond_true,segsGet?,Seg.size] at h
   cases e1:Nat.blt o ((n + 1) * sz) <;> rw [e1] at h
   ·simp at h
   ·have h1:=blt_tt e1
    simp only [cond_true,Seg.get?,e1,upd] at h
    simp only [segsSize,Seg.size,Nat.add_zero]
    have hpos:0 < sz:=by
     rcases Nat.eq_zero_or_pos sz with h0 | h0
     ·rw [h0] at h1;simp at h1
     ·exact h0
    by_cases ho:o < n * sz
    ·have hq:o / sz < n:=(Nat.div_lt_iff_lt_mul hpos).2 ho
     rw [beq_ne (by omega:o / sz ≠ n)] at h
     refine .inl ⟨ho,?_⟩
     have e2:Nat.blt o (n * sz) = true:=Nat.ble_eq_true_of_le ho
     simp only [segsGet?,Seg.size,e2,cond_true,Seg.get?]
     exact h
    ·have hq:o / sz = n:=by
      have a1:o / sz < n + 1:=(Nat.div_lt_iff_lt_mul hpos).2 h1
      have a2:n ≤ o / sz:=(Nat.le_div_iff_mul_le hpos).2 (by omega)
      omega
     rw [hq,beq_self] at h
     simp only [cond_true] at h
     refine .inr ⟨by omega,?_⟩
     have hm:=Nat.div_add_mod o sz
     rw [hq,Nat.mul_comm] at hm
     rw [show o - n * sz = o % sz by omega]
     exact h
 ·exact gen
theorem firstSegs_spec (sz:Nat) (cs:List Value) (hs:List Hint) (h1:1 ≤ sz):segsSize (firstSegs sz cs hs).1 = cs.length ∧ ∀ o v,segsGet? (firstSegs sz cs hs).1 o = some v → cs[o]? = some v:=by
 have gen:segsSize (cs.map .one) = cs.length ∧ ∀ o v,segsGet? (cs.map .one) o = some v → cs[o]? = some v:=⟨ones_size cs,fun o v h => by rw [ones_get cs 0] at h;exact h⟩
 unfold firstSegs
 split
 ·cases e:Nat.beq cs.length sz
  ·exact gen
  ·have hsz:=beq_tt e
   refine ⟨by simp [segsSize,Seg.size,hsz],fun o v h => ?_⟩
   simp only [cond_true,segsGet?,Seg.size] at h
   cases e1:Nat.blt o (1 * sz) <;> rw [e1] at h
   ·simp at h
   ·have:=blt_tt e1
    simp only [cond_true,Seg.get?,e1] at h
    rw [Nat.mod_eq_of_lt (by omega)] at h
    exact h
 ·split
  ·rename_i k x
   refine ⟨by simp [segsSize,Seg.size],fun o v h => ?_⟩
   simp only [segsGet?,Seg.size] at h
   cases e1:Nat.blt o 1 <;> rw [e1] at h
   ·simp at h
   ·have:=blt_tt e1
    simp only [cond_true,Seg.get?,e1,Option.some.injEq] at h
    have:o = 0:=by omega
    subst this
    simp [h]
  ·exact gen
 ·exact gen
theorem putCells_eq (b:Nat):∀ (vs:List Value) (o:Nat) (w:World),w.setCells b o vs = World.putCells w b o vs
 | [],_,_ => rfl
 | v :: r,o,w => by simp only [World.setCells,World.putCells];exact putCells_eq b r (o + 1) _
theorem putCells_heap (b:Nat):∀ (vs:List Value) (o:Nat) (w:World) (cs:Array Value) (t:TypeId),w.heap[b]? = some (.cells cs t (0,0)) → o + vs.length ≤ cs.size →
  ∃ ds,(World.putCells w b o vs).heap[b]? = some (.cells ds t (0,0)) ∧ ds.size = cs.size ∧ (∀ j,(j < o ∨ o + vs.length ≤ j) → ds[j]? = cs[j]?) ∧ (∀ j,j < vs.length → ds[o + j]? = vs[j]?) ∧
   (World.putCells w b o vs).heap.size = w.heap.size ∧ (World.putCells w b o vs).os = w.os ∧ (World.putCells w b o vs).tape = w.tape ∧ (World.putCells w b o vs).output = w.output ∧ ∀ k,k ≠ b → (World.putCells w b o vs).heap[k]? = w.heap[k]?
 | [],o,w,cs,t,he,_ => ⟨cs,he,rfl,fun _ _ => rfl,fun j hj => by simp at hj,rfl,rfl,rfl,rfl,fun _ _ => rfl⟩
 | v :: r,o,w,cs,t,he,hle => by
  simp only [List.length_cons] at hle
  have h1:(w.setCell ⟨b,o,none⟩ v).heap[b]? = some (.cells (cs.setIfInBounds o v) t (0,0)):=by
   have:=heap_setCell_same w b o cs t v he
   simpa using this
  obtain ⟨ds,a1,a2,a3,a4,a5,a6,a7,a8,a9⟩:=putCells_heap b r (o + 1) _ _ t h1 (by simp;omega)
  simp only [World.putCells]
  refine ⟨ds,a1,by simpa using a2,?_,?_,by simpa using a5,a6,a7,a8,?_⟩
  ·intro j hj
   simp only [List.length_cons] at hj
   rw [a3 j (by omega),Array.getElem?_setIfInBounds_ne (by omega)]
  ·intro j hj
   simp only [List.length_cons] at hj
   cases j with
   | zero => rw [a3 (o + 0) (by omega)];simp [Array.getElem?_setIfInBounds,show o < cs.size by omega]
   | succ j => rw [show o + (j + 1) = o + 1 + j by omega,a4 j (by omega)];simp
  ·intro k hk
   rw [a9 k hk]
   exact heap_setCell_other w ⟨b,o,none⟩ k v hk
theorem Rep.spare {μ:Mu} {h:HF} {w:World} (r:Rep μ h w) {i b o:Nat} {A:Blk} {vs:List Value} (hi:h i = some A) (hro:A.ro = false) (hb:μ i = some b) (ho:A.size ≤ o) {cs:Array Value} {t:TypeId} (he:w.heap[b]? = some (.cells cs t (0,0))) (hle:o + vs.length ≤ cs.size) :
  Rep μ h (World.putCells w b o vs) ∧ Keeps μ h w μ h (World.putCells w b o vs):=by
 obtain ⟨ds,a1,a2,a3,a4,a5,a6,a7,a8,a9⟩:=putCells_heap b vs o w cs t he hle
 constructor
 ·refine ⟨?_,r.apart,?_,?_,?_,r.nofz⟩
  ·intro j C hj hne
   obtain ⟨c,hc,cs',t',fr',e',h1,h2⟩:=r.blk j C hj hne
   refine ⟨c,hc,?_⟩
   by_cases hcb:c = b
   ·subst hcb
    have hji:j = i:=by
     by_cases hji:j = i
     ·exact hji
     ·have:=(r.apart j i C A c hj hi hc hb hji).2
      rw [hro] at this;cases this
    subst hji
    rw [hi] at hj
    obtain rfl:A = C:=by simpa using hj
    rw [he] at e'
    cases e'
    refine ⟨ds,t,(0,0),a1,fun hr => by obtain ⟨p,q,s⟩:=h1 hr;exact ⟨p,q,by rw [a2];exact s⟩,fun off v hv => ?_⟩
    have hlt:off < A.size:=segsGet_lt hv
    rw [a3 off (by omega)]
    exact h2 off v hv
   ·exact ⟨cs',t',fr',by rw [a9 c hcb];exact e',h1,h2⟩
  ·intro j c hj
   rw [a5];exact r.bound j c hj
  ·intro j C c hj hCr hjc
   obtain ⟨cs',t',fr',e',hs⟩:=r.size j C c hj hCr hjc
   by_cases hcb:c = b
   ·subst hcb
    rw [he] at e';cases e'
    exact ⟨ds,t,(0,0),a1,a2.trans hs⟩
   ·exact ⟨cs',t',fr',by rw [a9 c hcb];exact e',hs⟩
  ·intro c cs' hf
   have hcb:c ≠ b:=by
    rintro rfl
    rw [r.nofz i A c hi hro hb] at hf
    cases hf
   rw [a9 c hcb]
   exact r.frz c cs' hf
 ·refine ⟨a6,a7,a8,by omega,?_,fun j C k hj hjk _ => ⟨j,C,hj,hjk,id⟩,fun _ _ => rfl,fun _ _ h => h,fun _ _ h => .inl h⟩
  intro k hk hno
  exact a9 k fun hkb => hno ⟨i,A,hi,hro,by rw [hkb];exact hb⟩
theorem VRel.tag {μ:Mu} {i l c:Nat} {r:Value} (h:VRel μ (.slice (some ⟨i,0,none⟩) l c) r):VRel μ (.slice (some ⟨i,0,some 0⟩) l c) r:=by
 cases h with
 | slice e _ _ _ c' hc hz => exact VRel.sliceS e 0 0 l c c' hc (hz.imp id fun k => by simpa using k)
theorem xappend_ok {P : Program} {ρ : Operand → Value} {H h : HF} {n : Nat} {hs : List Hint} {c : Call} {out : Out} {o : Oper} (hx : xappend P ρ H n hs c = some out) (hob : ∀ q ∈ out.ob, q) (hrd : ∀ i ∈ out.rd, h i = H i) (ho : o.op = .call c) (hc : c.callee = .builtin .append) : OpSpec P o ρ h out := by
  unfold xappend at hx
  split at hx
  case h_2 => simp at hx
  case h_1 tx ty x y hty hargs =>
  split at hx
  case h_2 => simp at hx
  case h_1 e e' hux huy =>
  split at hx
  case h_2 => simp at hx
  case h_1 inf hi =>
  split at hx
  case h_2 => simp at hx
  case h_1 cs m rd ob hyc =>
  cases hcc : (Nat.ble 1 inf.size && Nat.ble inf.bytes 1048576 && zeroOk inf && Nat.ble 1 m && Nat.beq cs.length (m * inf.size) && cs.all storable) <;> rw [hcc] at hx
  · simp at hx
  simp only [cond_true] at hx
  simp only [Bool.and_eq_true] at hcc
  obtain ⟨⟨⟨⟨⟨c1, c2⟩, c3⟩, c4⟩, c5⟩, c6⟩ := hcc
  have c1 := ble_tt c1; have c2 := ble_tt c2; have c4 := ble_tt c4; have c5 := beq_tt c5
  obtain ⟨z, hz, hzs⟩ : ∃ z, inf.zero = some z ∧ z.cells.size = inf.size := by
    unfold zeroOk at c3
    cases hz : inf.zero with
    | none => simp [hz] at c3
    | some z => simp only [hz] at c3; exact ⟨z, rfl, by simpa using beq_tt c3⟩
  have hz0 := hz
  have htys : c.argTypes = #[tx, ty] := by apply Array.ext'; simpa using hty
  have hexec : ∀ (a : Act) (w w' : World) (rv : Value), (Builtin.append_ #[tx, ty] o.type #[a.eval x, a.eval y]).run P w = .ok rv w' → (execOp a.eval o).run P w = .ok (.value rv) w' := by
    intro a w w' rv hrun
    have two : c.args.map a.eval = #[a.eval x, a.eval y] := by apply Array.ext'; simp [hargs]
    unfold execOp
    simp only [ho, resolve, hc, Sem.run_bind, Sem.run_pure, Result.andThen_ok, invoke, builtin, two, htys, hrun]
  have hops : ∀ (μ : Mu) (a : Act), (∀ q ∈ o.op.operands, VRel μ (ρ q) (a.eval q)) → VRel μ (ρ x) (a.eval x) ∧ VRel μ (ρ y) (a.eval y) := by
    intro μ a hxs
    have hm : x ∈ c.args ∧ y ∈ c.args := by
      constructor
      · have : x ∈ c.args.toList := by rw [hargs]; simp
        simpa using this
      · have : y ∈ c.args.toList := by rw [hargs]; simp
        simpa using this
    exact ⟨hxs x (by rw [ho]; simp [Op.operands, Call.operands, hc, hm.1]), hxs y (by rw [ho]; simp [Op.operands, Call.operands, hc, hm.2])⟩
  have rowsize : ∀ (k N : Nat) (l : List Value), l.length = k * inf.size → k ≤ N → (l.toArray ++ Builtin.zeroCells z.cells (N - k)).size = N * inf.size := by
    intro k N l hl hk
    have e1 : (Builtin.zeroCells z.cells (N - k)).size = (N - k) * inf.size := by simp [Builtin.zeroCells, hzs]
    have e2 : (N - k) * inf.size + k * inf.size = N * inf.size := by rw [← Nat.add_mul, show N - k + k = N by omega]
    rw [Array.size_append, e1]
    simp only [List.size_toArray, hl]
    omega
  have grown : ∀ (h : HF) (μ : Mu) (w : World) (S : List Seg) (all rest : List Value) (k N : Nat), all.length = k * inf.size → k ≤ N → segsSize S = all.length → (∀ μ' : Mu, μ.le μ' → ∀ o v, segsGet? S o = some v → ∃ y, all[o]? = some y ∧ VRel μ' v y) → Rep μ h w.drew → μ n = none →
      ∃ μ' : Mu, μ.le μ' ∧ (∀ i, i ≠ n → μ' i = μ i) ∧ Rep μ' (upd1 h (n, .blk { segs := S, ty := e, ro := false })) (w.drew.alloc (.cells (all.toArray ++ Builtin.zeroCells z.cells (N - k)) e)) ∧
        VRel μ' (.slice (some ⟨n, 0, none⟩) k inf.size) (.slice (some ⟨w.heap.size, 0, none⟩) k N) ∧ Keeps μ h w μ' (upd1 h (n, .blk { segs := S, ty := e, ro := false })) (w.drew.alloc (.cells (all.toArray ++ Builtin.zeroCells z.cells (N - k)) e)) := by
    intro h μ w S all rest k N hall hkN hS hget hr' hnn
    obtain ⟨hle, hrep, hkeep⟩ := hr'.new (i := n) (B := { segs := S, ty := e, ro := false }) (t := e) (cs := all.toArray ++ Builtin.zeroCells z.cells (N - k)) hnn (fun μ' hl => by
      refine ⟨_, _, _, rfl, fun _ => ⟨rfl, rfl, ?_⟩, fun off v hv => ?_⟩
      · simp only [Blk.size, hS]; simp
      · obtain ⟨y, hy1, hy2⟩ := hget μ' hl off v hv
        refine ⟨y, ?_, hy2⟩
        have hlt := (List.getElem?_eq_some_iff.1 hy1).1
        rw [Array.getElem?_append_left (by simpa using hlt)]
        simpa using hy1)
    refine ⟨_, hle, fun i hi => by simp [hi], hrep, ?_, (Keeps.drew μ h w).trans hkeep⟩
    refine .slice (by simp) 0 k inf.size N hkN (.inr ?_)
    have := rowsize k N all hall hkN
    simp only [Nat.zero_add]
    rw [if_pos (show w.heap.size = w.drew.heap.size from rfl), this]
    exact Nat.le_refl _
  have fresh : ∀ (S : List Seg) (hs' : List Hint) (pre : List Prop), segsSize S = cs.length → (∀ o v, segsGet? S o = some v → cs[o]? = some v) → (∀ (μ : Mu) (X : Value), VRel μ (ρ x) X → ∃ ad, X = .slice ad 0 0) →
      out = { v := .slice (some ⟨n, 0, none⟩) m inf.size, eff := [(n, .blk { segs := S, ty := e, ro := false })], rd, sh := [], new := [n], n := n + 1, hs := hs', ob := pre ++ (m ≤ 1048576) :: ob } → OpSpec P o ρ h out := by
    intro S hs' pre hS1 hS2 hX he
    subst he
    intro μ a w hg hxs hr hn K Q hk
    obtain ⟨hvx, hvy⟩ := hops μ a hxs
    obtain ⟨ad, hX⟩ := hX μ _ hvx
    obtain ⟨rs, hrs, hsrc⟩ := ycells_ok (P := P) hyc (fun q hq => hob q (by simp [hq])) hrd huy c5 c4 c1 c6 hr hvy
    have hm : m ≤ 1048576 := hob _ (by simp)
    have hrun := run_append_grow_src w tx ty o.type e inf z hux hi hz ad 0 0 [] (by
      cases ad with
      | none => exact run_firstCells_none w.drew _ _ _ _
      | some ad => exact run_firstCells_some w.drew inf.size 0 ad 0 0 [] (by simp) (by simp)) (a.eval y) m rs hsrc (by omega) (by omega)
      (growslice_fits (by omega) (by
        have : (0 + m) * inf.bytes ≤ 1048576 * 1048576 := Nat.mul_le_mul (by omega) c2
        omega))
    rw [← hX] at hrun
    have hrun := hexec a w _ _ hrun
    simp only [Nat.zero_add, List.nil_append] at hrun
    have hge := grownCap_ge w m 0 e
    obtain ⟨μ', h1, h2, h3, h4, h5⟩ := grown h μ w S rs [] m (grownCap w m 0 e) (by rw [← hrs.length]; exact c5) hge (by rw [hS1]; exact hrs.length) (fun μ' hl o v hv => (hrs.mono hl).get o v (hS2 o v hv)) (hr.heap_eq rfl) (hn n (by simp))
    exact wp_of_value hrun (hk μ' _ _ h1 (fun i hi => h2 i (by simpa using hi)) h3 h4 h5)
  have grow : ∀ (i len : Nat) (B : Blk) (S : List Seg), h i = some B → B.ro = false → B.ty = e → len + m ≤ 1048576 → B.size = len * inf.size → addSegs B.segs cs = S → ∀ (μ : Mu) (a : Act) (w : World), Rep μ h w → μ n = none → VRel μ (ρ y) (a.eval y) → (∀ q ∈ ob, q) → (∀ j ∈ rd, h j = H j) →
      VRel μ (.slice (some ⟨i, 0, none⟩) len inf.size) (a.eval x) → ∃ (w' : World) (rv : Value) (μ' : Mu), (execOp a.eval o).run P w = .ok (.value rv) w' ∧ μ.le μ' ∧ (∀ k, k ≠ n → μ' k = μ k) ∧ Rep μ' (upd1 (upd1 h (i, .del)) (n, .blk { segs := S, ty := e, ro := false })) w' ∧
        VRel μ' (.slice (some ⟨n, 0, none⟩) (len + m) inf.size) rv ∧ Keeps μ h w μ' (upd1 (upd1 h (i, .del)) (n, .blk { segs := S, ty := e, ro := false })) w' := by
    intro i len B S hBh d2 d3 hneed hBs hS μ a w hr hnn hvy hobq hrdq hvx
    subst hS
    obtain ⟨rs, hrs, hsrc⟩ := ycells_ok (P := P) hyc hobq hrdq huy c5 c4 c1 c6 hr hvy
    have hlr : rs.length = m * inf.size := by rw [← hrs.length]; exact c5
    obtain ⟨b, hb, cells, tb, fr, he, hrw, hcs⟩ := hr.blk i B hBh (.inr hvx.slice_ne)
    obtain ⟨rfl, rfl, hle⟩ := hrw d2
    obtain ⟨cells', tb', fr', he', hszb⟩ := hr.size i B b hBh d2 hb
    rw [he] at he'
    cases he'
    generalize hX : a.eval x = X at hvx
    obtain ⟨S1, S2⟩ := addSegs_spec B.segs cs
    have hS1 : segsSize (addSegs B.segs cs) = (len + m) * inf.size := by
      rw [S1, c5, Nat.add_mul, ← hBs]; rfl
    have hni : n ≠ i := by rintro rfl; rw [hb] at hnn; cases hnn
    cases hvx with
    | slice hb' _ _ _ cap' hc hz2 =>
      rw [hb] at hb'
      obtain rfl : b = _ := by simpa using hb'
      have hroomy : 0 + cap' * inf.size ≤ cells.size := by
        rcases hz2 with hz2 | hz2
        · omega
        · rw [hszb]; exact hz2
      rw [Nat.zero_add] at hroomy
      by_cases hroom : len + m ≤ cap'
      · -- there is room
        have hfit : len * inf.size + rs.length ≤ cells.size := by
          rw [hlr, ← Nat.add_mul]
          exact Nat.le_trans (Nat.mul_le_mul_right _ hroom) hroomy
        have hrun := run_append_room_src w tx ty o.type e inf hux hi b 0 len cap' (a.eval y) m rs hsrc hroom
          (fun j hj => by
            rw [Nat.zero_add, cell_of he (Array.getElem?_eq_getElem (by omega : len * inf.size + j < cells.size))]; rfl)
          (fun j hj => by unfold World.frozen?; rw [he]; simp)
        rw [← hX] at hrun
        have hrun := hexec a w _ _ hrun
        rw [Nat.zero_add, putCells_eq] at hrun
        obtain ⟨ds, p1, p2, p3, p4, p5, p6, p7, p8, p9⟩ := putCells_heap b rs (len * inf.size) w cells B.ty he hfit
        obtain ⟨hr1, hk1⟩ := hr.spare (vs := rs) hBh d2 hb (by rw [hBs]; exact Nat.le_refl _) he hfit
        obtain ⟨hle2, hr2, hk2⟩ := hr1.more (j := n) (B := { segs := addSegs B.segs cs, ty := e, ro := false }) hBh d2 hb hnn (fun μ' hl => by
          rw [p1]
          refine ⟨ds, B.ty, (0, 0), rfl, fun _ => ⟨d3, rfl, ?_⟩, fun off v hv => ?_⟩
          · simp only [Blk.size, hS1, p2]
            exact Nat.le_trans (Nat.mul_le_mul_right _ hroom) hroomy
          · have hBz : segsSize B.segs = len * inf.size := hBs
            rcases S2 off v hv with ⟨g1, g2⟩ | ⟨g1, g2⟩
            · obtain ⟨y, hy1, hy2⟩ := hcs off v g2
              exact ⟨y, by rw [p3 off (by omega)]; exact hy1, hy2.mono hl⟩
            · obtain ⟨y, hy1, hy2⟩ := (hrs.mono hl).get _ v g2
              have hlt := (List.getElem?_eq_some_iff.1 hy1).1
              refine ⟨y, ?_, hy2⟩
              rw [hBz] at hlt hy1 g1
              rw [show off = len * inf.size + (off - len * inf.size) by omega, p4 _ hlt]
              simpa using hy1) rfl
        refine ⟨_, _, _, hrun, hle2, ?_, hr2, ?_, hk1.trans hk2⟩
        · intro k hk'
          simp [hk']
        · exact .slice (by simp) 0 (len + m) inf.size cap' hroom (.inr (by rw [Nat.zero_add]; simp only; rw [← hszb]; exact hroomy))
      · -- there is none
        have hall : ∃ olds : List Value, olds.length = len * inf.size ∧ (∀ (j : Nat) (v : Value), olds[j]? = some v → cells[j]? = some v) ∧ ∀ (j : Nat), j < len * inf.size → olds[j]? = cells[j]? := by
          refine ⟨cells.toList.take (len * inf.size), ?_, ?_, ?_⟩
          · rw [List.length_take]
            have : len * inf.size ≤ cells.size := by rw [← hBs]; exact hle
            simp; omega
          · intro j v hj
            rw [List.getElem?_take] at hj
            split at hj
            · simpa using hj
            · cases hj
          · intro j hj
            rw [List.getElem?_take, if_pos hj]
            simp
        obtain ⟨olds, ol, og, og2⟩ := hall
        have hold : (Builtin.firstCells inf.size len (.slice (some ⟨b, 0, none⟩) len cap')).run P w.drew = .ok olds.toArray w.drew :=
          run_firstCells_some w.drew inf.size len ⟨b, 0, none⟩ len cap' olds ol (fun j v hj => by rw [at_add, Nat.zero_add]; exact cell_of (w := w.drew) he (og j v hj))
        have hrun := run_append_grow_src w tx ty o.type e inf z hux hi hz (some ⟨b, 0, none⟩) len cap' olds hold (a.eval y) m rs hsrc (by omega) (by omega)
          (growslice_fits (by omega) (by
            have : (len + m) * inf.bytes ≤ 1048576 * 1048576 := Nat.mul_le_mul hneed c2
            omega))
        rw [← hX] at hrun
        have hrun := hexec a w _ _ hrun
        have hge := grownCap_ge w (len + m) cap' e
        obtain ⟨hr1, hk1⟩ := hr.del i
        have hall : (olds ++ rs).length = (len + m) * inf.size := by rw [List.length_append, ol, hlr, Nat.add_mul]
        obtain ⟨μ', q1, q2, q3, q4, q5⟩ := grown (upd1 h (i, .del)) μ w (addSegs B.segs cs) (olds ++ rs) [] (len + m) (grownCap w (len + m) cap' e) hall hge (by rw [hS1, hall]) (fun μ' hl o v hv => by
          have hBz : segsSize B.segs = len * inf.size := hBs
          rcases S2 o v hv with ⟨g1, g2⟩ | ⟨g1, g2⟩
          · obtain ⟨y, hy1, hy2⟩ := hcs o v g2
            exact ⟨y, by rw [List.getElem?_append_left (by omega), og2 o (by omega)]; exact hy1, hy2.mono hl⟩
          · obtain ⟨y, hy1, hy2⟩ := (hrs.mono hl).get _ v g2
            exact ⟨y, by rw [List.getElem?_append_right (by omega), ol, ← hBz]; exact hy1, hy2⟩) (hr1.heap_eq rfl) hnn
        exact ⟨_, _, μ', hrun, q1, q2, q3, q4, hk1.trans q5⟩
  split at hx
  · rename_i hρ
    simp only [Option.some.injEq] at hx
    obtain ⟨f1, f2⟩ := firstSegs_spec inf.size cs hs c1
    exact fresh _ _ [] f1 f2 (fun μ X hv => by rw [hρ] at hv; cases hv; exact ⟨_, rfl⟩) hx.symm
  · rename_i f hρ
    simp only [Option.some.injEq] at hx
    obtain ⟨f1, f2⟩ := firstSegs_spec inf.size cs hs c1
    have hf : f = true := hob _ (by rw [← hx]; simp)
    refine fresh _ _ [f = true] f1 f2 (fun μ X hv => ?_) hx.symm
    rw [hρ] at hv
    obtain ⟨_, hl⟩ := hv.lst_inv hf
    rcases hl with ⟨_, rfl⟩ | ⟨_, _, ad, rfl⟩ | ⟨h0, _⟩
    · exact ⟨_, rfl⟩
    · exact ⟨_, rfl⟩
    · exact absurd rfl h0
  · rename_i i len z' hρ
    split at hx
    · rename_i B hB
      cases hc2 : (Nat.beq z' inf.size && !B.ro && Nat.beq B.ty e) <;> rw [hc2] at hx
      · simp at hx
      simp only [cond_true, Option.some.injEq] at hx; subst hx
      simp only [Bool.and_eq_true, Bool.not_eq_true'] at hc2
      obtain ⟨⟨d1, d2⟩, d3⟩ := hc2
      obtain rfl := beq_tt d1
      intro μ a w hg hxs hr hn K Q hk
      obtain ⟨hvx, hvy⟩ := hops μ a hxs
      rw [hρ] at hvx
      obtain ⟨w', rv, μ', g1, g2, g3, g4, g5, g6⟩ := grow i len B _ (by rw [hrd i (by simp)]; exact hB) d2 (beq_tt d3) (hob _ (by simp)) (hob _ (by simp)) rfl μ a w hr (hn n (by simp)) hvy (fun q hq => hob q (by simp [hq])) (fun j hj => hrd j (by simp [hj])) hvx
      exact wp_of_value g1 (hk μ' _ _ g2 (fun k hk' => g3 k (by simpa using hk')) g4 g5 g6)
    · simp at hx
  · rename_i i len z' hρ
    split at hx
    · rename_i B l hs' hB
      cases hc2 : (Nat.beq z' inf.size && !B.ro && Nat.beq B.ty e) <;> rw [hc2] at hx
      · simp at hx
      simp only [cond_true, Option.some.injEq] at hx; subst hx
      simp only [Bool.and_eq_true, Bool.not_eq_true'] at hc2
      obtain ⟨⟨d1, d2⟩, d3⟩ := hc2
      obtain rfl := beq_tt d1
      intro μ a w hg hxs hr hn K Q hk
      obtain ⟨hvx, hvy⟩ := hops μ a hxs
      rw [hρ] at hvx
      have hBh : h i = some B := by rw [hrd i (by simp)]; exact hB
      have hSl : addSegs B.segs cs = l := hob _ (by simp)
      have hneed : len + m ≤ 1048576 := hob _ (by simp)
      have hBs : B.size = len * inf.size := hob _ (by simp)
      have hnn : μ n = none := hn n (by simp)
      generalize hX : a.eval x = X at hvx
      cases hvx with
      | sliceS hb _ _ _ _ cap' hc hz =>
        obtain ⟨w', rv, μ', g1, g2, g3, g4, g5, g6⟩ := grow i len B l hBh d2 (beq_tt d3) hneed hBs hSl μ a w hr hnn hvy (fun q hq => hob q (by simp [hq])) (fun j hj => hrd j (by simp [hj])) (by
          rw [hX]; exact .slice hb 0 len inf.size cap' hc (hz.imp id fun k => by simpa using k))
        refine wp_of_value g1 (hk μ' _ _ g2 (fun k hk' => g3 k (by simpa using hk')) g4 g5.tag g6)
      | sliceE _ _ _ _ ad cap' hz =>
        obtain rfl : cap' = 0 := hz.resolve_left (by omega)
        obtain ⟨rs, hrs, hsrc⟩ := ycells_ok (P := P) hyc (fun q hq => hob q (by simp [hq])) (fun j hj => hrd j (by simp [hj])) huy c5 c4 c1 c6 hr hvy
        have hrun := run_append_grow_src w tx ty o.type e inf z hux hi hz0 ad 0 0 [] (by
          cases ad with
          | none => exact run_firstCells_none w.drew _ _ _ _
          | some ad => exact run_firstCells_some w.drew inf.size 0 ad 0 0 [] (by simp) (by simp)) (a.eval y) m rs hsrc (by omega) (by omega)
          (growslice_fits (by omega) (by
            have : (0 + m) * inf.bytes ≤ 1048576 * 1048576 := Nat.mul_le_mul (by omega) c2
            omega))
        rw [← hX] at hrun
        have hrun := hexec a w _ _ hrun
        simp only [Nat.zero_add, List.nil_append] at hrun
        have hge := grownCap_ge w m 0 e
        obtain ⟨hr1, hk1⟩ := hr.del i
        obtain ⟨S1, S2⟩ := addSegs_spec B.segs cs
        have hB0 : segsSize B.segs = 0 := by have : B.size = 0 := by simpa using hBs
                                             exact this
        obtain ⟨μ', q1, q2, q3, q4, q5⟩ := grown (upd1 h (i, .del)) μ w l rs [] m (grownCap w m 0 e) (by rw [← hrs.length]; exact c5) hge (by rw [← hSl, S1, hB0, hrs.length]; omega) (fun μ' hl o v hv => by
          rw [← hSl] at hv
          rcases S2 o v hv with ⟨g1, _⟩ | ⟨g1, g2⟩
          · omega
          · rw [hB0, Nat.sub_zero] at g2
            exact (hrs.mono hl).get o v g2) (hr1.heap_eq rfl) hnn
        refine wp_of_value hrun (hk μ' _ _ q1 (fun k hk' => q2 k (by simpa using hk')) q3 ?_ (hk1.trans q5))
        simp only [Nat.zero_add]
        exact q4.tag
    · simp at hx
  · simp at hx
theorem Rep.bare {μ:Mu} {h:HF} {w:World} (r:Rep μ h w) {n:Nat} {B:Blk} (hn:μ n = none) (hB:B.size = 0):Rep μ (upd1 h (n,.blk B)) w ∧ Keeps μ h w μ (upd1 h (n,.blk B)) w:=by
 have ho:∀ i A b,upd1 h (n,.blk B) i = some A → μ i = some b → h i = some A:=by
  intro i A b hi hb
  by_cases e:i = n
  ·subst e;rw [hn] at hb;cases hb
  ·rwa [upd1_other e] at hi
 refine ⟨⟨?_,?_,r.bound,?_,r.frz,?_⟩,⟨rfl,rfl,rfl,Nat.le_refl _,fun _ _ _ => rfl,?_,fun _ _ => rfl,fun _ _ h => h,fun _ _ h => .inl h⟩⟩
 ·intro i A hi hne
  by_cases e:i = n
  ·subst e
   rw [upd1_same] at hi
   obtain rfl:B = A:=by simpa using hi
   rcases hne with hne | hne
   ·exact absurd hB hne
   ·exact absurd hn hne
  ·rw [upd1_other e] at hi;exact r.blk i A hi hne
 ·intro i j A C b hi hj hib hjb hij
  exact r.apart i j A C b (ho i A b hi hib) (ho j C b hj hjb) hib hjb hij
 ·intro i A b hi hro hb
  exact r.size i A b (ho i A b hi hb) hro hb
 ·intro i A b hi hro hb
  exact r.nofz i A b (ho i A b hi hb) hro hb
 ·intro i A b hi hb _
  exact ⟨i,A,ho i A b hi hb,hb,id⟩
theorem run_append_none {P:Program} (w:World) (t tx ty e:TypeId) (i:TypeInfo) (ht:P.underlying t = some (.slice e)) (hi:P.info? e = some i) (base:Option Addr) (x:Value) (hs:Src P i.size tx x 0 [] w) :
  (Builtin.append_ #[t,tx] ty #[.slice base 0 0,x]).run P w = .ok (.slice base 0 0) w:=by
 have h2:=hs.cells
 rcases hs.kind with ⟨e',hk⟩ | hk <;> cases base <;> simp [Builtin.append_,run_underlying ht,run_underlying hk,sizeOf,typeInfo,hi,hs.len,h2,storeCells]
theorem xappendL_ok {P:Program} {ρ:Operand → Value} {H h:HF} {n:Nat} {hs:List Hint} {c:Call} {out:Out} {o:Oper} (hx:xappendL P ρ H n hs c = some out) (hob:∀ q ∈ out.ob,q) (hrd:∀ i ∈ out.rd,h i = H i) (ho:o.op = .call c) (hc:c.callee = .builtin .append):OpSpec P o ρ h out:=by
 unfold xappendL at hx
 split at hx
 case h_2 => simp at hx
 case h_1 tx ty x y hty hargs =>
 split at hx
 case h_2 => simp at hx
 case h_1 e e' hux huy =>
 split at hx
 case h_2 => simp at hx
 case h_1 inf hi =>
 split at hx
 case h_2 => simp at hx
 case h_1 f j m z' hρx hρy =>
 split at hx
 case h_2 => simp at hx
 case h_1 B hB =>
 cases hcc:(Nat.ble 1 inf.size && Nat.ble inf.bytes 1048576 && zeroOk inf && Nat.beq z' inf.size) <;> rw [hcc] at hx
 ·simp at hx
 simp only [cond_true,Option.some.injEq] at hx
 subst hx
 simp only [Bool.and_eq_true] at hcc
 obtain ⟨⟨⟨c1,c2⟩,c3⟩,c4⟩:=hcc
 have c1:=ble_tt c1;have c2:=ble_tt c2
 obtain rfl:=beq_tt c4
 obtain ⟨z,hz,hzs⟩:∃ z,inf.zero = some z ∧ z.cells.size = inf.size:=by
  unfold zeroOk at c3
  cases hz:inf.zero with
  | none => simp [hz] at c3
  | some z => simp only [hz] at c3;exact ⟨z,rfl,by simpa using beq_tt c3⟩
 have htys:c.argTypes = #[tx,ty]:=by apply Array.ext';simpa using hty
 have hexec:∀ (a:Act) (w w':World) (rv:Value),(Builtin.append_ #[tx,ty] o.type #[a.eval x,a.eval y]).run P w = .ok rv w' → (execOp a.eval o).run P w = .ok (.value rv) w':=by
  intro a w w' rv hrun
  have two:c.args.map a.eval = #[a.eval x,a.eval y]:=by apply Array.ext';simp [hargs]
  unfold execOp
  simp only [ho,resolve,hc,Sem.run_bind,Sem.run_pure,Result.andThen_ok,invoke,builtin,two,htys,hrun]
 have hops:∀ (μ:Mu) (a:Act),(∀ q ∈ o.op.operands,VRel μ (ρ q) (a.eval q)) → VRel μ (ρ x) (a.eval x) ∧ VRel μ (ρ y) (a.eval y):=by
  intro μ a hxs
  have hm:x ∈ c.args ∧ y ∈ c.args:=by
   constructor
   ·have:x ∈ c.args.toList:=by rw [hargs];simp
    simpa using this
   ·have:y ∈ c.args.toList:=by rw [hargs];simp
    simpa using this
  exact ⟨hxs x (by rw [ho];simp [Op.operands,Call.operands,hc,hm.1]),hxs y (by rw [ho];simp [Op.operands,Call.operands,hc,hm.2])⟩
 have hf:f = true:=hob _ (by simp)
 have hm:m ≤ 1048576:=hob _ (by simp)
 have hBs:B.size = m * inf.size:=hob _ (by simp)
 have hst:AllStor B.segs (m * inf.size):=hob _ (by simp)
 intro μ a w hg hxs hr hn K Q hk
 obtain ⟨hvx,hvy⟩:=hops μ a hxs
 rw [hρx] at hvx
 rw [hρy] at hvy
 have hBh:h j = some B:=by rw [hrd j (by simp)];exact hB
 have hnn:μ n = none:=hn n (by simp)
 obtain ⟨ad,hX⟩:∃ ad,a.eval x = .slice ad 0 0:=by
  obtain ⟨_,hl⟩:=hvx.lst_inv hf
  rcases hl with ⟨_,hl⟩ | ⟨_,_,ad,hl⟩ | ⟨h0,_⟩
  ·exact ⟨_,hl⟩
  ·exact ⟨_,hl⟩
  ·exact absurd rfl h0
 generalize hY:a.eval y = Y at hvy
 by_cases hm0:m = 0
 ·-- nothing
  subst hm0
  have hsrc:Src P inf.size ty Y 0 [] w:=by
   cases hvy with
   | sliceS _ _ _ _ _ cap' _ _ => exact Src.ofSlice w huy _ 0 cap' [] (by simp) (by simp) (by simp)
   | sliceE _ _ _ _ ad' cap' _ =>
    cases ad' with
    | none => exact Src.ofNil w huy cap'
    | some ad' => exact Src.ofSlice w huy _ 0 cap' [] (by simp) (by simp) (by simp)
  have hrun:=run_append_none w tx ty o.type e inf hux hi ad Y hsrc
  rw [← hX,← hY] at hrun
  have hrun:=hexec a w _ _ hrun
  rw [hX] at hrun
  obtain ⟨hr1,hk1⟩:=hr.bare (B:={ segs:=B.segs,ty:=e,ro:=false }) hnn (by show segsSize B.segs = 0;have:segsSize B.segs = 0 * inf.size:=hBs;omega)
  exact wp_of_value hrun (hk μ _ _ ⟨fun _ _ h => h,fun _ _ _ => rfl,fun _ _ h => h⟩ (fun _ _ => rfl) hr1 (.sliceE _ _ _ _ _ _ (.inr rfl)) hk1)
 ·-- a new row
  have hBk:segsSize B.segs = m * inf.size:=hBs
  cases hvy with
  | sliceE _ _ _ _ _ _ _ => exact absurd rfl hm0
  | sliceS hb _ _ _ _ cap' hcap hzz =>
   obtain ⟨b',hb',cells,ty',fr,he,hrw,hcs⟩:=hr.blk j B hBh (.inr (by rw [hb];exact fun h => nomatch h))
   rw [hb] at hb'
   obtain rfl:_ = b':=by simpa using hb'
   have hge:m * inf.size ≤ cells.size:=by
    rcases Nat.lt_or_ge cells.size (m * inf.size) with hlt | hge
    ·obtain ⟨v,hv,_⟩:=hst _ hlt
     obtain ⟨y,hy,_⟩:=hcs _ v hv
     have:=(Array.getElem?_eq_some_iff.1 hy).1
     omega
    ·exact hge
   have hrl:(cells.toList.take (m * inf.size)).length = m * inf.size:=by rw [List.length_take];simp;omega
   have hrg:∀ q,q < m * inf.size → (cells.toList.take (m * inf.size))[q]? = cells[q]?:=by
    intro q hq
    rw [List.getElem?_take,if_pos hq];simp
   generalize cells.toList.take (m * inf.size) = rs at hrl hrg
   have hone:∀ u ∈ rs,u.oneCell' = true:=by
    intro u hu
    obtain ⟨q,hq,rfl⟩:=List.mem_iff_getElem.1 hu
    rw [hrl] at hq
    obtain ⟨v,hv,hsv⟩:=hst q hq
    obtain ⟨y,hy,hvr⟩:=hcs q v hv
    have hyq:rs[q]? = some y:=by rw [hrg q hq];exact hy
    rw [List.getElem?_eq_getElem (by omega)] at hyq
    obtain rfl:rs[q] = y:=by simpa using hyq
    have:=(VRels.cons hvr .nil).storables (by simp [hsv])
    exact oneCell_of (by simpa using this)
   have hsrc:=Src.ofSlice (P:=P) w huy (⟨_,0 + 0,none⟩:Addr) m cap' rs hrl (fun q u hu => by rw [at_add];exact cell_of he (by
    have hq:q < m * inf.size:=by have:=(List.getElem?_eq_some_iff.1 hu).1;omega
    simp only [Nat.zero_add];rw [← hrg q hq];exact hu)) hone
   have hold:(Builtin.firstCells inf.size 0 (.slice ad 0 0)).run P w.drew = .ok ([]:List Value).toArray w.drew:=by
    cases ad with
    | none => exact run_firstCells_none w.drew _ _ _ _
    | some ad => exact run_firstCells_some w.drew inf.size 0 ad 0 0 [] (by simp) (by simp)
   have hrun:=run_append_grow_src w tx ty o.type e inf z hux hi hz ad 0 0 [] hold _ m rs hsrc (by omega) (by omega)
    (growslice_fits (by omega) (by
     have:(0 + m) * inf.bytes ≤ 1048576 * 1048576:=Nat.mul_le_mul (by omega) c2
     omega))
   rw [← hX,← hY] at hrun
   have hrun:=hexec a w _ _ hrun
   simp only [Nat.zero_add,List.nil_append] at hrun
   have hgc:=grownCap_ge w m 0 e
   generalize grownCap w m 0 e = N at hrun hgc
   have hsz:(rs.toArray ++ Builtin.zeroCells z.cells (N - m)).size = N * inf.size:=by
    have e1:(Builtin.zeroCells z.cells (N - m)).size = (N - m) * inf.size:=by simp [Builtin.zeroCells,hzs]
    have e2:(N - m) * inf.size + m * inf.size = N * inf.size:=by rw [← Nat.add_mul,show N - m + m = N by omega]
    rw [Array.size_append,e1]
    simp only [List.size_toArray,hrl]
    omega
   obtain ⟨hle,hrep,hkeep⟩:=(hr.heap_eq (w':=w.drew) rfl).new (i:=n) (B:={ segs:=B.segs,ty:=e,ro:=false }) (t:=e) (cs:=rs.toArray ++ Builtin.zeroCells z.cells (N - m)) hnn (fun μ' hl => by
    refine ⟨_,_,_,rfl,fun _ => ⟨rfl,rfl,?_⟩,fun off v hv => ?_⟩
    ·show segsSize B.segs ≤ _
     rw [hBk];simp only [Array.size_append,List.size_toArray,hrl];omega
    ·obtain ⟨y,hy1,hy2⟩:=hcs off v hv
     have hoff:off < m * inf.size:=by have:off < segsSize B.segs:=segsGet_lt hv;omega
     refine ⟨y,?_,hy2.mono hl⟩
     rw [Array.getElem?_append_left (by simp only [List.size_toArray];omega)]
     rw [← hy1,← hrg off hoff];simp)
   refine wp_of_value hrun (hk _ _ _ hle (fun i hi => by simp at hi;simp [hi]) hrep ?_ ((Keeps.drew μ h w).trans hkeep))
   refine VRel.sliceS (by simp) 0 0 m inf.size N hgc (.inr ?_)
   simp only [Nat.zero_add]
   rw [if_pos (show w.heap.size = w.drew.heap.size from rfl),hsz]
   exact Nat.le_refl _
end Go.Proofs.Ytgnhhnmpeklciaa.VX
namespace Go.Proofs.Ytgnhhnmpeklciaa.VX
open Go
theorem winL_len (f:Nat → Value):∀ (m o:Nat),(winL f o m).length = m
 | 0,_ => rfl
 | m + 1,o => by simp [winL,winL_len f m]
theorem winL_get (f:Nat → Value):∀ (m o j:Nat),(winL f o m)[j]? = if j < m then some (f (o + j)) else none
 | 0,_,j => by simp [winL]
 | m + 1,o,0 => by simp [winL]
 | m + 1,o,j + 1 => by
  simp only [winL,List.getElem?_cons_succ,winL_get f m (o + 1) j,Nat.add_lt_add_iff_right]
  rw [show o + 1 + j = o + (j + 1) by omega]
theorem ycellsW_ok {P:Program} {H h:HF} {sz m:Nat} {v:Value} {cs:List Value} {rd:List Nat} {ob:List Prop} {ty e':TypeId} (hy:ycellsW H v = some (cs,m,rd,ob)) (hob:∀ q ∈ ob,q) (hrd:∀ i ∈ rd,h i = H i) (hk:P.underlying ty = some (.slice e'))
  (hl:cs.length = m * sz) (hm:1 ≤ m) (h1:1 ≤ sz) (hst:cs.all storable = true) {μ:Mu} {w:World} (r:Rep μ h w) {x:Value} (hv:VRel μ v x):∃ rs,VRels μ cs rs ∧ Src P sz ty x m rs w:=by
 unfold ycellsW at hy
 split at hy
 case h_2 => simp at hy
 case h_1 i off s m' c =>
 split at hy
 case h_2 => simp at hy
 case h_1 B hB =>
 split at hy
 case h_2 => simp at hy
 case h_1 k n a hs =>
 simp only [Option.some.injEq,Prod.mk.injEq] at hy
 obtain ⟨rfl,rfl,rfl,rfl⟩:=hy
 have hn:off + m' ≤ n:=hob _ (by simp)
 rw [← hrd i (by simp)] at hB
 cases hv with
 | sliceE _ _ _ _ _ _ _ => omega
 | sliceS hb _ _ _ _ cap' hc hz =>
  obtain ⟨b',hb',cells,ty',fr,he,_,hcs⟩:=r.blk i B hB (.inr (by rw [hb];exact fun h => nomatch h))
  rw [hb] at hb'
  obtain rfl:_ = b':=by simpa using hb'
  have hget:∀ j,j < m' → cells[s + (off + j)]? = some (.int k (a (off + j))):=by
   intro j hj
   have hs1:Seg.get? (.ints k n a) (off + j) = some (.int k (a (off + j))):=by
    have:Nat.blt (off + j) n = true:=by rw [Nat.blt_eq];omega
    simp [Seg.get?,this]
   obtain ⟨y,hy,hvy⟩:=hcs _ _ (segAt_get hs _ _ hs1)
   cases hvy
   exact hy
  have hst':=hst
  refine ⟨winL (fun o => .int k (a (off + o))) 0 m',VRels.of_scalars (by
   rw [List.all_eq_true]
   intro u hu
   obtain ⟨q,hq,rfl⟩:=List.mem_iff_getElem.1 hu
   have:=winL_get (fun o => Value.int k (a (off + o))) m' 0 q
   rw [List.getElem?_eq_getElem hq] at this
   split at this
   ·obtain h:=Option.some.inj this;rw [h];rfl
   ·cases this),Src.ofSlice w hk _ _ _ _ hl (fun j u hu => by
    rw [at_add]
    refine cell_of he ?_
    rw [winL_get] at hu
    split at hu
    ·rename_i hj
     obtain rfl:=Option.some.inj hu
     have:=hget j hj
     simp only [Nat.zero_add]
     rw [show s + off + j = s + (off + j) by omega]
     exact this
    ·cases hu) ?_⟩
  intro u hu
  rw [List.all_eq_true] at hst
  exact oneCell_of (hst u hu)
theorem xappendW_ok {P : Program} {ρ : Operand → Value} {H h : HF} {n : Nat} {l : List Seg} {hs : List Hint} {c : Call} {out : Out} {o : Oper} (hx : xappendW P ρ H n l hs c = some out) (hob : ∀ q ∈ out.ob, q) (hrd : ∀ i ∈ out.rd, h i = H i) (ho : o.op = .call c) (hc : c.callee = .builtin .append) : OpSpec P o ρ h out := by
  unfold xappendW at hx
  split at hx
  case h_2 => simp at hx
  case h_1 tx ty x y hty hargs =>
  split at hx
  case h_2 => simp at hx
  case h_1 e e' hux huy =>
  split at hx
  case h_2 => simp at hx
  case h_1 inf hi =>
  split at hx
  case h_2 => simp at hx
  case h_1 cs m rd ob hyc =>
  cases hcc : (Nat.ble 1 inf.size && Nat.ble inf.bytes 1048576 && zeroOk inf && Nat.ble 1 m && Nat.beq cs.length (m * inf.size) && cs.all storable) <;> rw [hcc] at hx
  · simp at hx
  simp only [cond_true] at hx
  simp only [Bool.and_eq_true] at hcc
  obtain ⟨⟨⟨⟨⟨c1, c2⟩, c3⟩, c4⟩, c5⟩, c6⟩ := hcc
  have c1 := ble_tt c1; have c2 := ble_tt c2; have c4 := ble_tt c4; have c5 := beq_tt c5
  obtain ⟨z, hz, hzs⟩ : ∃ z, inf.zero = some z ∧ z.cells.size = inf.size := by
    unfold zeroOk at c3
    cases hz : inf.zero with
    | none => simp [hz] at c3
    | some z => simp only [hz] at c3; exact ⟨z, rfl, by simpa using beq_tt c3⟩
  have hz0 := hz
  have htys : c.argTypes = #[tx, ty] := by apply Array.ext'; simpa using hty
  have hexec : ∀ (a : Act) (w w' : World) (rv : Value), (Builtin.append_ #[tx, ty] o.type #[a.eval x, a.eval y]).run P w = .ok rv w' → (execOp a.eval o).run P w = .ok (.value rv) w' := by
    intro a w w' rv hrun
    have two : c.args.map a.eval = #[a.eval x, a.eval y] := by apply Array.ext'; simp [hargs]
    unfold execOp
    simp only [ho, resolve, hc, Sem.run_bind, Sem.run_pure, Result.andThen_ok, invoke, builtin, two, htys, hrun]
  have hops : ∀ (μ : Mu) (a : Act), (∀ q ∈ o.op.operands, VRel μ (ρ q) (a.eval q)) → VRel μ (ρ x) (a.eval x) ∧ VRel μ (ρ y) (a.eval y) := by
    intro μ a hxs
    have hm : x ∈ c.args ∧ y ∈ c.args := by
      constructor
      · have : x ∈ c.args.toList := by rw [hargs]; simp
        simpa using this
      · have : y ∈ c.args.toList := by rw [hargs]; simp
        simpa using this
    exact ⟨hxs x (by rw [ho]; simp [Op.operands, Call.operands, hc, hm.1]), hxs y (by rw [ho]; simp [Op.operands, Call.operands, hc, hm.2])⟩
  have rowsize : ∀ (k N : Nat) (l : List Value), l.length = k * inf.size → k ≤ N → (l.toArray ++ Builtin.zeroCells z.cells (N - k)).size = N * inf.size := by
    intro k N l hl hk
    have e1 : (Builtin.zeroCells z.cells (N - k)).size = (N - k) * inf.size := by simp [Builtin.zeroCells, hzs]
    have e2 : (N - k) * inf.size + k * inf.size = N * inf.size := by rw [← Nat.add_mul, show N - k + k = N by omega]
    rw [Array.size_append, e1]
    simp only [List.size_toArray, hl]
    omega
  have grown : ∀ (h : HF) (μ : Mu) (w : World) (S : List Seg) (all rest : List Value) (k N : Nat), all.length = k * inf.size → k ≤ N → segsSize S = all.length → (∀ μ' : Mu, μ.le μ' → ∀ o v, segsGet? S o = some v → ∃ y, all[o]? = some y ∧ VRel μ' v y) → Rep μ h w.drew → μ n = none →
      ∃ μ' : Mu, μ.le μ' ∧ (∀ i, i ≠ n → μ' i = μ i) ∧ Rep μ' (upd1 h (n, .blk { segs := S, ty := e, ro := false })) (w.drew.alloc (.cells (all.toArray ++ Builtin.zeroCells z.cells (N - k)) e)) ∧
        VRel μ' (.slice (some ⟨n, 0, none⟩) k inf.size) (.slice (some ⟨w.heap.size, 0, none⟩) k N) ∧ Keeps μ h w μ' (upd1 h (n, .blk { segs := S, ty := e, ro := false })) (w.drew.alloc (.cells (all.toArray ++ Builtin.zeroCells z.cells (N - k)) e)) := by
    intro h μ w S all rest k N hall hkN hS hget hr' hnn
    obtain ⟨hle, hrep, hkeep⟩ := hr'.new (i := n) (B := { segs := S, ty := e, ro := false }) (t := e) (cs := all.toArray ++ Builtin.zeroCells z.cells (N - k)) hnn (fun μ' hl => by
      refine ⟨_, _, _, rfl, fun _ => ⟨rfl, rfl, ?_⟩, fun off v hv => ?_⟩
      · simp only [Blk.size, hS]; simp
      · obtain ⟨y, hy1, hy2⟩ := hget μ' hl off v hv
        refine ⟨y, ?_, hy2⟩
        have hlt := (List.getElem?_eq_some_iff.1 hy1).1
        rw [Array.getElem?_append_left (by simpa using hlt)]
        simpa using hy1)
    refine ⟨_, hle, fun i hi => by simp [hi], hrep, ?_, (Keeps.drew μ h w).trans hkeep⟩
    refine .slice (by simp) 0 k inf.size N hkN (.inr ?_)
    have := rowsize k N all hall hkN
    simp only [Nat.zero_add]
    rw [if_pos (show w.heap.size = w.drew.heap.size from rfl), this]
    exact Nat.le_refl _
  have fresh : ∀ (S : List Seg) (hs' : List Hint) (pre : List Prop), segsSize S = cs.length → (∀ o v, segsGet? S o = some v → cs[o]? = some v) → (∀ (μ : Mu) (X : Value), VRel μ (ρ x) X → ∃ ad, X = .slice ad 0 0) →
      out = { v := .slice (some ⟨n, 0, some 0⟩) m inf.size, eff := [(n, .blk { segs := S, ty := e, ro := false })], rd, sh := [], new := [n], n := n + 1, hs := hs', ob := pre ++ (m ≤ 1048576) :: ob } → OpSpec P o ρ h out := by
    intro S hs' pre hS1 hS2 hX he
    subst he
    intro μ a w hg hxs hr hn K Q hk
    obtain ⟨hvx, hvy⟩ := hops μ a hxs
    obtain ⟨ad, hX⟩ := hX μ _ hvx
    obtain ⟨rs, hrs, hsrc⟩ := ycellsW_ok (P := P) hyc (fun q hq => hob q (by simp [hq])) hrd huy c5 c4 c1 c6 hr hvy
    have hm : m ≤ 1048576 := hob _ (by simp)
    have hrun := run_append_grow_src w tx ty o.type e inf z hux hi hz ad 0 0 [] (by
      cases ad with
      | none => exact run_firstCells_none w.drew _ _ _ _
      | some ad => exact run_firstCells_some w.drew inf.size 0 ad 0 0 [] (by simp) (by simp)) (a.eval y) m rs hsrc (by omega) (by omega)
      (growslice_fits (by omega) (by
        have : (0 + m) * inf.bytes ≤ 1048576 * 1048576 := Nat.mul_le_mul (by omega) c2
        omega))
    rw [← hX] at hrun
    have hrun := hexec a w _ _ hrun
    simp only [Nat.zero_add, List.nil_append] at hrun
    have hge := grownCap_ge w m 0 e
    obtain ⟨μ', h1, h2, h3, h4, h5⟩ := grown h μ w S rs [] m (grownCap w m 0 e) (by rw [← hrs.length]; exact c5) hge (by rw [hS1]; exact hrs.length) (fun μ' hl o v hv => (hrs.mono hl).get o v (hS2 o v hv)) (hr.heap_eq rfl) (hn n (by simp))
    exact wp_of_value hrun (hk μ' _ _ h1 (fun i hi => h2 i (by simpa using hi)) h3 h4.tag h5)
  have grow : ∀ (i len : Nat) (B : Blk) (S : List Seg), h i = some B → B.ro = false → B.ty = e → len + m ≤ 1048576 → B.size = len * inf.size → Behind B.segs cs S → ∀ (μ : Mu) (a : Act) (w : World), Rep μ h w → μ n = none → VRel μ (ρ y) (a.eval y) → (∀ q ∈ ob, q) → (∀ j ∈ rd, h j = H j) →
      VRel μ (.slice (some ⟨i, 0, none⟩) len inf.size) (a.eval x) → ∃ (w' : World) (rv : Value) (μ' : Mu), (execOp a.eval o).run P w = .ok (.value rv) w' ∧ μ.le μ' ∧ (∀ k, k ≠ n → μ' k = μ k) ∧ Rep μ' (upd1 (upd1 h (i, .del)) (n, .blk { segs := S, ty := e, ro := false })) w' ∧
        VRel μ' (.slice (some ⟨n, 0, none⟩) (len + m) inf.size) rv ∧ Keeps μ h w μ' (upd1 (upd1 h (i, .del)) (n, .blk { segs := S, ty := e, ro := false })) w' := by
    intro i len B S hBh d2 d3 hneed hBs hS μ a w hr hnn hvy hobq hrdq hvx
    obtain ⟨rs, hrs, hsrc⟩ := ycellsW_ok (P := P) hyc hobq hrdq huy c5 c4 c1 c6 hr hvy
    have hlr : rs.length = m * inf.size := by rw [← hrs.length]; exact c5
    obtain ⟨b, hb, cells, tb, fr, he, hrw, hcs⟩ := hr.blk i B hBh (.inr hvx.slice_ne)
    obtain ⟨rfl, rfl, hle⟩ := hrw d2
    obtain ⟨cells', tb', fr', he', hszb⟩ := hr.size i B b hBh d2 hb
    rw [he] at he'
    cases he'
    generalize hX : a.eval x = X at hvx
    obtain ⟨S1, S2⟩ := hS
    have hS1 : segsSize S = (len + m) * inf.size := by
      rw [S1, c5, Nat.add_mul, ← hBs]; rfl
    have hni : n ≠ i := by rintro rfl; rw [hb] at hnn; cases hnn
    cases hvx with
    | slice hb' _ _ _ cap' hc hz2 =>
      rw [hb] at hb'
      obtain rfl : b = _ := by simpa using hb'
      have hroomy : 0 + cap' * inf.size ≤ cells.size := by
        rcases hz2 with hz2 | hz2
        · omega
        · rw [hszb]; exact hz2
      rw [Nat.zero_add] at hroomy
      by_cases hroom : len + m ≤ cap'
      · -- there is room
        have hfit : len * inf.size + rs.length ≤ cells.size := by
          rw [hlr, ← Nat.add_mul]
          exact Nat.le_trans (Nat.mul_le_mul_right _ hroom) hroomy
        have hrun := run_append_room_src w tx ty o.type e inf hux hi b 0 len cap' (a.eval y) m rs hsrc hroom
          (fun j hj => by
            rw [Nat.zero_add, cell_of he (Array.getElem?_eq_getElem (by omega : len * inf.size + j < cells.size))]; rfl)
          (fun j hj => by unfold World.frozen?; rw [he]; simp)
        rw [← hX] at hrun
        have hrun := hexec a w _ _ hrun
        rw [Nat.zero_add, putCells_eq] at hrun
        obtain ⟨ds, p1, p2, p3, p4, p5, p6, p7, p8, p9⟩ := putCells_heap b rs (len * inf.size) w cells B.ty he hfit
        obtain ⟨hr1, hk1⟩ := hr.spare (vs := rs) hBh d2 hb (by rw [hBs]; exact Nat.le_refl _) he hfit
        obtain ⟨hle2, hr2, hk2⟩ := hr1.more (j := n) (B := { segs := S, ty := e, ro := false }) hBh d2 hb hnn (fun μ' hl => by
          rw [p1]
          refine ⟨ds, B.ty, (0, 0), rfl, fun _ => ⟨d3, rfl, ?_⟩, fun off v hv => ?_⟩
          · simp only [Blk.size, hS1, p2]
            exact Nat.le_trans (Nat.mul_le_mul_right _ hroom) hroomy
          · have hBz : segsSize B.segs = len * inf.size := hBs
            rcases S2 off v hv with ⟨g1, g2⟩ | ⟨g1, g2⟩
            · obtain ⟨y, hy1, hy2⟩ := hcs off v g2
              exact ⟨y, by rw [p3 off (by omega)]; exact hy1, hy2.mono hl⟩
            · obtain ⟨y, hy1, hy2⟩ := (hrs.mono hl).get _ v g2
              have hlt := (List.getElem?_eq_some_iff.1 hy1).1
              refine ⟨y, ?_, hy2⟩
              rw [hBz] at hlt hy1 g1
              rw [show off = len * inf.size + (off - len * inf.size) by omega, p4 _ hlt]
              simpa using hy1) rfl
        refine ⟨_, _, _, hrun, hle2, ?_, hr2, ?_, hk1.trans hk2⟩
        · intro k hk'
          simp [hk']
        · exact .slice (by simp) 0 (len + m) inf.size cap' hroom (.inr (by rw [Nat.zero_add]; simp only; rw [← hszb]; exact hroomy))
      · -- there is none
        have hall : ∃ olds : List Value, olds.length = len * inf.size ∧ (∀ (j : Nat) (v : Value), olds[j]? = some v → cells[j]? = some v) ∧ ∀ (j : Nat), j < len * inf.size → olds[j]? = cells[j]? := by
          refine ⟨cells.toList.take (len * inf.size), ?_, ?_, ?_⟩
          · rw [List.length_take]
            have : len * inf.size ≤ cells.size := by rw [← hBs]; exact hle
            simp; omega
          · intro j v hj
            rw [List.getElem?_take] at hj
            split at hj
            · simpa using hj
            · cases hj
          · intro j hj
            rw [List.getElem?_take, if_pos hj]
            simp
        obtain ⟨olds, ol, og, og2⟩ := hall
        have hold : (Builtin.firstCells inf.size len (.slice (some ⟨b, 0, none⟩) len cap')).run P w.drew = .ok olds.toArray w.drew :=
          run_firstCells_some w.drew inf.size len ⟨b, 0, none⟩ len cap' olds ol (fun j v hj => by rw [at_add, Nat.zero_add]; exact cell_of (w := w.drew) he (og j v hj))
        have hrun := run_append_grow_src w tx ty o.type e inf z hux hi hz (some ⟨b, 0, none⟩) len cap' olds hold (a.eval y) m rs hsrc (by omega) (by omega)
          (growslice_fits (by omega) (by
            have : (len + m) * inf.bytes ≤ 1048576 * 1048576 := Nat.mul_le_mul hneed c2
            omega))
        rw [← hX] at hrun
        have hrun := hexec a w _ _ hrun
        have hge := grownCap_ge w (len + m) cap' e
        obtain ⟨hr1, hk1⟩ := hr.del i
        have hall : (olds ++ rs).length = (len + m) * inf.size := by rw [List.length_append, ol, hlr, Nat.add_mul]
        obtain ⟨μ', q1, q2, q3, q4, q5⟩ := grown (upd1 h (i, .del)) μ w S (olds ++ rs) [] (len + m) (grownCap w (len + m) cap' e) hall hge (by rw [hS1, hall]) (fun μ' hl o v hv => by
          have hBz : segsSize B.segs = len * inf.size := hBs
          rcases S2 o v hv with ⟨g1, g2⟩ | ⟨g1, g2⟩
          · obtain ⟨y, hy1, hy2⟩ := hcs o v g2
            exact ⟨y, by rw [List.getElem?_append_left (by omega), og2 o (by omega)]; exact hy1, hy2.mono hl⟩
          · obtain ⟨y, hy1, hy2⟩ := (hrs.mono hl).get _ v g2
            exact ⟨y, by rw [List.getElem?_append_right (by omega), ol, ← hBz]; exact hy1, hy2⟩) (hr1.heap_eq rfl) hnn
        exact ⟨_, _, μ', hrun, q1, q2, q3, q4, hk1.trans q5⟩
  split at hx
  · rename_i f hρ
    simp only [Option.some.injEq] at hx
    have hbe : Behind [] cs l := hob _ (by rw [← hx]; simp)
    obtain ⟨f1, f2⟩ := hbe
    have f1 : segsSize l = cs.length := by simpa [segsSize] using f1
    have f2 : ∀ o v, segsGet? l o = some v → cs[o]? = some v := fun o v hv => by
      rcases f2 o v hv with ⟨g1, _⟩ | ⟨_, g2⟩
      · simp [segsSize] at g1
      · simpa [segsSize] using g2
    have hf : f = true := hob _ (by rw [← hx]; simp)
    refine fresh _ _ [f = true, Behind [] cs l] f1 f2 (fun μ X hv => ?_) hx.symm
    rw [hρ] at hv
    obtain ⟨_, hl⟩ := hv.lst_inv hf
    rcases hl with ⟨_, rfl⟩ | ⟨_, _, ad, rfl⟩ | ⟨h0, _⟩
    · exact ⟨_, rfl⟩
    · exact ⟨_, rfl⟩
    · exact absurd rfl h0
  · rename_i i len z' hρ
    split at hx
    · rename_i B hB
      cases hc2 : (Nat.beq z' inf.size && !B.ro && Nat.beq B.ty e) <;> rw [hc2] at hx
      · simp at hx
      simp only [cond_true, Option.some.injEq] at hx; subst hx
      simp only [Bool.and_eq_true, Bool.not_eq_true'] at hc2
      obtain ⟨⟨d1, d2⟩, d3⟩ := hc2
      obtain rfl := beq_tt d1
      intro μ a w hg hxs hr hn K Q hk
      obtain ⟨hvx, hvy⟩ := hops μ a hxs
      rw [hρ] at hvx
      have hBh : h i = some B := by rw [hrd i (by simp)]; exact hB
      have hSl : Behind B.segs cs l := hob _ (by simp)
      have hneed : len + m ≤ 1048576 := hob _ (by simp)
      have hBs : B.size = len * inf.size := hob _ (by simp)
      have hnn : μ n = none := hn n (by simp)
      generalize hX : a.eval x = X at hvx
      cases hvx with
      | sliceS hb _ _ _ _ cap' hc hz =>
        obtain ⟨w', rv, μ', g1, g2, g3, g4, g5, g6⟩ := grow i len B l hBh d2 (beq_tt d3) hneed hBs hSl μ a w hr hnn hvy (fun q hq => hob q (by simp [hq])) (fun j hj => hrd j (by simp [hj])) (by
          rw [hX]; exact .slice hb 0 len inf.size cap' hc (hz.imp id fun k => by simpa using k))
        refine wp_of_value g1 (hk μ' _ _ g2 (fun k hk' => g3 k (by simpa using hk')) g4 g5.tag g6)
      | sliceE _ _ _ _ ad cap' hz =>
        obtain rfl : cap' = 0 := hz.resolve_left (by omega)
        obtain ⟨rs, hrs, hsrc⟩ := ycellsW_ok (P := P) hyc (fun q hq => hob q (by simp [hq])) (fun j hj => hrd j (by simp [hj])) huy c5 c4 c1 c6 hr hvy
        have hrun := run_append_grow_src w tx ty o.type e inf z hux hi hz0 ad 0 0 [] (by
          cases ad with
          | none => exact run_firstCells_none w.drew _ _ _ _
          | some ad => exact run_firstCells_some w.drew inf.size 0 ad 0 0 [] (by simp) (by simp)) (a.eval y) m rs hsrc (by omega) (by omega)
          (growslice_fits (by omega) (by
            have : (0 + m) * inf.bytes ≤ 1048576 * 1048576 := Nat.mul_le_mul (by omega) c2
            omega))
        rw [← hX] at hrun
        have hrun := hexec a w _ _ hrun
        simp only [Nat.zero_add, List.nil_append] at hrun
        have hge := grownCap_ge w m 0 e
        obtain ⟨hr1, hk1⟩ := hr.del i
        obtain ⟨S1, S2⟩ := hSl
        have hB0 : segsSize B.segs = 0 := by have : B.size = 0 := by simpa using hBs
                                             exact this
        obtain ⟨μ', q1, q2, q3, q4, q5⟩ := grown (upd1 h (i, .del)) μ w l rs [] m (grownCap w m 0 e) (by rw [← hrs.length]; exact c5) hge (by rw [S1, hB0, hrs.length]; omega) (fun μ' hl o v hv => by
          rcases S2 o v hv with ⟨g1, _⟩ | ⟨g1, g2⟩
          · omega
          · rw [hB0, Nat.sub_zero] at g2
            exact (hrs.mono hl).get o v g2) (hr1.heap_eq rfl) hnn
        refine wp_of_value hrun (hk μ' _ _ q1 (fun k hk' => q2 k (by simpa using hk')) q3 ?_ (hk1.trans q5))
        simp only [Nat.zero_add]
        exact q4.tag
    · simp at hx
  · simp at hx
theorem xeqNilT_ok {P:Program} {ρ:Operand → Value} {n:Nat} {hs:List Hint} {t:TypeId} {x y:Operand} {out:Out} {o:Oper} {h:HF} {g:TypeId} (hx:xeqNilT P ρ n hs t x y = some out) (hob:∀ q ∈ out.ob,q) (ho:o.op = .binOp .eql t x y g):OpSpec P o ρ h out:=by
 unfold xeqNilT at hx
 split at hx
 ·rename_i hρx hρy
  cases he:eqv P 10000 t (.slice (some ⟨0,0,none⟩) 0 0) (.slice none 0 0) with
  | none => rw [he] at hx;simp at hx
  | some c =>
   rw [he] at hx
   simp only [Option.map_some,Option.some.injEq] at hx;subst hx
   refine .quiet rfl rfl fun μ a w hg hxs hr => ⟨.bool c,?_,.bool c⟩
   have hvx:=hxs x (by rw [ho];simp [Op.operands])
   have hvy:=hxs y (by rw [ho];simp [Op.operands])
   rw [hρx] at hvx
   rw [hρy] at hvy
   unfold execOp
   simp only [ho,Sem.run_bind]
   generalize a.eval x = X at hvx ⊢
   generalize a.eval y = Y at hvy ⊢
   cases hvy
   cases hvx with
   | emp ad cap' =>
    have he':eqv P 10000 t (.slice (some ad) 0 cap') (.slice none 0 0) = some c:=by rw [← he];exact eqv_slice rfl rfl
    simp [eqGuard,binOp,equal_run he']
 ·rename_i b0 off s m z hρx hρy
  cases he:eqv P 10000 t (.slice (some ⟨0,0,none⟩) 0 0) (.slice none 0 0) with
  | none => rw [he] at hx;simp at hx
  | some c =>
   rw [he] at hx
   simp only [Option.map_some,Option.some.injEq] at hx;subst hx
   refine .quiet rfl rfl fun μ a w hg hxs hr => ⟨.bool c,?_,.bool c⟩
   have hvx:=hxs x (by rw [ho];simp [Op.operands])
   have hvy:=hxs y (by rw [ho];simp [Op.operands])
   rw [hρx] at hvx
   rw [hρy] at hvy
   have hm:m ≠ 0:=hob _ (by simp [VX.silent])
   unfold execOp
   simp only [ho,Sem.run_bind]
   generalize a.eval x = X at hvx ⊢
   generalize a.eval y = Y at hvy ⊢
   cases hvy
   cases hvx with
   | sliceE _ _ _ _ _ _ _ => exact absurd rfl hm
   | sliceS hb _ _ _ _ cap' hc hz =>
    rename_i b
    have he':eqv P 10000 t (.slice (some ⟨b,s + off,none⟩) m cap') (.slice none 0 0) = some c:=by rw [← he];exact eqv_slice rfl rfl
    simp [eqGuard,binOp,equal_run he']
 ·simp at hx
theorem xmake_ok {P:Program} {ρ:Operand → Value} {n:Nat} {hs:List Hint} {t:TypeId} {l c:Operand} {out:Out} {o:Oper} {h:HF} (hx:xmake P ρ n hs t l c = some out) (hob:∀ q ∈ out.ob,q) (ho:o.op = .makeSlice t l c):OpSpec P o ρ h out:=by
 unfold xmake at hx
 split at hx
 case h_2 => simp at hx
 case h_1 L C S hs' ka a kb b e hρl hρc hu =>
 split at hx
 case h_2 => simp at hx
 case h_1 inf hi =>
 split at hx
 case h_2 => simp at hx
 case h_1 k hz =>
 cases hcc:(Nat.beq inf.size 1 && Nat.ble L C && Nat.ble 1 C && Nat.ble C 1048576 && Nat.ble inf.bytes 1048576) <;> rw [hcc] at hx
 ·simp at hx
 simp only [cond_true,Option.some.injEq] at hx;subst hx
 simp only [Bool.and_eq_true] at hcc
 obtain ⟨⟨⟨⟨c1,c2⟩,c3⟩,c4⟩,c5⟩:=hcc
 have c1:=beq_tt c1;have c2:=ble_tt c2;have c3:=ble_tt c3;have c4:=ble_tt c4;have c5:=ble_tt c5
 have ha:a = (L:Int):=hob _ (by simp [VX.newBlk])
 have hb:b = (C:Int):=hob _ (by simp [VX.newBlk])
 have hS:Noughts k C S:=hob _ (by simp [VX.newBlk])
 subst ha;subst hb
 refine .newBlk' (t:=e) fun μ ac w hg hxs => ⟨List.replicate C (.int k 0),.slice (some ⟨w.heap.size,0,none⟩) L C,fun μ' => ?_,?_,fun μ' hm hsz => ?_⟩
 ·refine ⟨_,_,_,rfl,fun _ => ⟨rfl,rfl,by simpa [Blk.size] using hS.1⟩,fun off v hv => ?_⟩
  obtain ⟨h1,rfl⟩:=hS.2 off v hv
  exact ⟨.int k 0,by simp [h1],.int _ _⟩
 ·have hvl:=hxs l (by rw [ho];simp [Op.operands])
  have hvc:=hxs c (by rw [ho];simp [Op.operands])
  rw [hρl] at hvl
  rw [hρc] at hvc
  have w1:IntKind.i64.wrap (L:Int) = (L:Int):=by rw [IntKind.wrap_i64];omega
  have w2:IntKind.i64.wrap (C:Int) = (C:Int):=by rw [IntKind.wrap_i64];omega
  have hbC:(inf.bytes:Int) * (C:Int) ≤ 2 ^ 48:=by
   have h1:inf.bytes * C ≤ 1048576 * 1048576:=Nat.mul_le_mul c5 c4
   have h2:((inf.bytes * C:Nat):Int) ≤ ((1048576 * 1048576:Nat):Int):=by exact_mod_cast h1
   rw [Int.natCast_mul] at h2
   have h3:((1048576 * 1048576:Nat):Int) ≤ 2 ^ 48:=by decide
   omega
  have hbL:(inf.bytes:Int) * (L:Int) ≤ 2 ^ 48:=by
   have h1:inf.bytes * L ≤ 1048576 * 1048576:=Nat.mul_le_mul c5 (by omega)
   have h2:((inf.bytes * L:Nat):Int) ≤ ((1048576 * 1048576:Nat):Int):=by exact_mod_cast h1
   rw [Int.natCast_mul] at h2
   have h3:((1048576 * 1048576:Nat):Int) ≤ 2 ^ 48:=by decide
   omega
  unfold execOp
  simp only [ho,Sem.run_bind]
  generalize ac.eval l = X at hvl
  generalize ac.eval c = Y at hvc
  cases hvl
  cases hvc
  have hn1:¬ ((C:Int) < 0):=by omega
  have hn2:¬ ((L:Int) < 0):=by omega
  have hn3:¬ ((281474976710656:Int) < (inf.bytes:Int) * (C:Int)):=by omega
  have hn4:¬ ((C:Int) < (L:Int)):=by omega
  have hC0:C ≠ 0:=by omega
  have hzc:(Value.int k 0).cells = #[Value.int k 0]:=rfl
  have hC1:¬ ((C:Int) ≤ 0):=by omega
  simp [Instr.makeSlice,underlying_run hu,asInt,asIntOf,hzc,hC1,typeInfo,hi,w1,w2,hn1,hn2,hn3,hn4,run_askRoom,sizeOf,c1,zeroValue_run hi hz,newRow,newObj,Sem.run,hC0]
  have hfin:(Array.range C).map (fun x => ([Value.int k 0]:List Value)[x % 1]?.getD default) = Array.replicate C (.int k 0):=by
   apply Array.ext'
   simp only [Array.toList_map,Array.toList_range,Array.toList_replicate]
   rw [List.eq_replicate_iff]
   refine ⟨by simp,fun v hv => ?_⟩
   obtain ⟨i,_,rfl⟩:=List.mem_map.1 hv
   rw [Nat.mod_one];rfl
  rw [hfin]
 ·exact VRel.sliceS hm 0 0 L 1 C c2 (.inr (by rw [hsz];simp))
theorem xappendN_ok {P:Program} {ρ:Operand → Value} {h:HF} {n:Nat} {l:List Seg} {hs:List Hint} {c:Call} {out:Out} {o:Oper} (hx:xappendN P ρ n l hs c = some out) (hob:∀ q ∈ out.ob,q) (ho:o.op = .call c) (hc:c.callee = .builtin .append):OpSpec P o ρ h out:=by
 unfold xappendN at hx
 split at hx
 case h_2 => simp at hx
 case h_1 tx ty x y hty hargs =>
 split at hx
 case h_2 => simp at hx
 case h_1 e e' hux huy =>
 split at hx
 case h_2 => simp at hx
 case h_1 inf hi =>
 split at hx
 case h_2 => simp at hx
 case h_1 f hρx hρy =>
 simp only [Option.some.injEq] at hx
 subst hx
 have htys:c.argTypes = #[tx,ty]:=by apply Array.ext';simpa using hty
 have hexec:∀ (a:Act) (w w':World) (rv:Value),(Builtin.append_ #[tx,ty] o.type #[a.eval x,a.eval y]).run P w = .ok rv w' → (execOp a.eval o).run P w = .ok (.value rv) w':=by
  intro a w w' rv hrun
  have two:c.args.map a.eval = #[a.eval x,a.eval y]:=by apply Array.ext';simp [hargs]
  unfold execOp
  simp only [ho,resolve,hc,Sem.run_bind,Sem.run_pure,Result.andThen_ok,invoke,builtin,two,htys,hrun]
 have hops:∀ (μ:Mu) (a:Act),(∀ q ∈ o.op.operands,VRel μ (ρ q) (a.eval q)) → VRel μ (ρ x) (a.eval x) ∧ VRel μ (ρ y) (a.eval y):=by
  intro μ a hxs
  have hm:x ∈ c.args ∧ y ∈ c.args:=by
   constructor
   ·have:x ∈ c.args.toList:=by rw [hargs];simp
    simpa using this
   ·have:y ∈ c.args.toList:=by rw [hargs];simp
    simpa using this
  exact ⟨hxs x (by rw [ho];simp [Op.operands,Call.operands,hc,hm.1]),hxs y (by rw [ho];simp [Op.operands,Call.operands,hc,hm.2])⟩
 have hf:f = true:=hob _ (by simp)
 have hl0:segsSize l = 0:=hob _ (by simp)
 intro μ a w hg hxs hr hn K Q hk
 obtain ⟨hvx,hvy⟩:=hops μ a hxs
 rw [hρx] at hvx
 rw [hρy] at hvy
 have hnn:μ n = none:=hn n (by simp)
 obtain ⟨ad,hX⟩:∃ ad,a.eval x = .slice ad 0 0:=by
  obtain ⟨_,hl⟩:=hvx.lst_inv hf
  rcases hl with ⟨_,hl⟩ | ⟨_,_,ad,hl⟩ | ⟨h0,_⟩
  ·exact ⟨_,hl⟩
  ·exact ⟨_,hl⟩
  ·exact absurd rfl h0
 generalize hY:a.eval y = Y at hvy
 have hsrc:Src P inf.size ty Y 0 [] w:=by
  cases hvy with
  | emp ad' cap' => exact Src.ofSlice w huy _ 0 cap' [] (by simp) (by simp) (by simp)
 have hrun:=run_append_none w tx ty o.type e inf hux hi ad Y hsrc
 rw [← hX,← hY] at hrun
 have hrun:=hexec a w _ _ hrun
 rw [hX] at hrun
 obtain ⟨hr1,hk1⟩:=hr.bare (B:={ segs:=l,ty:=e,ro:=false }) hnn hl0
 exact wp_of_value hrun (hk μ _ _ ⟨fun _ _ h => h,fun _ _ _ => rfl,fun _ _ h => h⟩ (fun _ _ => rfl) hr1 (.sliceE _ _ _ _ _ _ (.inr rfl)) hk1)
theorem Rep.anew {μ:Mu} {h:HF} {w:World} (r:Rep μ h w) {i b:Nat} {A:Blk} {S:List Seg} {us:List Value} (hi:h i = some A) (hro:A.ro = false) (hb:μ i = some b) (hS:segsSize S = us.length) (hA:A.size = us.length)
  (hv:∀ o v,segsGet? S o = some v → ∃ u,us[o]? = some u ∧ VRel μ v u) :
  Rep μ (upd1 h (i,.blk { A with segs:=S })) (World.putCells w b 0 us) ∧ Keeps μ h w μ (upd1 h (i,.blk { A with segs:=S })) (World.putCells w b 0 us):=by
 obtain ⟨b',hb',cs,t,fr,he,hrw,hcs⟩:=r.blk i A hi (.inr (by rw [hb];exact fun h => nomatch h))
 rw [hb] at hb'
 obtain rfl:b = b':=by simpa using hb'
 obtain ⟨rfl,rfl,hsz⟩:=hrw hro
 obtain ⟨ds,a1,a2,a3,a4,a5,a6,a7,a8,a9⟩:=putCells_heap b us 0 w cs A.ty he (by omega)
 have hcase:∀ {j C},upd1 h (i,.blk { A with segs:=S }) j = some C → (j = i ∧ C = { A with segs:=S }) ∨ (j ≠ i ∧ h j = some C):=by
  intro j C hj
  by_cases e:j = i
  ·subst e;rw [upd1_same] at hj;exact .inl ⟨rfl,(Option.some.inj hj).symm⟩
  ·rw [upd1_other e] at hj;exact .inr ⟨e,hj⟩
 constructor
 ·refine ⟨?_,?_,?_,?_,?_,?_⟩
  ·intro j C hj hne
   rcases hcase hj with ⟨rfl,rfl⟩ | ⟨hji,hj⟩
   ·refine ⟨b,hb,ds,A.ty,(0,0),a1,fun _ => ⟨rfl,rfl,by simp only [Blk.size];rw [hS,a2];omega⟩,fun off v hv' => ?_⟩
    obtain ⟨u,hu,hvu⟩:=hv off v hv'
    have hlt:=(List.getElem?_eq_some_iff.1 hu).1
    refine ⟨u,?_,hvu⟩
    have:=a4 off hlt
    rw [Nat.zero_add] at this
    rw [this];exact hu
   ·obtain ⟨c,hc,cs',t',fr',e',h1,h2⟩:=r.blk j C hj hne
    refine ⟨c,hc,?_⟩
    by_cases hcb:c = b
    ·subst hcb
     have:=(r.apart j i C A c hj hi hc hb hji).2
     rw [hro] at this;cases this
    ·exact ⟨cs',t',fr',by rw [a9 c hcb];exact e',h1,h2⟩
  ·intro j k C D c hj hk hjc hkc hjk
   rcases hcase hj with ⟨ej,eC⟩ | ⟨hji,hj'⟩ <;> rcases hcase hk with ⟨ek,eD⟩ | ⟨hki,hk'⟩
   ·exact absurd (ej.trans ek.symm) hjk
   ·subst ej
    have:=(r.apart _ k A D c hi hk' hjc hkc hjk).1
    rw [hro] at this;cases this
   ·subst ek
    have:=(r.apart j _ C A c hj' hi hjc hkc hjk).2
    rw [hro] at this;cases this
   ·exact r.apart j k C D c hj' hk' hjc hkc hjk
  ·intro j c hj
   rw [a5];exact r.bound j c hj
  ·intro j C c hj hCr hjc
   rcases hcase hj with ⟨rfl,rfl⟩ | ⟨hji,hj⟩
   ·obtain ⟨cs',t',fr',e',hs⟩:=r.size j A c hi hro hjc
    rw [hb] at hjc
    obtain rfl:b = c:=by simpa using hjc
    rw [he] at e';cases e'
    exact ⟨ds,A.ty,(0,0),a1,a2.trans hs⟩
   ·obtain ⟨cs',t',fr',e',hs⟩:=r.size j C c hj hCr hjc
    by_cases hcb:c = b
    ·subst hcb
     rw [he] at e';cases e'
     exact ⟨ds,A.ty,(0,0),a1,a2.trans hs⟩
    ·exact ⟨cs',t',fr',by rw [a9 c hcb];exact e',hs⟩
  ·intro c cs' hf
   have hcb:c ≠ b:=by
    rintro rfl
    rw [r.nofz i A c hi hro hb] at hf
    cases hf
   rw [a9 c hcb]
   exact r.frz c cs' hf
  ·intro j C c hj hCr hjc
   rcases hcase hj with ⟨rfl,rfl⟩ | ⟨hji,hj⟩
   ·exact r.nofz j A c hi hro hjc
   ·exact r.nofz j C c hj hCr hjc
 ·refine ⟨a6,a7,a8,by omega,?_,?_,fun _ _ => rfl,fun _ _ h => h,fun _ _ h => .inl h⟩
  ·intro k hk hno
   exact a9 k fun hkb => hno ⟨i,A,hi,hro,by rw [hkb];exact hb⟩
  ·intro j C k hj hjk _
   rcases hcase hj with ⟨rfl,rfl⟩ | ⟨hji,hj⟩
   ·exact ⟨j,A,hi,hjk,fun _ => hro⟩
   ·exact ⟨j,C,hj,hjk,id⟩
theorem gets_win {B:Blk}:∀ (n o:Nat),(∀ j,j < n → ∃ v,segsGet? B.segs (o + j) = some v) → gets B o n = some (winL (fun j => (segsGet? B.segs j).getD (.tuple ⟨[]⟩)) o n)
 | 0,_,_ => rfl
 | n + 1,o,h => by
  obtain ⟨v,hv⟩:=h 0 (by omega)
  rw [Nat.add_zero] at hv
  have:=gets_win n (o + 1) (fun j hj => by rw [show o + 1 + j = o + (j + 1) by omega];exact h (j + 1) (by omega))
  simp only [gets,Blk.get?,hv,this,winL,Option.getD_some]
theorem xwhole_ok {P:Program} {ρ:Operand → Value} {H:HF} {n:Nat} {l:List Seg} {hs:List Hint} {o:Oper} {out:Out} (hx:xwhole P ρ H n l hs o = some out) (hob:∀ q ∈ out.ob,q) (h:HF) (hrd:∀ i ∈ out.rd,h i = H i):OpSpec P o ρ h out:=by
 unfold xwhole at hx
 split at hx
 ·rename_i t p ho
  split at hx
  ·rename_i i hρ
   split at hx
   ·rename_i B m hB ha hs
    simp only [Option.some.injEq] at hx;subst hx
    have hst:AllStor B.segs m:=hob _ (by simp)
    refine .quiet rfl rfl fun μ a w hg hxs hr => ?_
    have hp:=hxs p (by rw [ho];simp [Op.operands])
    rw [hρ] at hp
    have hBh:h i = some B:=by rw [hrd i (by simp)];exact hB
    obtain ⟨b,hb,cs,ty,fr,he,_,hcs⟩:=hr.blk i B hBh (.inr hp.ptr_ne)
    generalize hX:a.eval p = X at hp
    cases hp with
    | ptr hb' _ =>
     rw [hb] at hb'
     obtain rfl:b = _:=by simpa using hb'
     have hg':=gets_win (B:=B) m 0 (fun j hj => by obtain ⟨v,hv,_⟩:=hst j hj;exact ⟨v,by rw [Nat.zero_add];exact hv⟩)
     obtain ⟨rs,h1,h2,h3⟩:=gets_spec hcs m 0 _ hg'
     refine ⟨.agg ⟨rs⟩,?_,.agg h1⟩
     have hrun:=loadAt_run_agg (w:=w) (b:=b) (o:=0) ha hs (rs:=rs) (by rw [← h1.length,h2]) (fun j x hx => cell_of he (h3 j x hx))
     unfold execOp
     simp only [ho,hX,Sem.run_bind,hrun,Result.andThen_ok,Sem.run_pure]
   ·simp at hx
  ·simp at hx
 ·rename_i t p x ho
  split at hx
  ·rename_i j hρ
   split at hx
   ·rename_i C m hC hs
    cases hro:C.ro <;> rw [hro] at hx
    ·simp only [Bool.not_false,cond_true,Option.some.injEq] at hx;subst hx
     have e1:ρ x = .agg ⟨cellsOf l m⟩:=hob _ (by simp)
     have e2:segsSize l = m:=hob _ (by simp)
     have e3:C.size = m:=hob _ (by simp)
     have e4:AllStor l m:=hob _ (by simp)
     intro μ a w hg hxs hr hn K Q hk
     have hp:=hxs p (by rw [ho];simp [Op.operands])
     have hv:=hxs x (by rw [ho];simp [Op.operands])
     rw [hρ] at hp
     rw [e1] at hv
     have hCh:h j = some C:=by rw [hrd j (by simp)];exact hC
     obtain ⟨b,hb,cs,ty,fr,he,hrw,hcs⟩:=hr.blk j C hCh (.inr hp.ptr_ne)
     obtain ⟨rfl,rfl,hsz⟩:=hrw hro
     generalize hX:a.eval p = X at hp
     generalize hY:a.eval x = Y at hv
     cases hp with
     | ptr hb' _ =>
      rw [hb] at hb'
      obtain rfl:b = _:=by simpa using hb'
      cases hv with
      | agg hvs =>
       rename_i rs
       have hlen:rs.length = m:=by rw [← hvs.length];exact winL_len _ _ _
       have hstor:(cellsOf l m).all storable = true:=by
        rw [List.all_eq_true]
        intro u hu
        obtain ⟨q,hq,rfl⟩:=List.mem_iff_getElem.1 hu
        have hq':q < m:=by unfold cellsOf at hq;rw [winL_len] at hq;exact hq
        have hw:=winL_get (fun j => (segsGet? l j).getD (.tuple ⟨[]⟩)) m 0 q
        unfold cellsOf at hq ⊢
        rw [List.getElem?_eq_getElem hq,if_pos hq',Nat.zero_add] at hw
        obtain ⟨v,hv1,hv2⟩:=e4 q hq'
        rw [hv1] at hw
        rw [Option.some.inj hw];exact hv2
       have hrst:rs.all storable = true:=hvs.storables hstor
       have hrun:=storeAt_run (P:=P) (t:=t) (w:=w) (b:=b) (o:=0) (r:=.agg ⟨rs⟩) hs hlen ⟨cs,he,rfl⟩ (by rw [Nat.zero_add,← e3];exact hsz) hrst
       obtain ⟨hrep,hkeep⟩:=hr.anew (S:=l) (us:=rs) hCh hro hb (by rw [e2,hlen]) (by rw [e3,hlen]) (fun q v hv' => by
        have hq:q < m:=by have:q < segsSize l:=segsGet_lt hv';omega
        have hw:=winL_get (fun j => (segsGet? l j).getD (.tuple ⟨[]⟩)) m 0 q
        rw [if_pos hq,Nat.zero_add,hv'] at hw
        exact hvs.get q v hw)
       rw [hro] at hrep hkeep
       refine wp_of_skip (w':=World.putCells w b 0 rs) ?_ (hk μ _ undef (Mu.le_refl μ) (fun _ _ => rfl) hrep (.junk _) hkeep)
       unfold execOp
       simp only [ho,hX,hY,Sem.run_bind,hrun,Result.andThen_ok,Sem.run_pure]
       rfl
    ·simp at hx
   ·simp at hx
  ·simp at hx
 ·simp at hx
end Go.Proofs.Ytgnhhnmpeklciaa.VX
namespace Go.Proofs.Ytgnhhnmpeklciaa.VX
open Go
theorem xop0_ok {P:Program} {ρ:Operand → Value} {H:HF} {n:Nat} {hs:List Hint} {o:Oper} {out:Out} (hG:P.globals.size ≤ 1000) (hx:xop0 P ρ H n hs o = some out) (hob:∀ q ∈ out.ob,q) (h:HF)
  (hrd:∀ i ∈ out.rd,h i = H i) (hsh:∀ i ∈ out.sh,SameShape (h i) (H i)):OpSpec P o ρ h out:=by
 by_cases hcall:∃ c,o.op = .call c
 ·obtain ⟨c,ho⟩:=hcall
  unfold xop0 at hx
  simp only [ho] at hx
  split at hx
  ·rename_i f hf
   split at hx
   ·rename_i g fs cs hρ
    refine xcallA_ok hG hx hob hrd fun μ a w hxs => ?_
    have hv:=hxs f (by rw [ho];simp [Op.operands,Call.operands,hf])
    have hargs:VRels μ (c.args.toList.map ρ) (c.args.toList.map a.eval):=args_rel _ fun x hx => hxs x (by rw [ho];simp only [Op.operands,Call.operands,Array.mem_append];exact .inr (by simpa using hx))
    rw [hρ] at hv
    have hex:∀ fs' cs':List Value,a.eval f = .func (.func g) ⟨fs'⟩ ⟨cs'⟩ → (execOp a.eval o).run P w = (callFunc g ⟨fs' ++ c.args.toList.map a.eval ++ cs'⟩).run P w:=by
     intro fs' cs' he
     unfold execOp
     simp only [ho,resolve,hf,he,Deferred.ofValue,Sem.run_bind,Sem.run_pure,Result.andThen_ok,invoke]
     congr 2
     apply Array.ext'
     simp
    revert hv hex
    generalize a.eval f = X
    intro hv hex
    cases hv with
    | func fn h1 h2 => exact ⟨_,(h1.append hargs).append h2,hex _ _ rfl⟩
   ·simp at hx
  ·rename_i hf
   split at hx
   ·rename_i t x hat hargs
    have key:∀ v,(∀ (μ:Mu) (a:Act) (w:World),VRel μ (ρ x) (a.eval x) → (Builtin.len_ c.argTypes o.type (c.args.map a.eval)).run P w = .ok v w ∧ VRel μ v v) → some (VX.silent v n hs []) = some out → OpSpec P o ρ h out:=by
     intro v hv he
     simp only [Option.some.injEq] at he;subst he
     refine .silent fun μ a w hg hxs => ?_
     obtain ⟨h1,h2⟩:=hv μ a w (hxs x (by rw [ho];have hm:x ∈ c.args.toList:=(by rw [hargs];simp);simp only [Op.operands,Call.operands,hf];simpa using hm))
     refine ⟨v,?_,h2⟩
     unfold execOp
     simp only [ho,resolve,hf,Sem.run_bind,Sem.run_pure,Result.andThen_ok,invoke,builtin]
     rw [h1]
     rfl
    have harg0:∀ a:Act,(c.args.map a.eval)[0]? = some (a.eval x):=by
     intro a
     have:c.args.toList[0]? = some x:=by rw [hargs];rfl
     simp at this
     simp [this]
    split at hx
    ·rename_i s hu hρ
     refine key _ (fun μ a w hv => ?_) hx
     rw [hρ] at hv
     refine ⟨?_,.int _ _⟩
     unfold Builtin.len_
     simp only [hat,harg0 a]
     revert hv;generalize a.eval x = X;intro hv;cases hv
     simp [underlying_run hu,goInt]
    ·rename_i m e hu
     refine key _ (fun μ a w hv => ⟨?_,.int _ _⟩) hx
     unfold Builtin.len_
     simp only [hat,harg0 a]
     simp [underlying_run hu,goInt]
    ·rename_i e sl m cap hu hρ
     refine key _ (fun μ a w hv => ?_) hx
     rw [hρ] at hv
     refine ⟨?_,.int _ _⟩
     unfold Builtin.len_
     simp only [hat,harg0 a]
     revert hv;generalize a.eval x = X;intro hv;cases hv <;> simp [underlying_run hu,goInt]
    ·simp at hx
   ·simp at hx
  ·simp at hx
 ·exact xop0_quiet hx hob h hrd hsh fun c hc => hcall ⟨c,hc⟩
theorem xopE_ok {P:Program} {ρ:Operand → Value} {H:HF} {n:Nat} {hs:List Hint} {o:Oper} {out:Out} (hx:xopE P ρ H n hs o = some out) (hob:∀ q ∈ out.ob,q) (h:HF) (hrd:∀ i ∈ out.rd,h i = H i):OpSpec P o ρ h out:=by
 unfold xopE at hx
 split at hx
 ·rename_i t p ho
  obtain ⟨h1,h2,h3⟩:=xloadE_ok hx hob hrd
  refine .quiet h1 h2 fun μ a w hg hxs hr => ?_
  obtain ⟨rv,hrun,hv⟩:=h3 hr (hxs p (by rw [ho];simp [Op.operands]))
  refine ⟨rv,?_,hv⟩
  unfold execOp
  simp only [ho,Sem.run_bind,hrun,Result.andThen_ok,Sem.run_pure]
 ·rename_i s p f ho
  obtain ⟨h1,h2,h3⟩:=xfieldE_ok hx
  refine .quiet h1 h2 fun μ a w hg hxs hr => ?_
  obtain ⟨rv,hrun,hv⟩:=h3 (w:=w) (hxs p (by rw [ho];simp [Op.operands]))
  refine ⟨rv,?_,hv⟩
  unfold execOp
  simp only [ho,Sem.run_bind,hrun,Result.andThen_ok,Sem.run_pure]
 ·rename_i t x ix ho
  obtain ⟨h1,h2,h3⟩:=xatE_ok hx hob
  refine .quiet h1 h2 fun μ a w hg hxs hr => ?_
  obtain ⟨rv,hrun,hv⟩:=h3 (w:=w) (hxs x (by rw [ho];simp [Op.operands])) (hxs ix (by rw [ho];simp [Op.operands]))
  refine ⟨rv,?_,hv⟩
  unfold execOp
  simp only [ho,Sem.run_bind,hrun,Result.andThen_ok,Sem.run_pure]
 ·rename_i t x low high max ho
  exact xslice_ok hx hob ho
 ·rename_i t parts ho
  cases hp:parts.toList.isEmpty <;> rw [hp] at hx
  ·simp at hx
  ·simp only [cond_true] at hx
   split at hx
   ·exact xnone_ok hx ho (by simpa using hp)
   ·exact xempty_ok hx ho (by simpa using hp)
 ·rename_i c ho
  have two:∀ (x y:Operand),c.args.toList = [x,y] → ∀ a:Act,c.args.map a.eval = #[a.eval x,a.eval y]:=by
   intro x y hl a
   apply Array.ext'
   simp [hl]
  have mem:∀ (x y:Operand),c.args.toList = [x,y] → x ∈ c.args ∧ y ∈ c.args:=by
   intro x y hl
   constructor
   ·have:x ∈ c.args.toList:=by rw [hl];simp
    simpa using this
   ·have:y ∈ c.args.toList:=by rw [hl];simp
    simpa using this
  split at hx
  ·rename_i x y hf hl
   split at hx
   ·rename_i k a k' b hxv hyv
    simp only [Option.some.injEq] at hx;subst hx
    refine .silent fun μ ac w hg hxs => ?_
    have hx1:=hxs x (by rw [ho];simp [Op.operands,Call.operands,hf,(mem x y hl).1])
    have hy1:=hxs y (by rw [ho];simp [Op.operands,Call.operands,hf,(mem x y hl).2])
    rw [hxv] at hx1
    rw [hyv] at hy1
    refine ⟨.int k (if b < a then b else a),?_,.int _ _⟩
    unfold execOp
    simp only [ho,resolve,hf,Sem.run_bind,Sem.run_pure,Result.andThen_ok,invoke,builtin,two x y hl]
    revert hx1 hy1
    generalize ac.eval x = X
    generalize ac.eval y = Y
    intro hx1 hy1
    cases hx1;cases hy1
    rfl
   ·simp at hx
  ·rename_i x y hf hl
   split at hx
   ·rename_i k a k' b hxv hyv
    simp only [Option.some.injEq] at hx;subst hx
    refine .silent fun μ ac w hg hxs => ?_
    have hx1:=hxs x (by rw [ho];simp [Op.operands,Call.operands,hf,(mem x y hl).1])
    have hy1:=hxs y (by rw [ho];simp [Op.operands,Call.operands,hf,(mem x y hl).2])
    rw [hxv] at hx1
    rw [hyv] at hy1
    refine ⟨.int k (if b > a then b else a),?_,.int _ _⟩
    unfold execOp
    simp only [ho,resolve,hf,Sem.run_bind,Sem.run_pure,Result.andThen_ok,invoke,builtin,two x y hl]
    revert hx1 hy1
    generalize ac.eval x = X
    generalize ac.eval y = Y
    intro hx1 hy1
    cases hx1;cases hy1
    rfl
   ·simp at hx
  ·rename_i x hf hl
   split at hx
   ·rename_i t ht
    obtain ⟨h1,h2,h3⟩:=xlenE_ok (ty:=o.type) hx hob ht
    refine .quiet h1 h2 fun μ a w hg hxs hr => ?_
    have hm:x ∈ c.args:=by
     have:x ∈ c.args.toList:=by rw [hl];simp
     simpa using this
    have harg0:(c.args.map a.eval)[0]? = some (a.eval x):=by
     have:c.args.toList[0]? = some x:=by rw [hl];rfl
     simp at this
     simp [this]
    obtain ⟨rv,hrun,hv⟩:=h3 (w:=w) (hxs x (by rw [ho];simp [Op.operands,Call.operands,hf,hm])) harg0
    refine ⟨rv,?_,hv⟩
    unfold execOp
    simp only [ho,resolve,hf,Sem.run_bind,Sem.run_pure,Result.andThen_ok,invoke,builtin,hrun]
   ·simp at hx
  ·rename_i hf
   split at hx
   ·exact xappendL_ok hx hob hrd ho hf
   ·split at hx
    ·rename_i out' hx'
     simp only [Option.some.injEq] at hx;subst hx
     exact xappendW_ok hx' hob hrd ho hf
    ·exact xappendN_ok hx hob ho hf
   ·exact xappend_ok hx hob hrd ho hf
  ·simp at hx
 ·rename_i t x y g ho
  split at hx
  ·rename_i out' hx'
   simp only [Option.some.injEq] at hx;subst hx
   exact xeqNil_ok hx' hob ho
  ·exact xeqNilT_ok hx hob ho
 ·rename_i t l c ho
  exact xmake_ok hx hob ho
 ·simp at hx
theorem xopA_ok {P:Program} {ρ:Operand → Value} {H:HF} {n:Nat} {hs:List Hint} {o:Oper} {out:Out} (hG:P.globals.size ≤ 1000) (hx:xopA P ρ H n hs o = some out) (hob:∀ q ∈ out.ob,q) (h:HF)
  (hrd:∀ i ∈ out.rd,h i = H i) (hsh:∀ i ∈ out.sh,SameShape (h i) (H i)):OpSpec P o ρ h out:=by
 unfold xopA at hx
 split at hx
 ·rename_i out0 h0
  simp only [Option.some.injEq] at hx;subst hx
  exact xop0_ok hG h0 hob h hrd hsh
 ·exact xopE_ok hx hob h hrd
theorem xop_ok {P:Program} {ρ:Operand → Value} {H:HF} {n:Nat} {hs:List Hint} {o:Oper} {out:Out} (hG:P.globals.size ≤ 1000) (hx:xop P ρ H n hs o = some out) (hob:∀ q ∈ out.ob,q) (h:HF)
  (hrd:∀ i ∈ out.rd,h i = H i) (hsh:∀ i ∈ out.sh,SameShape (h i) (H i)):OpSpec P o ρ h out:=by
 unfold xop at hx
 split at hx
 ·rename_i d w hs'
  cases hd:dstIs o.dst d <;> rw [hd] at hx
  ·exact xopA_ok hG hx hob h hrd hsh
  ·simp only [cond_true] at hx
   cases h0:xopA P ρ H n hs' o with
   | none => simp [h0] at hx
   | some out0 =>
    simp only [h0,Option.map_some,Option.some.injEq] at hx
    subst hx
    have hv:out0.v = w:=hob _ (by simp)
    have hs0:=xopA_ok hG h0 (fun q hq => hob q (by simp [hq])) h hrd hsh
    intro μ a w' hg hxs hr hn K Q hk
    exact hs0 μ a w' hg hxs hr hn K Q fun μ' w1 rv h1 h2 h3 h4 h5 => hk μ' w1 rv h1 h2 h3 (by rw [hv] at h4;exact h4) h5
 ·split at hx
  ·rename_i out0 h0
   simp only [Option.some.injEq] at hx;subst hx
   exact xborn_ok h0 h
  ·exact xopA_ok hG hx hob h hrd hsh
 ·split at hx
  ·rename_i out0 h0
   simp only [Option.some.injEq] at hx;subst hx
   exact xwhole_ok h0 hob h hrd
  ·exact xopA_ok hG hx hob h hrd hsh
 ·exact xopA_ok hG hx hob h hrd hsh
def tput (T:Tm) (d:Option Tmp) (v:Value):Tm:=
 match d with
 | some d => (d,v) :: T
 | none => T
def TRel (N:Nat) (μ:Mu) (T:Nat → Value) (tmps:Array Value):Prop:=tmps.size = N ∧ ∀ t,VRel μ (T t) (tmps.getD t undef)
theorem TRel.mono {N:Nat} {μ μ':Mu} {T:Nat → Value} {tmps:Array Value} (h:μ.le μ') (r:TRel N μ T tmps):TRel N μ' T tmps:=⟨r.1,fun t => (r.2 t).mono h⟩
def tupd (T:Nat → Value) (d:Option Tmp) (v:Value):Nat → Value:=fun t =>
 match d with
 | some d => bif Nat.beq t d then v else T t
 | none => T t
theorem tget_tput (T:Tm) (d:Option Tmp) (v:Value):tget (tput T d v) = tupd (tget T) d v:=by
 funext t
 cases d with
 | none => rfl
 | some d => simp [tput,tget,tupd]
theorem TRel.put {N:Nat} {μ:Mu} {T:Nat → Value} {a:Act} (r:TRel N μ T a.tmps) {d:Option Tmp} {v rv:Value} (hd:∀ x,d = some x → x < N) (hv:VRel μ v rv):TRel N μ (tupd T d v) (a.put d rv).tmps:=by
 cases d with
 | none => exact r
 | some d =>
  have hlt:=hd d rfl
  refine ⟨by simpa [Act.put] using r.1,fun t => ?_⟩
  simp only [tupd,Act.put]
  cases e:Nat.beq t d
  ·simp only [cond_false]
   have hne:=beq_ff e
   have:=r.2 t
   rw [Array.getD_eq_getD_getElem?] at this ⊢
   rw [Array.getElem?_setIfInBounds_ne (fun h => hne h.symm)]
   exact this
  ·have:=beq_tt e
   subst this
   simp only [cond_true]
   rw [Array.getD_eq_getD_getElem?]
   have:t < a.tmps.size:=by rw [r.1];exact hlt
   simp [this]
   exact hv
theorem put_defers (a:Act) (d:Option Tmp) (v:Value):(a.put d v).defers = a.defers:=by cases d <;> rfl
theorem ev_rel {P:Program} {N:Nat} {μ:Mu} {T:Tm} {a:Act} (hg:Gl P μ) (r:TRel N μ (tget T) a.tmps) (x:Operand):VRel μ (ev P T x) (a.eval x):=by
 cases x with
 | tmp t => exact r.2 t
 | const v =>
  simp only [ev,Act.eval]
  cases h:flat v
  ·exact .junk _
  ·exact .of_flat h
 | global g =>
  simp only [ev,Act.eval]
  cases h:Nat.blt g P.globals.size
  ·exact .junk _
  ·exact .ptr (hg g (blt_tt h)) 0
 | func f => exact .func _ .nil .nil
structure Rec where
 o:Oper
 ran:Bool
 out:Out
def slotOf (ops:Array Oper) (k:Nat):Option Tmp:=(ops[k]?).bind (·.dst)
def xwant (ops:Array Oper) (T:Tm) (o:Oper) (hs:List Hint):Option (Bool × List Hint × List Prop):=
 match o.guard with
 | none => some (true,hs,[])
 | some (k,want) =>
  match slotOf ops k with
  | none => some (false,hs,[])
  | some d =>
   match tget T d with
   | .bool c => match takeB c hs with
    | some (b,hs,ob) => some (b == want,hs,ob)
    | none => none
   | .chan none => some (false,hs,[])
   | _ => none
def dstOk (N:Nat):Option Tmp → Bool
 | some d => Nat.blt d N
 | none => true
def skipped (n:Nat) (hs:List Hint) (ob:List Prop):Out:={ v:=.chan none,eff:=[],rd:=[],sh:=[],new:=[],n,hs,ob }
def xreg (P:Program) (N:Nat) (ops:Array Oper):List Oper → Tm → Heap → Nat → List Hint → Option (List Rec × Tm × Heap × Nat × List Hint)
 | [],T,H,n,hs => some ([],T,H,n,hs)
 | o :: r,T,H,n,hs =>
  bif dstOk N o.dst then
   match xwant ops T o hs with
   | some (true,hs,ob) =>
    match xop P (ev P T) (lk H) n hs o with
    | some out =>
     match xreg P N ops r (tput T o.dst out.v) (happ out.eff H) out.n out.hs with
     | some (l,x) => some ({ o,ran:=true,out:={ out with ob:=ob ++ out.ob } } :: l,x)
     | none => none
    | none => none
   | some (false,hs,ob) =>
    match xreg P N ops r (tput T o.dst (.chan none)) H n hs with
    | some (l,x) => some ({ o,ran:=false,out:=skipped n hs ob } :: l,x)
    | none => none
   | none => none
  else none
def foldT (D:Nat → Bool):Nat → List Rec → (Nat → Value) → Nat → Value
 | _,[],T => T
 | k,r :: l,T => foldT D (k + 1) l (if D k then tupd T r.o.dst r.out.v else T)
def foldH (D:Nat → Bool):Nat → List Rec → HF → HF
 | _,[],h => h
 | k,r :: l,h => foldH D (k + 1) l (if D k then app r.out.eff h else h)
theorem app_untouched:∀ (e:List (Nat × Upd)) (h h':HF) (i:Nat),(∀ x ∈ e,x.1 ≠ i) → h i = h' i → app e h i = h' i
 | [],h,h',i,_,hh => hh
 | x :: e,h,h',i,hx,hh => by
  simp only [app]
  refine app_untouched e _ h' i (fun y hy => hx y (by simp [hy])) ?_
  rw [upd1_other (fun hi => hx x (by simp) hi.symm)]
  exact hh
theorem app_agree:∀ (e:List (Nat × Upd)) (h h':HF) (i:Nat),h i = h' i → app e h i = app e h' i
 | [],h,h',i,hh => hh
 | x :: e,h,h',i,hh => by
  simp only [app]
  refine app_agree e _ _ i ?_
  unfold upd1
  cases Nat.beq i x.1
  ·simpa using hh
  ·cases x.2 <;> simp [hh]
theorem foldT_agree {D D':Nat → Bool} (t:Nat):∀ (l:List Rec) (k:Nat) (T T':Nat → Value),T t = T' t → (∀ j r,l[j]? = some r → D (k + j) ≠ D' (k + j) → r.o.dst ≠ some t) → foldT D k l T t = foldT D' k l T' t
 | [],k,T,T',h,_ => h
 | r :: l,k,T,T',h,hd => by
  simp only [foldT]
  refine foldT_agree t l (k + 1) _ _ ?_ (fun j r' hj hne => hd (j + 1) r' (by simpa using hj) (by rw [show k + (j + 1) = k + 1 + j by omega];exact hne))
  by_cases he:D k = D' k
  ·rw [he]
   split
   ·unfold tupd
    cases r.o.dst with
    | none => exact h
    | some d => simp only;cases Nat.beq t d <;> simp [h]
   ·exact h
  ·have hne:=hd 0 r (by simp) (by simpa using he)
   have hput:∀ (T:Nat → Value) v,tupd T r.o.dst v t = T t:=by
    intro T v
    unfold tupd
    cases hdst:r.o.dst with
    | none => rfl
    | some d =>
     have:t ≠ d:=by rintro rfl;exact hne hdst
     simp [beq_ne this]
   split <;> split <;> simp [hput,h]
theorem foldH_agree {D D':Nat → Bool} (i:Nat):∀ (l:List Rec) (k:Nat) (h h':HF),h i = h' i → (∀ j r,l[j]? = some r → D (k + j) ≠ D' (k + j) → ∀ x ∈ r.out.eff,x.1 ≠ i) → foldH D k l h i = foldH D' k l h' i
 | [],k,h,h',e,_ => e
 | r :: l,k,h,h',e,hd => by
  simp only [foldH]
  refine foldH_agree i l (k + 1) _ _ ?_ (fun j r' hj hne => hd (j + 1) r' (by simpa using hj) (by rw [show k + (j + 1) = k + 1 + j by omega];exact hne))
  by_cases he:D k = D' k
  ·rw [he]
   split
   ·exact app_agree _ _ _ _ e
   ·exact e
  ·have hne:=hd 0 r (by simp) (by simpa using he)
   split <;> split
   ·exact app_agree _ _ _ _ e
   ·exact app_untouched _ _ _ _ hne e
   ·exact (app_untouched _ _ _ _ hne e.symm).symm
   ·exact e
def shapeOf (b:Option Blk):Option (Bool × Nat):=b.map fun B => (B.ro,B.size)
theorem sameShape_of {a b:Option Blk} (h:shapeOf a = shapeOf b):SameShape a b:=by
 intro B hB
 subst hB
 cases a with
 | none => simp [shapeOf] at h
 | some A =>
  simp [shapeOf] at h
  exact ⟨A,rfl,h.1,h.2⟩
theorem upd1_shape {h h':HF} {x:Nat × Upd} {i:Nat} (e:shapeOf (h i) = shapeOf (h' i)):shapeOf (upd1 h x i) = shapeOf (upd1 h' x i):=by
 unfold upd1
 cases Nat.beq i x.1
 ·simpa using e
 ·cases x.2 with
  | blk B => rfl
  | del => rfl
  | cell o v =>
   simp only [cond_true]
   cases hi:h i <;> cases hi':h' i <;> simp [shapeOf,hi,hi',Blk.set_size] at e ⊢
   ·exact e
theorem upd1_cell_shape {h:HF} {x:Nat × Upd} {i:Nat} (hx:x.1 = i → ∃ o v,x.2 = .cell o v):shapeOf (upd1 h x i) = shapeOf (h i):=by
 unfold upd1
 cases e:Nat.beq i x.1
 ·rfl
 ·obtain ⟨o,v,he⟩:=hx (beq_tt e).symm
  rw [he]
  simp only [cond_true]
  cases h i <;> simp [shapeOf,Blk.set_size,Blk.set]
  exact segsSet_size _ _ _
theorem app_shape:∀ (e:List (Nat × Upd)) (h h':HF) (i:Nat),shapeOf (h i) = shapeOf (h' i) → shapeOf (app e h i) = shapeOf (app e h' i)
 | [],h,h',i,hh => hh
 | x :: e,h,h',i,hh => by simp only [app];exact app_shape e _ _ i (upd1_shape hh)
theorem app_cells_shape:∀ (e:List (Nat × Upd)) (h h':HF) (i:Nat),(∀ x ∈ e,x.1 = i → ∃ o v,x.2 = .cell o v) → shapeOf (h i) = shapeOf (h' i) → shapeOf (app e h i) = shapeOf (h' i)
 | [],h,h',i,_,hh => hh
 | x :: e,h,h',i,hx,hh => by
  simp only [app]
  exact app_cells_shape e _ h' i (fun y hy => hx y (by simp [hy])) (by rw [upd1_cell_shape (hx x (by simp))];exact hh)
theorem foldH_shape {D D':Nat → Bool} (i:Nat):∀ (l:List Rec) (k:Nat) (h h':HF),shapeOf (h i) = shapeOf (h' i) → (∀ j r,l[j]? = some r → D (k + j) ≠ D' (k + j) → ∀ x ∈ r.out.eff,x.1 = i → ∃ o v,x.2 = .cell o v) →
  shapeOf (foldH D k l h i) = shapeOf (foldH D' k l h' i)
 | [],k,h,h',e,_ => e
 | r :: l,k,h,h',e,hd => by
  simp only [foldH]
  refine foldH_shape i l (k + 1) _ _ ?_ (fun j r' hj hne => hd (j + 1) r' (by simpa using hj) (by rw [show k + (j + 1) = k + 1 + j by omega];exact hne))
  by_cases he:D k = D' k
  ·rw [he]
   split
   ·exact app_shape _ _ _ _ e
   ·exact e
  ·have hne:=hd 0 r (by simp) (by simpa using he)
   split <;> split
   ·exact app_shape _ _ _ _ e
   ·exact app_cells_shape _ _ _ _ hne e
   ·exact (app_cells_shape _ _ _ _ hne e.symm).symm
   ·exact e
theorem Seg.set_comm (s:Seg) {o o':Nat} (v v':Value) (h:o ≠ o'):(s.set o v).set o' v' = (s.set o' v').set o v:=by
 cases s with
 | one x =>
  simp only [Seg.set]
  cases e:Nat.beq o 0 <;> cases e':Nat.beq o' 0 <;> simp [Seg.set,e,e']
  exact absurd ((beq_tt e).trans (beq_tt e').symm) h
 | ints k n a =>
  have gap:∀ v o,Seg.set (.gap n) o v = .gap n:=fun _ _ => rfl
  cases v with
  | int kv x =>
   cases v' with
   | int kv' x' =>
    simp only [Seg.set]
    cases e:k == kv <;> cases e':k == kv' <;> simp [Seg.set,e,e']
    funext j
    simp only [upd]
    cases h1:Nat.beq j o' <;> cases h2:Nat.beq j o <;> simp
    exact absurd ((beq_tt h2).symm.trans (beq_tt h1)) h
   | _ => simp only [Seg.set];cases k == kv <;> rfl
  | _ =>
   cases v' with
   | int kv' x' => simp only [Seg.set];cases k == kv' <;> rfl
   | _ => rfl
 | bools n a =>
  cases v with
  | bool x =>
   cases v' with
   | bool x' =>
    simp only [Seg.set,Seg.bools.injEq,true_and]
    funext j
    simp only [upd]
    cases h1:Nat.beq j o' <;> cases h2:Nat.beq j o <;> simp
    exact absurd ((beq_tt h2).symm.trans (beq_tt h1)) h
   | _ => rfl
  | _ => cases v' <;> rfl
 | rows n sz g => rfl
 | gap n => rfl
theorem segsSet_comm:∀ (l:List Seg) {o o':Nat} (v v':Value),o ≠ o' → segsSet (segsSet l o v) o' v' = segsSet (segsSet l o' v') o v
 | [],o,o',v,v',h => rfl
 | s :: r,o,o',v,v',h => by
  simp only [segsSet]
  cases e:Nat.blt o s.size <;> cases e':Nat.blt o' s.size <;> simp only [cond_true,cond_false,segsSet,Seg.set_size,e,e']
  ·have:=blt_ff e;have:=blt_ff e'
   rw [segsSet_comm r v v' (by omega)]
  ·rw [Seg.set_comm s v v' h]
def updFree (x y:Nat × Upd):Bool:=
 !Nat.beq x.1 y.1 || (match x.2,y.2 with | .cell o _,.cell o' _ => !Nat.beq o o' | _,_ => false)
theorem upd1_comm {h:HF} {x y:Nat × Upd} (hf:updFree x y = true):upd1 (upd1 h x) y = upd1 (upd1 h y) x:=by
 funext j
 obtain ⟨i,u⟩:=x
 obtain ⟨i',u'⟩:=y
 simp only [updFree,Bool.or_eq_true,Bool.not_eq_true'] at hf
 by_cases hii:i = i'
 ·subst hii
  rcases hf with hf | hf
  ·rw [beq_self] at hf;cases hf
  ·cases u with
   | blk B => simp at hf
   | del => simp at hf
   | cell o v =>
    cases u' with
    | blk B => simp at hf
    | del => simp at hf
    | cell o' v' =>
     simp only [Bool.not_eq_true'] at hf
     have hne:=beq_ff hf
     by_cases hj:j = i
     ·subst hj
      simp only [upd1_cell,Option.map_map]
      cases h j with
      | none => rfl
      | some B =>
       simp only [Option.map_some,Function.comp,Blk.set,Option.some.injEq,Blk.mk.injEq,and_true]
       exact segsSet_comm _ _ _ hne
     ·rw [upd1_other hj,upd1_other hj,upd1_other hj,upd1_other hj]
 ·by_cases hj:j = i
  ·subst hj
   rw [upd1_other (x:=(i',u')) hii]
   unfold upd1
   simp only [beq_self,cond_true,beq_ne hii,cond_false]
  ·by_cases hj':j = i'
   ·subst hj'
    rw [upd1_other (x:=(i,u)) hj]
    unfold upd1
    simp only [beq_self,cond_true,beq_ne hj,cond_false]
   ·rw [upd1_other hj',upd1_other hj,upd1_other hj,upd1_other hj']
theorem app_upd1_comm:∀ (e:List (Nat × Upd)) (h:HF) (x:Nat × Upd),(∀ y ∈ e,updFree x y = true) → app e (upd1 h x) = upd1 (app e h) x
 | [],h,x,_ => rfl
 | y :: e,h,x,hf => by
  simp only [app]
  rw [upd1_comm (hf y (by simp)),app_upd1_comm e _ x (fun z hz => hf z (by simp [hz]))]
theorem app_comm:∀ (e e':List (Nat × Upd)) (h:HF),(∀ x ∈ e',∀ y ∈ e,updFree x y = true) → app e (app e' h) = app e' (app e h)
 | e,[],h,_ => rfl
 | e,x :: e',h,hf => by
  simp only [app]
  rw [app_comm e e' _ (fun z hz => hf z (by simp [hz])),app_upd1_comm e h x (hf x (by simp))]
theorem foldH_app {D:Nat → Bool} (e:List (Nat × Upd)):∀ (l:List Rec) (k:Nat) (h:HF),(∀ j r,l[j]? = some r → D (k + j) = true → ∀ x ∈ e,∀ y ∈ r.out.eff,updFree x y = true) →
  foldH D k l (app e h) = app e (foldH D k l h)
 | [],k,h,_ => rfl
 | r :: l,k,h,hf => by
  simp only [foldH]
  have ih:=fun h => foldH_app (D:=D) e l (k + 1) h (fun j r' hj hd => hf (j + 1) r' (by simpa using hj) (by rw [show k + (j + 1) = k + 1 + j by omega];exact hd))
  split
  ·rename_i hk
   rw [app_comm _ _ _ (fun x hx y hy => hf 0 r (by simp) (by simpa using hk) x hx y hy)]
   exact ih _
  ·exact ih _
theorem foldT_put {D:Nat → Bool} (d:Option Tmp) (v:Value):∀ (l:List Rec) (k:Nat) (T:Nat → Value),(∀ j r,l[j]? = some r → D (k + j) = true → ∀ x,d = some x → r.o.dst ≠ some x) →
  foldT D k l (tupd T d v) = tupd (foldT D k l T) d v
 | [],k,T,_ => rfl
 | r :: l,k,T,hf => by
  simp only [foldT]
  have ih:=fun T => foldT_put (D:=D) d v l (k + 1) T (fun j r' hj hd => hf (j + 1) r' (by simpa using hj) (by rw [show k + (j + 1) = k + 1 + j by omega];exact hd))
  split
  ·rename_i hk
   have e:tupd (tupd T d v) r.o.dst r.out.v = tupd (tupd T r.o.dst r.out.v) d v:=by
    funext t
    unfold tupd
    cases hd:d with
    | none => rfl
    | some x =>
     cases hr:r.o.dst with
     | none => rfl
     | some y =>
      have hne:y ≠ x:=by rintro rfl;exact hf 0 r (by simp) (by simpa using hk) y hd hr
      simp only
      cases h1:Nat.beq t x <;> cases h2:Nat.beq t y <;> simp
      exact absurd ((beq_tt h2).symm.trans (beq_tt h1)) hne
   rw [e]
   exact ih _
  ·exact ih _
def plus (D:Nat → Bool) (i:Nat):Nat → Bool:=fun k => D k || Nat.beq k i
theorem foldT_plus {D:Nat → Bool} {i:Nat} (hD:D i = false):∀ (l:List Rec) (k:Nat) (T:Nat → Value) (r:Rec),l[i - k]? = some r → k ≤ i →
  (∀ j r',l[j]? = some r' → i < k + j → D (k + j) = true → ∀ x,r.o.dst = some x → r'.o.dst ≠ some x) → foldT (plus D i) k l T = tupd (foldT D k l T) r.o.dst r.out.v
 | [],k,T,r,hr,_,_ => by simp at hr
 | r0 :: l,k,T,r,hr,hk,hf => by
  simp only [foldT]
  by_cases hki:k = i
  ·subst hki
   simp only [Nat.sub_self,List.getElem?_cons_zero,Option.some.injEq] at hr
   subst hr
   have h1:plus D k k = true:=by simp [plus,beq_self]
   rw [h1,hD]
   simp only [if_true,Bool.false_eq_true,if_false]
   have hsame:∀ (l:List Rec) (m:Nat) (T:Nat → Value),k < m → foldT (plus D k) m l T = foldT D m l T:=by
    intro l
    induction l with
    | nil => intro m T _;rfl
    | cons a l ih =>
     intro m T hm
     have:plus D k m = D m:=by simp [plus,beq_ne (show m ≠ k by omega)]
     simp only [foldT,this]
     exact ih (m + 1) _ (by omega)
   rw [hsame l (k + 1) _ (by omega)]
   exact foldT_put r0.o.dst r0.out.v l (k + 1) T (fun j r' hj hd x hx => hf (j + 1) r' (by simpa using hj) (by omega) (by rw [show k + (j + 1) = k + 1 + j by omega];exact hd) x hx)
  ·have:plus D i k = D k:=by simp [plus,beq_ne hki]
   rw [this]
   refine foldT_plus hD l (k + 1) _ r ?_ (by omega) (fun j r' hj hlt hd => hf (j + 1) r' (by simpa using hj) (by omega) (by rw [show k + (j + 1) = k + 1 + j by omega];exact hd))
   rw [show i - k = (i - (k + 1)) + 1 by omega] at hr
   simpa using hr
theorem foldH_plus {D:Nat → Bool} {i:Nat} (hD:D i = false):∀ (l:List Rec) (k:Nat) (h:HF) (r:Rec),l[i - k]? = some r → k ≤ i →
  (∀ j r',l[j]? = some r' → i < k + j → D (k + j) = true → ∀ x ∈ r.out.eff,∀ y ∈ r'.out.eff,updFree x y = true) → foldH (plus D i) k l h = app r.out.eff (foldH D k l h)
 | [],k,h,r,hr,_,_ => by simp at hr
 | r0 :: l,k,h,r,hr,hk,hf => by
  simp only [foldH]
  by_cases hki:k = i
  ·subst hki
   simp only [Nat.sub_self,List.getElem?_cons_zero,Option.some.injEq] at hr
   subst hr
   have h1:plus D k k = true:=by simp [plus,beq_self]
   rw [h1,hD]
   simp only [if_true,Bool.false_eq_true,if_false]
   have hsame:∀ (l:List Rec) (m:Nat) (h:HF),k < m → foldH (plus D k) m l h = foldH D m l h:=by
    intro l
    induction l with
    | nil => intro m h _;rfl
    | cons a l ih =>
     intro m h hm
     have:plus D k m = D m:=by simp [plus,beq_ne (show m ≠ k by omega)]
     simp only [foldH,this]
     exact ih (m + 1) _ (by omega)
   rw [hsame l (k + 1) _ (by omega)]
   exact foldH_app r0.out.eff l (k + 1) h (fun j r' hj hd => hf (j + 1) r' (by simpa using hj) (by omega) (by rw [show k + (j + 1) = k + 1 + j by omega];exact hd))
  ·have:plus D i k = D k:=by simp [plus,beq_ne hki]
   rw [this]
   refine foldH_plus hD l (k + 1) _ r ?_ (by omega) (fun j r' hj hlt hd => hf (j + 1) r' (by simpa using hj) (by omega) (by rw [show k + (j + 1) = k + 1 + j by omega];exact hd))
   rw [show i - k = (i - (k + 1)) + 1 by omega] at hr
   simpa using hr
end Go.Proofs.Ytgnhhnmpeklciaa.VX
namespace Go.Proofs.Ytgnhhnmpeklciaa.VX
open Go
theorem newOk_lt:∀ {τ σ:List (Nat × Nat)} {n0 n:Nat},newOk τ σ n0 n = true → ∀ i ∈ τ.map (·.2),n ≤ i ∧ i < n + τ.length
 | [],σ,n0,n,_,i,hm => by simp at hm
 | (j,k) :: r,σ,n0,n,h,i,hm => by
  simp only [newOk,Bool.and_eq_true] at h
  simp only [List.map_cons,List.mem_cons] at hm
  simp only [List.length_cons]
  rcases hm with rfl | hm
  ·have:=beq_tt h.1.1.1
   omega
  ·have:=newOk_lt h.2 i hm
   omega
theorem xcall_new {P:Program} {H:HF} {n:Nat} {g:FuncId} {args:List Value} {hs:List Hint} {out:Out} (h:xcall P H n g args hs = some out):n ≤ out.n ∧ ∀ i ∈ out.new,n ≤ i ∧ i < out.n:=by
 unfold xcall at h
 split at h
 ·rename_i σ τ n0 v post hs'
  cases hsub:subHeap H σ σ with
  | none => simp [hsub] at h
  | some h0 =>
  simp only [hsub] at h
  cases hpe:postEff (renBack σ τ) post with
  | none => simp [hpe] at h
  | some e =>
  simp only [hpe] at h
  cases hc:(swapOk σ n0 && newOk τ σ n0 n && (nodupIds post && postHas post τ τ) && Nat.ble 1000 n0) <;> rw [hc] at h
  ·simp at h
  simp only [cond_true,Option.some.injEq] at h
  subst h
  simp only [Bool.and_eq_true] at hc
  exact ⟨by simp,newOk_lt hc.1.1.2⟩
 ·simp at h
theorem xcallA_new {P:Program} {H:HF} {n:Nat} {g:FuncId} {args:List Value} {hs:List Hint} {out:Out} (h:xcallA P H n g args hs = some out):n ≤ out.n ∧ ∀ i ∈ out.new,n ≤ i ∧ i < out.n:=by
 unfold xcallA at h
 split at h
 ·split at h
  ·rename_i out' hx
   cases hc:lendOk _ out'.eff <;> rw [hc] at h
   ·simp at h
   ·simp at h;subst h;exact xcall_new hx
  ·simp at h
 ·simp only [Option.some.injEq] at h;subst h;exact ⟨Nat.le_refl _,by simp⟩
 ·exact xcall_new h
theorem xop0_new {P:Program} {ρ:Operand → Value} {H:HF} {n:Nat} {hs:List Hint} {o:Oper} {out:Out} (h:xop0 P ρ H n hs o = some out):n ≤ out.n ∧ ∀ i ∈ out.new,n ≤ i ∧ i < out.n:=by
 have hsil:∀ v hs ob,VX.silent v n hs ob = out → n ≤ out.n ∧ ∀ i ∈ out.new,n ≤ i ∧ i < out.n:=by
  intro v hs ob he;subst he;exact ⟨Nat.le_refl _,by simp [VX.silent]⟩
 have hnew:∀ B v hs ob,VX.newBlk n B v hs ob = out → n ≤ out.n ∧ ∀ i ∈ out.new,n ≤ i ∧ i < out.n:=by
  intro B v hs ob he;subst he;exact ⟨by simp [VX.newBlk],by simp [VX.newBlk]⟩
 unfold xop0 at h
 split at h
 case h_20 =>
  split at h
  ·split at h
   ·exact xcallA_new h
   ·simp at h
  ·repeat' split at h
   all_goals first | (simp at h;done) | (simp only [Option.some.injEq] at h;exact hsil _ _ _ h)
  ·simp at h
 case h_6 =>
  split at h
  ·simp only [Option.some.injEq] at h;subst h;exact ⟨Nat.le_refl _,by simp⟩
  ·simp at h
 case h_7 =>
  split at h
  ·simp only [Option.some.injEq] at h;subst h;exact ⟨Nat.le_refl _,by simp⟩
  ·simp only [Option.some.injEq] at h;subst h;exact ⟨Nat.le_refl _,by simp⟩
  ·simp at h
 case h_4 =>
  split at h
  ·split at h
   ·cases hf:flat _ <;> rw [hf] at h
    ·simp at h
    ·simp only [cond_true] at h
     split at h
     ·cases hm:matchSegs _ _ <;> rw [hm] at h
      ·simp at h
      ·simp only [cond_true,Option.some.injEq] at h;exact hnew _ _ _ _ h
     ·simp only [Option.some.injEq] at h;exact hnew _ _ _ _ h
   ·simp at h
  ·simp at h
 case h_5 x _ =>
  cases hst:(ρ x).cells.toList.all storable <;> rw [hst] at h
  ·simp at h
  ·simp only [cond_true] at h
   split at h
   ·rename_i g hs'
    cases hgr:groupSegs g (ρ x).cells.toList with
    | none => simp [hgr] at h
    | some l => simp only [hgr,Option.map_some,Option.some.injEq] at h;exact hnew _ _ _ _ h
   ·rename_i l hs'
    cases hm:matchSegs l (ρ x).cells.toList <;> rw [hm] at h
    ·simp at h
    ·simp only [cond_true,Option.some.injEq] at h;exact hnew _ _ _ _ h
   ·simp only [Option.some.injEq] at h;exact hnew _ _ _ _ h
 case h_18 t len parts ho =>
  split at h
  ·split at h
   ·rename_i inf hi
    split at h
    ·rename_i z hz
     cases hc:(flat z && Nat.beq z.cells.toList.length inf.size && Nat.ble 1 inf.size && Nat.ble ((len + 1) * inf.size) 16777216) <;> rw [hc] at h
     ·simp at h
     ·simp only [cond_true] at h
      cases hl:layAll (fun i => some (i * inf.size,inf.size)) (parts.toList.map fun p => (p.1,ρ p.2)) (repeatCells z.cells.toList (len + 1)) with
      | none => simp [hl] at h
      | some l =>
       simp only [hl,Option.map_some,Option.some.injEq] at h
       split at h <;> exact hnew _ _ _ _ h
    ·simp at h
   ·simp at h
  ·simp at h
 case h_17 t parts ho =>
  split at h
  ·rename_i inf fields hi hu
   split at h
   ·rename_i z pl hz hpl
    cases hf:flat z <;> rw [hf] at h
    ·simp at h
    ·simp only [cond_true] at h
     cases hl:layAll (fun i => pl[i]?) (parts.toList.map fun p => (p.1,ρ p.2)) z.cells.toList with
     | none => simp [hl] at h
     | some l => simp only [hl,Option.map_some,Option.some.injEq] at h;exact hsil _ _ _ h
   ·simp at h
  ·rename_i inf m e hi hu
   split at h
   ·rename_i z sz hz hsz
    cases hf:flat z <;> rw [hf] at h
    ·simp at h
    ·simp only [cond_true] at h
     cases hl:layAll (fun i => some (i * sz,sz)) (parts.toList.map fun p => (p.1,ρ p.2)) z.cells.toList with
     | none => simp [hl] at h
     | some l => simp only [hl,Option.map_some,Option.some.injEq] at h;exact hsil _ _ _ h
   ·simp at h
  ·simp at h
 case h_15 t x ix ho =>
  split at h
  ·rename_i k i len e cs hix hu hρ
   split at h
   ·rename_i j hs' ha hsz
    cases hc:cs[j]? with
    | none => simp [hc] at h
    | some v => simp only [hc,Option.map_some,Option.some.injEq] at h;exact hsil _ _ _ h
   ·split at h
    ·rename_i k' z r
     cases hl:intsOf k' (.int k' z :: r) with
     | none => simp [hl] at h
     | some l => simp only [hl,Option.map_some,Option.some.injEq] at h;exact hsil _ _ _ h
    ·simp at h
   ·simp at h
  ·simp only [Option.some.injEq] at h;exact hsil _ _ _ h
  ·simp at h
 case h_10 op t x ho =>
  cases hu:xun op (ρ x) with
  | none => simp [hu] at h
  | some v => simp only [hu,Option.map_some,Option.some.injEq] at h;exact hsil _ _ _ h
 case h_11 src dst x ho =>
  split at h
  ·cases hu:xconv P dst (ρ x) with
   | none => simp [hu] at h
   | some v => simp only [hu,Option.map_some,Option.some.injEq] at h;exact hsil _ _ _ h
  ·simp at h
 case h_16 x i ho =>
  split at h
  ·rename_i vs hρ
   cases hc:vs[i]? with
   | none => simp [hc] at h
   | some v => simp only [hc,Option.map_some,Option.some.injEq] at h;exact hsil _ _ _ h
  ·simp at h
 case h_13 t x f ho =>
  split at h
  ·rename_i cs fields hρ hu
   split at h
   ·rename_i fd hfd
    split at h
    ·simp only [Option.some.injEq] at h;exact hsil _ _ _ h
    ·cases hc:cs[fd.offset]? with
     | none => simp [hc] at h
     | some v => simp only [hc,Option.map_some,Option.some.injEq] at h;exact hsil _ _ _ h
    ·simp at h
   ·simp at h
  ·simp at h
 all_goals
  repeat' split at h
  all_goals first | (simp at h;done) | (simp only [Option.some.injEq] at h;exact hsil _ _ _ h)
theorem xopE_new {P:Program} {ρ:Operand → Value} {H:HF} {n:Nat} {hs:List Hint} {o:Oper} {out:Out} (h:xopE P ρ H n hs o = some out):n ≤ out.n ∧ ∀ i ∈ out.new,n ≤ i ∧ i < out.n:=by
 have hsil:∀ v hs ob,VX.silent v n hs ob = out → n ≤ out.n ∧ ∀ i ∈ out.new,n ≤ i ∧ i < out.n:=by
  intro v hs ob he;subst he;exact ⟨Nat.le_refl _,by simp [VX.silent]⟩
 have hnew:∀ B v hs ob,VX.newBlk n B v hs ob = out → n ≤ out.n ∧ ∀ i ∈ out.new,n ≤ i ∧ i < out.n:=by
  intro B v hs ob he;subst he;exact ⟨by simp [VX.newBlk],by simp [VX.newBlk]⟩
 have hmap:∀ {α:Type} (q:Option α) (f:α → Value) (hs:List Hint) (ob:α → List Prop),(q.map fun v => VX.silent (f v) n hs (ob v)) = some out → n ≤ out.n ∧ ∀ i ∈ out.new,n ≤ i ∧ i < out.n:=by
  intro α q f hs ob he
  cases q with
  | none => simp at he
  | some v => simp only [Option.map_some,Option.some.injEq] at he;exact hsil _ _ _ he
 have hbif:∀ {c:Bool} {q:Out},(bif c then some q else none) = some out → q = out:=by
  intro c q he;cases c <;> simp at he;exact he
 unfold xopE at h
 split at h
 ·unfold xloadE at h
  split at h
  ·split at h
   ·exact hsil _ _ _ (hbif h)
   ·exact hmap _ (fun v => v) _ (fun _ => []) h
   ·simp at h
  ·split at h
   ·simp only [Option.some.injEq] at h;subst h;exact ⟨Nat.le_refl _,by simp⟩
   ·simp at h
  ·split at h
   ·split at h
    ·rename_i k a rr _ _
     cases hns:intsOf k (.int k a :: rr) with
     | none => simp [hns] at h
     | some ns => simp only [hns,Option.map_some,Option.some.injEq] at h;subst h;exact ⟨Nat.le_refl _,by simp⟩
    ·rename_i a rr _ _
     cases hns:boolsOf (.bool a :: rr) with
     | none => simp [hns] at h
     | some ns => simp only [hns,Option.map_some,Option.some.injEq] at h;subst h;exact ⟨Nat.le_refl _,by simp⟩
    ·simp at h
   ·simp at h
  ·simp at h
 ·unfold xfieldE at h
  repeat' split at h
  all_goals first | (simp at h;done) | (simp only [Option.some.injEq] at h;exact hsil _ _ _ h)
 ·unfold xatE at h
  split at h
  ·split at h
   ·exact hsil _ _ _ (hbif h)
   ·rename_i hs' _
    revert h
    generalize (Nat.beq _ 1 && Nat.beq _ 1) = c
    intro h
    cases c
    ·simp at h
    ·simp only [cond_true] at h
     split at h
     ·rename_i k' a rr _
      cases hns:intsOf k' (.int k' a :: rr) with
      | none => simp [hns] at h
      | some ns => simp only [hns,Option.map_some,Option.some.injEq] at h;exact hsil _ _ _ h
     ·rename_i a rr _
      cases hns:strsOf (.string a :: rr) with
      | none => simp [hns] at h
      | some ns => simp only [hns,Option.map_some,Option.some.injEq] at h;exact hsil _ _ _ h
     ·simp at h
   ·simp at h
  ·simp at h
 ·unfold xslice at h
  split at h <;> (try split at h) <;> (try split at h) <;> first | (simp at h;done) | exact hsil _ _ _ (hbif h) | (simp only [Option.some.injEq] at h;exact hsil _ _ _ h)
 ·rename_i t parts ho
  cases hp:parts.toList.isEmpty <;> rw [hp] at h
  ·simp at h
  ·simp only [cond_true] at h
   split at h
   ·unfold xnone at h
    split at h
    ·split at h
     ·simp only [Option.some.injEq] at h;exact hsil _ _ _ h
     ·simp at h
    ·simp at h
   ·unfold xempty at h
    split at h
    ·split at h
     ·simp only [Option.some.injEq] at h;exact hnew _ _ _ _ h
     ·simp at h
    ·simp at h
 ·split at h
  ·split at h
   ·simp only [Option.some.injEq] at h;exact hsil _ _ _ h
   ·simp at h
  ·split at h
   ·simp only [Option.some.injEq] at h;exact hsil _ _ _ h
   ·simp at h
  ·split at h
   ·unfold xlenE at h
    split at h
    ·split at h <;> exact hsil _ _ _ (hbif h)
    ·simp at h
   ·simp at h
  ·have hone:∀ q:Out,q.n = n + 1 → q.new = [n] → q = out → n ≤ out.n ∧ ∀ i ∈ out.new,n ≤ i ∧ i < out.n:=by
    intro q h1 h2 he;subst he;rw [h1,h2];exact ⟨by omega,by simp⟩
   have hbif2:∀ {c d:Bool} {q:Out},(bif c then (bif d then some q else none) else none) = some out → q = out:=by
    intro c d q he;cases c <;> cases d <;> simp at he;exact he
   split at h
   ·unfold xappendL at h
    repeat' split at h
    all_goals first | (simp at h;done) | exact hone _ rfl rfl (hbif h)
   ·split at h
    ·rename_i out' h'
     simp only [Option.some.injEq] at h;subst h
     unfold xappendW at h'
     repeat' split at h'
     all_goals first | (simp at h';done) | exact hone _ rfl rfl (hbif h') | exact hone _ rfl rfl (hbif2 h')
    ·unfold xappendN at h
     repeat' split at h
     all_goals first | (simp at h;done) | exact hone _ rfl rfl (Option.some.inj h)
   ·unfold xappend at h
    repeat' split at h
    all_goals first | (simp at h;done) | exact hone _ rfl rfl (hbif h) | exact hone _ rfl rfl (hbif2 h)
  ·simp at h
 ·split at h
  ·rename_i out' h'
   simp only [Option.some.injEq] at h;subst h
   unfold xeqNil at h'
   split at h'
   ·rename_i hρ _
    cases he:eqv P 10000 _ (.slice (some ⟨0,0,none⟩) 0 0) (.slice none 0 0) with
    | none => rw [he] at h';simp at h'
    | some c => rw [he] at h';simp only [Option.map_some,Option.some.injEq] at h';exact hsil _ _ _ h'
   ·simp at h'
  ·unfold xeqNilT at h
   split at h
   ·cases he:eqv P 10000 _ (.slice (some ⟨0,0,none⟩) 0 0) (.slice none 0 0) with
    | none => rw [he] at h;simp at h
    | some c => rw [he] at h;simp only [Option.map_some,Option.some.injEq] at h;exact hsil _ _ _ h
   ·cases he:eqv P 10000 _ (.slice (some ⟨0,0,none⟩) 0 0) (.slice none 0 0) with
    | none => rw [he] at h;simp at h
    | some c => rw [he] at h;simp only [Option.map_some,Option.some.injEq] at h;exact hsil _ _ _ h
   ·simp at h
 ·unfold xmake at h
  repeat' split at h
  all_goals first | (simp at h;done) | skip
  rename_i n' _ _ _ _ _ _ _ _ _ _ _ _ _
  revert h
  generalize (Nat.beq _ 1 && _ && _ && _ && _) = c
  intro h
  cases c
  ·simp at h
  ·simp only [cond_true,Option.some.injEq] at h;exact hnew _ _ _ _ h
 ·simp at h
theorem xopA_new {P:Program} {ρ:Operand → Value} {H:HF} {n:Nat} {hs:List Hint} {o:Oper} {out:Out} (h:xopA P ρ H n hs o = some out):n ≤ out.n ∧ ∀ i ∈ out.new,n ≤ i ∧ i < out.n:=by
 unfold xopA at h
 split at h
 ·rename_i out0 h0
  simp only [Option.some.injEq] at h;subst h
  exact xop0_new h0
 ·exact xopE_new h
theorem xop_new {P:Program} {ρ:Operand → Value} {H:HF} {n:Nat} {hs:List Hint} {o:Oper} {out:Out} (h:xop P ρ H n hs o = some out):n ≤ out.n ∧ ∀ i ∈ out.new,n ≤ i ∧ i < out.n:=by
 unfold xop at h
 split at h
 ·rename_i d w hs'
  cases hd:dstIs o.dst d <;> rw [hd] at h
  ·exact xopA_new h
  ·simp only [cond_true] at h
   cases h0:xopA P ρ H n hs' o with
   | none => simp [h0] at h
   | some out0 =>
    simp only [h0,Option.map_some,Option.some.injEq] at h
    subst h
    have hn:=xopA_new h0
    exact hn
 ·split at h
  ·rename_i out0 h0
   simp only [Option.some.injEq] at h;subst h
   unfold xborn at h0
   simp only [Bool.cond_eq_ite] at h0
   repeat' split at h0
   all_goals first | (simp at h0;done) | (simp only [Option.some.injEq] at h0;subst h0;exact ⟨Nat.le_refl _,by simp [VX.silent]⟩)
  ·exact xopA_new h
 ·split at h
  ·rename_i out0 h0
   simp only [Option.some.injEq] at h;subst h
   unfold xwhole at h0
   simp only [Bool.cond_eq_ite] at h0
   repeat' split at h0
   all_goals first | (simp at h0;done) | (simp only [Option.some.injEq] at h0;subst h0;exact ⟨Nat.le_refl _,by simp⟩)
  ·exact xopA_new h
 ·exact xopA_new h
structure RecOk (P:Program) (N:Nat) (ops:Array Oper) (T:Tm) (H:Heap) (r:Rec):Prop where
 dst:∀ d,r.o.dst = some d → d < N
 run:∃ n hs hs1 ob1,xwant ops T r.o hs = some (r.ran,hs1,ob1) ∧ (r.ran = true → ∃ out,xop P (ev P T) (lk H) n hs1 r.o = some out ∧ r.out = { out with ob:=ob1 ++ out.ob }) ∧ (r.ran = false → r.out = skipped n hs1 ob1)
theorem dstOk_spec {N:Nat} {d:Option Tmp} (h:dstOk N d = true):∀ x,d = some x → x < N:=by
 intro x hx
 subst hx
 exact blt_tt h
theorem xreg_spec {P:Program} {N:Nat} {ops:Array Oper}:∀ {l:List Oper} {T T':Tm} {H H':Heap} {n n':Nat} {hs hs':List Hint} {recs:List Rec},xreg P N ops l T H n hs = some (recs,T',H',n',hs') →
  recs.map (·.o) = l ∧ n ≤ n' ∧ (∀ r ∈ recs,∀ i ∈ r.out.new,n ≤ i ∧ i < n') ∧ (∀ (i j:Nat) (r r':Rec),i < j → recs[i]? = some r → recs[j]? = some r' → ∀ x ∈ r.out.new,∀ y ∈ r'.out.new,x < y) ∧
  ∀ k,tget T' = foldT (fun _ => true) k recs (tget T) ∧ lk H' = foldH (fun _ => true) k recs (lk H) ∧
   ∀ (i:Nat) (r:Rec),recs[i]? = some r → ∃ Ti Hi,tget Ti = foldT (fun j => Nat.blt j (k + i)) k recs (tget T) ∧ lk Hi = foldH (fun j => Nat.blt j (k + i)) k recs (lk H) ∧ RecOk P N ops Ti Hi r
 | [],T,T',H,H',n,n',hs,hs',recs,h => by
  simp only [xreg,Option.some.injEq,Prod.mk.injEq] at h
  obtain ⟨rfl,rfl,rfl,rfl,rfl⟩:=h
  exact ⟨rfl,Nat.le_refl _,by simp,by simp,fun k => ⟨rfl,rfl,by simp⟩⟩
 | o :: l,T,T',H,H',n,n',hs,hs',recs,h => by
  simp only [xreg] at h
  cases hd:dstOk N o.dst <;> rw [hd] at h
  ·simp at h
  simp only [cond_true] at h
  have step:∀ (r0:Rec) (recs1:List Rec) (v:Value) (e:List (Nat × Upd)) (n1:Nat) (hs1:List Hint),r0.o = o → r0.out.v = v → r0.out.eff = e → n ≤ n1 → (∀ i ∈ r0.out.new,n ≤ i ∧ i < n1) →
    xreg P N ops l (tput T o.dst v) (happ e H) n1 hs1 = some (recs1,T',H',n',hs') → recs = r0 :: recs1 → RecOk P N ops T H r0 →
    recs.map (·.o) = o :: l ∧ n ≤ n' ∧ (∀ r ∈ recs,∀ i ∈ r.out.new,n ≤ i ∧ i < n') ∧ (∀ (i j:Nat) (r r':Rec),i < j → recs[i]? = some r → recs[j]? = some r' → ∀ x ∈ r.out.new,∀ y ∈ r'.out.new,x < y) ∧
    ∀ k,tget T' = foldT (fun _ => true) k recs (tget T) ∧ lk H' = foldH (fun _ => true) k recs (lk H) ∧
     ∀ (i:Nat) (r:Rec),recs[i]? = some r → ∃ Ti Hi,tget Ti = foldT (fun j => Nat.blt j (k + i)) k recs (tget T) ∧ lk Hi = foldH (fun j => Nat.blt j (k + i)) k recs (lk H) ∧ RecOk P N ops Ti Hi r:=by
   intro r0 recs1 v e n1 hs1 ho hv he hn1 hnew hrest hrecs hok
   obtain ⟨h1,h2,h3,h4,h5⟩:=xreg_spec hrest
   subst hrecs
   refine ⟨by simp [ho,h1],by omega,?_,?_,?_⟩
   ·intro r hr i hi
    simp only [List.mem_cons] at hr
    rcases hr with rfl | hr
    ·have:=hnew i hi;omega
    ·have:=h3 r hr i hi;omega
   ·intro i j r r' hij hi hj x hx y hy
    cases j with
    | zero => omega
    | succ j =>
     simp only [List.getElem?_cons_succ] at hj
     cases i with
     | zero =>
      simp only [List.getElem?_cons_zero,Option.some.injEq] at hi
      subst hi
      have:=hnew x hx
      have:=h3 r' (List.mem_of_getElem? hj) y hy
      omega
     | succ i =>
      simp only [List.getElem?_cons_succ] at hi
      exact h4 i j r r' (by omega) hi hj x hx y hy
   ·intro k
    obtain ⟨a,b,c⟩:=h5 (k + 1)
    refine ⟨?_,?_,?_⟩
    ·simp only [foldT,if_true]
     rw [ho,hv,← tget_tput]
     exact a
    ·simp only [foldH,if_true]
     rw [he,← lk_happ]
     exact b
    ·intro i r hr
     cases i with
     | zero =>
      simp only [List.getElem?_cons_zero,Option.some.injEq] at hr
      subst hr
      have hfalse:∀ (m:Nat),k ≤ m → Nat.blt m (k + 0) = false:=by
       intro m hm
       cases e:Nat.blt m (k + 0) with
       | false => rfl
       | true => have:=blt_tt e;omega
      have hT:∀ (l:List Rec) (m:Nat) (T:Nat → Value),k ≤ m → foldT (fun j => Nat.blt j (k + 0)) m l T = T:=by
       intro l
       induction l with
       | nil => intro m T _;rfl
       | cons a l ih => intro m T hm;simp only [foldT,hfalse m hm,Bool.false_eq_true,if_false];exact ih (m + 1) T (by omega)
      have hH:∀ (l:List Rec) (m:Nat) (h:HF),k ≤ m → foldH (fun j => Nat.blt j (k + 0)) m l h = h:=by
       intro l
       induction l with
       | nil => intro m h _;rfl
       | cons a l ih => intro m h hm;simp only [foldH,hfalse m hm,Bool.false_eq_true,if_false];exact ih (m + 1) h (by omega)
      exact ⟨T,H,(hT _ _ _ (Nat.le_refl _)).symm,(hH _ _ _ (Nat.le_refl _)).symm,hok⟩
     | succ i =>
      simp only [List.getElem?_cons_succ] at hr
      obtain ⟨Ti,Hi,e1,e2,e3⟩:=c i r hr
      have hk:Nat.blt k (k + (i + 1)) = true:=Nat.ble_eq_true_of_le (by omega)
      refine ⟨Ti,Hi,?_,?_,e3⟩
      ·simp only [foldT,hk,if_true]
       rw [ho,hv,← tget_tput,show k + (i + 1) = k + 1 + i by omega]
       exact e1
      ·simp only [foldH,hk,if_true]
       rw [he,← lk_happ,show k + (i + 1) = k + 1 + i by omega]
       exact e2
  split at h
  ·rename_i hs1 ob1 hw
   split at h
   ·rename_i out hx
    split at h
    ·rename_i recs1 x hrest
     obtain ⟨T1,H1,n1,hs2⟩:=x
     simp only [Option.some.injEq,Prod.mk.injEq] at h
     obtain ⟨rfl,rfl,rfl,rfl,rfl⟩:=h
     have hnew:=xop_new hx
     exact step _ recs1 out.v out.eff out.n out.hs rfl rfl rfl hnew.1 hnew.2 hrest rfl ⟨dstOk_spec hd,⟨n,hs,hs1,ob1,hw,fun _ => ⟨out,hx,rfl⟩,fun h => by cases h⟩⟩
    ·simp at h
   ·simp at h
  ·rename_i hs1 ob1 hw
   split at h
   ·rename_i recs1 x hrest
    obtain ⟨T1,H1,n1,hs2⟩:=x
    simp only [Option.some.injEq,Prod.mk.injEq] at h
    obtain ⟨rfl,rfl,rfl,rfl,rfl⟩:=h
    exact step _ recs1 (.chan none) [] n hs1 rfl rfl rfl (Nat.le_refl _) (by simp [skipped]) hrest rfl ⟨dstOk_spec hd,⟨n,hs,hs1,ob1,hw,fun h => (by cases h),fun _ => rfl⟩⟩
   ·simp at h
  ·simp at h
def memB (x:Nat):List Nat → Bool
 | [] => false
 | y :: r => Nat.beq x y || memB x r
theorem memB_ff {x:Nat}:∀ {l:List Nat},memB x l = false → x ∉ l
 | [],_ => by simp
 | y :: r,h => by
  simp only [memB,Bool.or_eq_false_iff] at h
  simp only [List.mem_cons,not_or]
  exact ⟨beq_ff h.1,memB_ff h.2⟩
def tmpsOf:List Operand → List Nat
 | [] => []
 | .tmp t :: r => t :: tmpsOf r
 | _ :: r => tmpsOf r
theorem mem_tmpsOf {t:Nat}:∀ {l:List Operand},Operand.tmp t ∈ l → t ∈ tmpsOf l
 | [],h => by simp at h
 | x :: r,h => by
  simp only [List.mem_cons] at h
  rcases h with rfl | h
  ·simp [tmpsOf]
  ·have:=mem_tmpsOf h
   cases x <;> simp [tmpsOf,this]
def looks (ops:Array Oper) (o:Oper):List Nat:=
 tmpsOf o.op.operands.toList ++ (match o.guard with
  | some (k,_) => match slotOf ops k with
   | some d => [d]
   | none => []
  | none => [])
def indepB (ops:Array Oper) (r r':Rec):Bool:=
 (match r'.o.dst with
  | none => true
  | some d => !memB d (looks ops r.o) && (match r.o.dst with | some x => !Nat.beq x d | none => true)) &&
 r'.out.eff.all fun y => !memB y.1 r.out.rd && (match y.2 with | .blk _ => !memB y.1 r.out.sh | .del => !memB y.1 r.out.sh | .cell .. => true) && r.out.eff.all fun x => updFree x y
structure Indep (ops:Array Oper) (r r':Rec):Prop where
 looks:∀ d,r'.o.dst = some d → d ∉ looks ops r.o
 dst:∀ x,r.o.dst = some x → r'.o.dst ≠ some x
 rd:∀ y ∈ r'.out.eff,y.1 ∉ r.out.rd
 sh:∀ y ∈ r'.out.eff,y.1 ∈ r.out.sh → ∃ o v,y.2 = .cell o v
 eff:∀ x ∈ r.out.eff,∀ y ∈ r'.out.eff,updFree x y = true
theorem indepB_spec {ops:Array Oper} {r r':Rec} (h:indepB ops r r' = true):Indep ops r r':=by
 simp only [indepB,Bool.and_eq_true,List.all_eq_true,Bool.not_eq_true'] at h
 obtain ⟨h1,h2⟩:=h
 refine ⟨?_,?_,?_,?_,?_⟩
 ·intro d hd
  simp only [hd,Bool.and_eq_true,Bool.not_eq_true'] at h1
  exact memB_ff h1.1
 ·intro x hx hx'
  simp only [hx',hx,Bool.and_eq_true,Bool.not_eq_true'] at h1
  rw [beq_self] at h1
  simp at h1
 ·intro y hy
  exact memB_ff (h2 y hy).1.1
 ·intro y hy hsh
  have:=(h2 y hy).1.2
  cases hu:y.2 with
  | cell o v => exact ⟨o,v,rfl⟩
  | blk B => simp only [hu,Bool.not_eq_true'] at this;exact absurd hsh (memB_ff this)
  | del => simp only [hu,Bool.not_eq_true'] at this;exact absurd hsh (memB_ff this)
 ·intro x hx y hy
  exact (h2 y hy).2 x hx
structure Inv (P:Program) (N:Nat) (recs:List Rec) (T0:Nat → Value) (H0:HF) (μ0:Mu) (w0:World) (D:Nat → Bool) (μ:Mu) (a:Act) (w:World):Prop where
 gl:Gl P μ
 tm:TRel N μ (foldT D 0 recs T0) a.tmps
 rep:Rep μ (foldH D 0 recs H0) w
 defers:a.defers = []
 fresh:∀ j r,recs[j]? = some r → D j = false → ∀ i ∈ r.out.new,μ i = none
 le:μ0.le μ
 keeps:Keeps μ0 H0 w0 μ (foldH D 0 recs H0) w
 other:∀ i,(∀ r ∈ recs,i ∉ r.out.new) → μ i = μ0 i
theorem Gl.le {P:Program} {μ μ':Mu} (h:Gl P μ) (hl:μ.le μ'):Gl P μ':=fun g hg => hl g g (h g hg)
theorem wanted_of {ops:Array Oper} {T:Tm} {o:Oper} {hs hs1:List Hint} {b:Bool} {ob:List Prop} (h:xwant ops T o hs = some (b,hs1,ob)) (hob:∀ q ∈ ob,q) {μ:Mu} {tmps:Array Value}
  (ht:∀ d,d ∈ looks ops o → VRel μ (tget T d) (tmps.getD d undef)):Region.wanted o (yielded ops tmps) = b:=by
 unfold xwant at h
 unfold Region.wanted
 cases hg:o.guard with
 | none => simp [hg] at h;simp [h.1]
 | some q =>
  obtain ⟨k,want⟩:=q
  simp only [hg] at h ⊢
  unfold yielded
  cases hs:slotOf ops k with
  | none =>
   simp only [hs,Option.some.injEq,Prod.mk.injEq] at h
   unfold slotOf at hs
   rw [hs]
   simp [← h.1]
  | some d =>
   simp only [hs] at h
   have hd:=ht d (by unfold looks;simp [hg,hs])
   unfold slotOf at hs
   rw [hs]
   simp only [Option.bind_some]
   split at h
   ·rename_i c hc
    rw [hc] at hd
    have he:tmps.getD d undef = .bool c:=by
     revert hd;generalize tmps.getD d undef = X;intro hd;cases hd;rfl
    have he2:tmps[d]? = some (.bool c):=by
     rw [Array.getD_eq_getD_getElem?] at he
     cases hx:tmps[d]? with
     | none => rw [hx] at he;simp [undef] at he
     | some x => rw [hx] at he;simp at he;rw [he]
    rw [he2]
    split at h
    ·rename_i b' hs2 ob2 htk
     simp only [Option.some.injEq,Prod.mk.injEq] at h
     obtain ⟨rfl,rfl,rfl⟩:=h
     have:=takeB_spec htk hob
     subst this
     simp
    ·simp at h
   ·rename_i hc
    simp only [Option.some.injEq,Prod.mk.injEq] at h
    rw [hc] at hd
    have he:tmps.getD d undef = .tuple #[]:=by
     revert hd;generalize tmps.getD d undef = X;intro hd;cases hd;rfl
    have he2:tmps[d]? = none ∨ tmps[d]? = some (.tuple #[]):=by
     rw [Array.getD_eq_getD_getElem?] at he
     cases hx:tmps[d]? with
     | none => exact .inl rfl
     | some x => rw [hx] at he;simp at he;rw [he];exact .inr rfl
    rcases he2 with he2 | he2 <;> rw [he2] <;> simp [← h.1]
   ·simp at h
theorem Inv.step {P:Program} {N:Nat} {ops:Array Oper} {recs:List Rec} {T0:Tm} {H0:Heap} {μ0:Mu} {w0:World} {D:Nat → Bool} {μ:Mu} {a:Act} {w:World} (hG:P.globals.size ≤ 1000)
  (inv:Inv P N recs (tget T0) (lk H0) μ0 w0 D μ a w) {i:Nat} {r:Rec} (hr:recs[i]? = some r) (ho:ops[i]? = some r.o) (hD:D i = false) {Ti:Tm} {Hi:Heap}
  (eT:tget Ti = foldT (fun j => Nat.blt j i) 0 recs (tget T0)) (eH:lk Hi = foldH (fun j => Nat.blt j i) 0 recs (lk H0)) (hok:RecOk P N ops Ti Hi r) (hob:∀ q ∈ r.out.ob,q)
  (hnew:∀ (p q:Nat) (s s':Rec),p < q → recs[p]? = some s → recs[q]? = some s' → ∀ x ∈ s.out.new,∀ y ∈ s'.out.new,x < y)
  (hind:∀ j r',recs[j]? = some r' → ((D j = true ∧ i < j) ∨ (D j = false ∧ j < i)) → Indep ops r r') {Q:Exit → Act → World → Prop} {K:Act → World → Prop}
  (hK:∀ μ' a' w',Inv P N recs (tget T0) (lk H0) μ0 w0 (plus D i) μ' a' w' → K a' w'):wpOp P ops Q i K a w:=by
 have hdiff:∀ j r',recs[j]? = some r' → D (0 + j) ≠ Nat.blt (0 + j) i → Indep ops r r':=by
  intro j r' hj hne
  rw [Nat.zero_add] at hne
  refine hind j r' hj ?_
  cases hDj:D j with
  | true =>
   refine .inl ⟨rfl,?_⟩
   have hb:Nat.blt j i = false:=by
    cases e:Nat.blt j i with
    | false => rfl
    | true => rw [hDj,e] at hne;exact absurd rfl hne
   have:=blt_ff hb
   have:j ≠ i:=by rintro rfl;rw [hD] at hDj;cases hDj
   omega
  | false =>
   refine .inr ⟨rfl,?_⟩
   have hb:Nat.blt j i = true:=by
    cases e:Nat.blt j i with
    | true => rfl
    | false => rw [hDj,e] at hne;exact absurd rfl hne
   exact blt_tt hb
 have hT:∀ t,t ∈ looks ops r.o → tget Ti t = foldT D 0 recs (tget T0) t:=by
  intro t ht
  rw [eT]
  exact (foldT_agree t recs 0 _ _ rfl fun j r' hj hne hd => (hdiff j r' hj hne).looks t hd ht).symm
 have hTr:∀ t,t ∈ looks ops r.o → VRel μ (tget Ti t) (a.tmps.getD t undef):=fun t ht => by rw [hT t ht];exact inv.tm.2 t
 obtain ⟨n,hs,hs1,ob1,hw,hrun,hskip⟩:=hok.run
 have hob1:∀ q ∈ ob1,q:=by
  cases hran:r.ran with
  | true => obtain ⟨out,_,he⟩:=hrun hran;intro q hq;exact hob q (by rw [he];simp [hq])
  | false => intro q hq;exact hob q (by rw [hskip hran];exact hq)
 have hwant:=wanted_of hw hob1 (μ:=μ) hTr
 unfold wpOp
 simp only [ho]
 have hi0:recs[i - 0]? = some r:=by simpa using hr
 have ePlusT:foldT (plus D i) 0 recs (tget T0) = tupd (foldT D 0 recs (tget T0)) r.o.dst r.out.v:=
  foldT_plus hD recs 0 _ r hi0 (Nat.zero_le _) fun j r' hj hlt hd x hx => (hind j r' hj (.inl ⟨by simpa using hd,by omega⟩)).dst x hx
 have ePlusH:foldH (plus D i) 0 recs (lk H0) = app r.out.eff (foldH D 0 recs (lk H0)):=
  foldH_plus hD recs 0 _ r hi0 (Nat.zero_le _) fun j r' hj hlt hd x hx y hy => (hind j r' hj (.inl ⟨by simpa using hd,by omega⟩)).eff x hx y hy
 have hfreshP:∀ μ':Mu,(∀ k,k ∉ r.out.new → μ' k = μ k) → ∀ j r',recs[j]? = some r' → plus D i j = false → ∀ k ∈ r'.out.new,μ' k = none:=by
  intro μ' hoth j r' hj hpj k hk
  simp only [plus,Bool.or_eq_false_iff] at hpj
  have hji:=beq_ff hpj.2
  have hkn:k ∉ r.out.new:=by
   intro hkr
   rcases Nat.lt_or_gt_of_ne hji with h | h
   ·have:=hnew j i r' r h hj hr k hk k hkr;omega
   ·have:=hnew i j r r' h hr hj k hkr k hk;omega
  rw [hoth k hkn]
  exact inv.fresh j r' hj hpj.1 k hk
 cases hran:r.ran with
 | false =>
  have hout:=hskip hran
  rw [hran] at hwant
  rw [hwant]
  simp only [Bool.false_eq_true,if_false]
  refine hK μ _ w ⟨inv.gl,?_,?_,by rw [put_defers];exact inv.defers,hfreshP μ (fun _ _ => rfl),inv.le,?_,inv.other⟩
  ·rw [ePlusT,hout]
   exact inv.tm.put hok.dst .und
  ·rw [ePlusH,hout];exact inv.rep
  ·rw [ePlusH,hout];exact inv.keeps
 | true =>
  obtain ⟨out,hx,hout⟩:=hrun hran
  rw [hran] at hwant
  rw [hwant]
  simp only [if_true]
  refine .inl ?_
  have hobo:∀ q ∈ out.ob,q:=fun q hq => hob q (by rw [hout];simp [hq])
  have hspec:=xop_ok hG hx hobo (foldH D 0 recs (lk H0))
   (fun k hk => by
    rw [eH]
    exact foldH_agree k recs 0 _ _ rfl fun j r' hj hne y hy hyk => (hdiff j r' hj hne).rd y hy (by rw [hout,hyk];exact hk))
   (fun k hk => by
    rw [eH]
    exact sameShape_of (foldH_shape k recs 0 _ _ rfl fun j r' hj hne y hy hyk => (hdiff j r' hj hne).sh y hy (by rw [hout,hyk];exact hk)))
  refine hspec μ a w inv.gl (fun x hx => ?_) inv.rep (fun k hk => inv.fresh i r hr hD k (by rw [hout];exact hk)) K Q ?_
  ·cases x with
   | tmp t =>
    exact hTr t (by unfold looks;simp only [List.mem_append];exact .inl (mem_tmpsOf (by simpa using hx)))
   | const v =>
    simp only [ev,Act.eval]
    cases h:flat v
    ·exact .junk _
    ·exact .of_flat h
   | global g =>
    simp only [ev,Act.eval]
    cases h:Nat.blt g P.globals.size
    ·exact .junk _
    ·exact .ptr (inv.gl g (blt_tt h)) 0
   | func f => exact .func _ .nil .nil
  ·intro μ' w' rv hle hoth hrep hv hkeep
   refine hK μ' _ w' ⟨inv.gl.le hle,?_,?_,by rw [put_defers];exact inv.defers,hfreshP μ' (fun k hk => hoth k (by rw [hout] at hk;exact hk)),Mu.le_trans inv.le hle,?_,?_⟩
   ·rw [ePlusT,hout]
    exact (inv.tm.mono hle).put hok.dst hv
   ·rw [ePlusH,hout];exact hrep
   ·rw [ePlusH,hout];exact inv.keeps.trans hkeep
   ·intro k hk
    rw [hoth k (by have:=hk r (List.mem_of_getElem? hr);rw [hout] at this;exact this)]
    exact inv.other k hk
end Go.Proofs.Ytgnhhnmpeklciaa.VX
namespace Go.Proofs.Ytgnhhnmpeklciaa.VX
open Go
def maskOf (acc:List Nat):List Edge → Nat → Nat
 | [],s => s
 | e :: r,s => maskOf acc r (bif Region.binds .any e then Nat.lor (Nat.lor s (2 ^ e.on)) (acc.getD e.on 0) else s)
def masksGo:List Oper → List Nat → List Nat
 | [],acc => acc
 | o :: r,acc => masksGo r (acc ++ [maskOf acc o.after.toList 0])
def edgesOk:Nat → List Oper → Bool
 | _,[] => true
 | i,o :: r => (o.after.toList.all fun e => !Region.binds .any e || Nat.blt e.on i) && edgesOk (i + 1) r
theorem edgesOk_spec:∀ {l:List Oper} {k:Nat},edgesOk k l = true → ∀ i o,l[i]? = some o → ∀ e ∈ o.after,Region.binds .any e = true → e.on < k + i
 | [],k,_,i,o,h,_,_,_ => by simp at h
 | x :: r,k,h,i,o,hi,e,he,hb => by
  simp only [edgesOk,Bool.and_eq_true,List.all_eq_true,Bool.or_eq_true,Bool.not_eq_true'] at h
  cases i with
  | zero =>
   simp only [List.getElem?_cons_zero,Option.some.injEq] at hi
   subst hi
   rcases h.1 e (by simpa using he) with h1 | h1
   ·rw [hb] at h1;cases h1
   ·have:=blt_tt h1;omega
  | succ i =>
   simp only [List.getElem?_cons_succ] at hi
   have:=edgesOk_spec h.2 i o hi e he hb
   omega
def Closed (ops:Array Oper) (D:Nat → Bool):Prop:=∀ j o,ops[j]? = some o → D j = true → ∀ e ∈ o.after,Region.binds .any e = true → D e.on = true
theorem maskOf_spec {D:Nat → Bool} {acc:List Nat} (hacc:∀ p m,acc[p]? = some m → D p = true → ∀ k,m.testBit k = true → D k = true):∀ (l:List Edge) (s:Nat),(∀ k,s.testBit k = true → D k = true) →
  (∀ e ∈ l,Region.binds .any e = true → D e.on = true) → ∀ k,(maskOf acc l s).testBit k = true → D k = true
 | [],s,hs,_,k,hk => hs k hk
 | e :: r,s,hs,hl,k,hk => by
  simp only [maskOf] at hk
  refine maskOf_spec hacc r _ ?_ (fun e' he' => hl e' (by simp [he'])) k hk
  intro k hk
  cases hb:Region.binds .any e <;> rw [hb] at hk
  ·exact hs k (by simpa using hk)
  ·have hD:=hl e (by simp) hb
   simp only [cond_true] at hk
   have hk':((s ||| 2 ^ e.on) ||| acc.getD e.on 0).testBit k = true:=hk
   rw [Nat.testBit_or,Nat.testBit_or,Bool.or_eq_true,Bool.or_eq_true] at hk'
   rcases hk' with (h | h) | h
   ·exact hs k h
   ·rw [Nat.testBit_two_pow] at h
    have:e.on = k:=by simpa using h
    rw [← this];exact hD
   ·cases ha:acc[e.on]? with
    | none => simp [List.getD_eq_getElem?_getD,ha] at h
    | some m => simp [List.getD_eq_getElem?_getD,ha] at h;exact hacc e.on m ha hD k h
theorem masksGo_spec {D:Nat → Bool}:∀ (l:List Oper) (acc:List Nat),(∀ p m,acc[p]? = some m → D p = true → ∀ k,m.testBit k = true → D k = true) →
  (∀ i o,l[i]? = some o → D (acc.length + i) = true → ∀ e ∈ o.after,Region.binds .any e = true → D e.on = true) → ∀ p m,(masksGo l acc)[p]? = some m → D p = true → ∀ k,m.testBit k = true → D k = true
 | [],acc,hacc,_ => hacc
 | o :: r,acc,hacc,hl => by
  simp only [masksGo]
  refine masksGo_spec r _ ?_ ?_
  ·intro p m hm hp k hk
   rcases Nat.lt_trichotomy p acc.length with h | h | h
   ·rw [List.getElem?_append_left h] at hm
    exact hacc p m hm hp k hk
   ·subst h
    simp only [List.getElem?_append_right (Nat.le_refl _),Nat.sub_self,List.getElem?_cons_zero,Option.some.injEq] at hm
    subst hm
    refine maskOf_spec hacc _ 0 (by simp) (fun e he hb => hl 0 o (by simp) (by simpa using hp) e (by simpa using he) hb) k hk
   ·rw [List.getElem?_append_right (by omega)] at hm
    simp only [List.getElem?_cons] at hm
    rw [if_neg (by omega)] at hm
    simp at hm
  ·intro i o' hi hp e he hb
   refine hl (i + 1) o' (by simpa using hi) ?_ e he hb
   rw [show acc.length + (i + 1) = (acc ++ [maskOf acc o.after.toList 0]).length + i by simp;omega]
   exact hp
def pairsRow (ops:Array Oper) (r':Rec) (m:Nat):Nat → List Rec → Bool
 | _,[] => true
 | i,r :: l => (Nat.testBit m i || (indepB ops r r' && indepB ops r' r)) && pairsRow ops r' m (i + 1) l
def pairsGo (ops:Array Oper) (ms:List Nat):Nat → List Rec → List Rec → Bool
 | _,_,[] => true
 | j,done,r :: l => pairsRow ops r (ms.getD j 0) 0 done && pairsGo ops ms (j + 1) (done ++ [r]) l
def orderOk (ops:Array Oper) (recs:List Rec):Bool:=
 edgesOk 0 ops.toList && pairsGo ops (masksGo ops.toList []) 0 [] recs
theorem pairsRow_spec {ops:Array Oper} {r':Rec} {m:Nat}:∀ {l:List Rec} {k:Nat},pairsRow ops r' m k l = true → ∀ i r,l[i]? = some r → m.testBit (k + i) = true ∨ (Indep ops r r' ∧ Indep ops r' r)
 | [],k,_,i,r,h => by simp at h
 | x :: l,k,h,i,r,hi => by
  simp only [pairsRow,Bool.and_eq_true,Bool.or_eq_true] at h
  cases i with
  | zero =>
   simp only [List.getElem?_cons_zero,Option.some.injEq] at hi
   subst hi
   rcases h.1 with h1 | h1
   ·exact .inl h1
   ·exact .inr ⟨indepB_spec h1.1,indepB_spec h1.2⟩
  | succ i =>
   simp only [List.getElem?_cons_succ] at hi
   have:=pairsRow_spec h.2 i r hi
   rw [show k + (i + 1) = k + 1 + i by omega]
   exact this
theorem pairsGo_spec {ops:Array Oper} {ms:List Nat}:∀ {l done:List Rec},pairsGo ops ms done.length done l = true → ∀ i j r r',i < j → (done ++ l)[i]? = some r → (done ++ l)[j]? = some r' → done.length ≤ j →
  (ms.getD j 0).testBit i = true ∨ (Indep ops r r' ∧ Indep ops r' r)
 | [],done,_,i,j,r,r',hij,hi,hj,hle => by
  simp only [List.append_nil] at hj
  have:=(List.getElem?_eq_some_iff.1 hj).1
  omega
 | x :: l,done,h,i,j,r,r',hij,hi,hj,hle => by
  simp only [pairsGo,Bool.and_eq_true] at h
  by_cases hjd:j = done.length
  ·subst hjd
   rw [List.getElem?_append_right (Nat.le_refl _)] at hj
   simp only [Nat.sub_self,List.getElem?_cons_zero,Option.some.injEq] at hj
   subst hj
   rw [List.getElem?_append_left hij] at hi
   simpa using pairsRow_spec h.1 i r hi
  ·have e:done ++ x :: l = (done ++ [x]) ++ l:=by simp
   rw [e] at hi hj
   refine pairsGo_spec (done:=done ++ [x]) ?_ i j r r' hij hi hj (by simp;omega)
   simpa using h.2
theorem orderOk_indep {ops:Array Oper} {recs:List Rec} (h:orderOk ops recs = true) {D:Nat → Bool} (hc:Closed ops D) {i:Nat} {r:Rec} (hr:recs[i]? = some r) (hDi:D i = false)
  (hpre:∀ o,ops[i]? = some o → ∀ e ∈ o.after,Region.binds .any e = true → D e.on = true) :
  ∀ j r',recs[j]? = some r' → ((D j = true ∧ i < j) ∨ (D j = false ∧ j < i)) → Indep ops r r':=by
 simp only [orderOk,Bool.and_eq_true] at h
 intro j r' hj hcase
 have hspec:=pairsGo_spec (done:=[]) (l:=recs) h.2
 simp only [List.nil_append] at hspec
 have hmask:∀ (D:Nat → Bool),Closed ops D → ∀ p m,(masksGo ops.toList [])[p]? = some m → D p = true → ∀ k,m.testBit k = true → D k = true:=by
  intro D hc
  refine masksGo_spec ops.toList [] (by simp) ?_
  intro q o ho hq e he hb
  exact hc q o (by simpa using ho) (by simpa using hq) e he hb
 rcases hcase with ⟨hD,hlt⟩ | ⟨hD,hlt⟩
 ·rcases hspec i j r r' hlt hr hj (Nat.zero_le _) with hb | hb
  ·exfalso
   cases hm:(masksGo ops.toList [])[j]? with
   | none => simp [List.getD_eq_getElem?_getD,hm] at hb
   | some m =>
    simp [List.getD_eq_getElem?_getD,hm] at hb
    have:=hmask D hc j m hm hD i hb
    rw [hDi] at this;cases this
  ·exact hb.1
 ·rcases hspec j i r' r hlt hj hr (Nat.zero_le _) with hb | hb
  ·exfalso
   have hc':Closed ops (plus D i):=by
    intro q o ho hq e he hb'
    simp only [plus,Bool.or_eq_true] at hq ⊢
    rcases hq with hq | hq
    ·exact .inl (hc q o ho hq e he hb')
    ·have:=beq_tt hq
     subst this
     exact .inl (hpre o ho e he hb')
   cases hm:(masksGo ops.toList [])[i]? with
   | none => simp [List.getD_eq_getElem?_getD,hm] at hb
   | some m =>
    simp [List.getD_eq_getElem?_getD,hm] at hb
    have:=hmask (plus D i) hc' i m hm (by simp [plus,beq_self]) j hb
    simp only [plus,hD,Bool.false_or] at this
    have:=beq_tt this
    omega
  ·exact hb.2
def obsOf:List Rec → List Prop
 | [] => []
 | r :: l => r.out.ob ++ obsOf l
theorem obsOf_mem {recs:List Rec} (h:∀ q ∈ obsOf recs,q) {i:Nat} {r:Rec} (hr:recs[i]? = some r):∀ q ∈ r.out.ob,q:=by
 induction recs generalizing i with
 | nil => simp at hr
 | cons x l ih =>
  cases i with
  | zero =>
   simp only [List.getElem?_cons_zero,Option.some.injEq] at hr
   subst hr
   exact fun q hq => h q (by simp [obsOf,hq])
  | succ i =>
   simp only [List.getElem?_cons_succ] at hr
   exact ih (fun q hq => h q (by simp [obsOf,hq])) hr
theorem foldT_ext {D D':Nat → Bool} (l:List Rec) (k:Nat) (T:Nat → Value) (h:∀ j,j < k + l.length → D j = D' j):foldT D k l T = foldT D' k l T:=by
 funext t
 exact foldT_agree t l k T T rfl fun j r hj hne => absurd (h (k + j) (by have:=(List.getElem?_eq_some_iff.1 hj).1;omega)) hne
theorem foldH_ext {D D':Nat → Bool} (l:List Rec) (k:Nat) (H:HF) (h:∀ j,j < k + l.length → D j = D' j):foldH D k l H = foldH D' k l H:=by
 funext i
 exact foldH_agree i l k H H rfl fun j r hj hne => absurd (h (k + j) (by have:=(List.getElem?_eq_some_iff.1 hj).1;omega)) hne
theorem Inv.ext {P:Program} {N:Nat} {recs:List Rec} {T0:Nat → Value} {H0:HF} {μ0:Mu} {w0:World} {D D':Nat → Bool} {μ:Mu} {a:Act} {w:World} (inv:Inv P N recs T0 H0 μ0 w0 D μ a w) (h:∀ j,j < recs.length → D j = D' j) :
  Inv P N recs T0 H0 μ0 w0 D' μ a w:=by
 have e1:=foldT_ext recs 0 T0 (D:=D) (D':=D') (by simpa using h)
 have e2:=foldH_ext recs 0 H0 (D:=D) (D':=D') (by simpa using h)
 exact ⟨inv.gl,by rw [← e1];exact inv.tm,by rw [← e2];exact inv.rep,inv.defers,fun j r hj hd => inv.fresh j r hj (by rw [h j (List.getElem?_eq_some_iff.1 hj).1];exact hd),inv.le,by rw [← e2];exact inv.keeps,inv.other⟩
def Runs (P:Program) (N:Nat) (c:Code) (T:Tm) (H:Heap) (n:Nat) (e:Ex) (T':Tm) (H':Heap) (n':Nat):Prop:=
 n ≤ n' ∧ ∀ (μ:Mu) (a:Act) (w:World),Gl P μ → TRel N μ (tget T) a.tmps → Rep μ (lk H) w → a.defers = [] → (∀ i,n ≤ i → μ i = none) →
  ∀ Q:Exit → Act → World → Prop,(∀ μ' a' w',μ.le μ' → (∀ i,i < n → μ' i = μ i) → (∀ i,n' ≤ i → μ' i = none) → TRel N μ' (tget T') a'.tmps → Rep μ' (lk H') w' → a'.defers = [] → Keeps μ (lk H) w μ' (lk H') w' →
   Q (match e with | .normal => .normal | .exit id => .exit id | .ret => .ret) a' w') → c.wp P Q a w
theorem cnt_set {l:Array Bool} {i:Nat} (h:l.getD i true = false):(l.setIfInBounds i true).toList.count false + 1 = l.toList.count false:=by
 have hlt:i < l.size:=by
  rcases Nat.lt_or_ge i l.size with hh | hh
  ·exact hh
  ·rw [Array.getD_eq_getD_getElem?,Array.getElem?_eq_none hh] at h;simp at h
 have hi:l.toList[i]? = some false:=by
  rw [Array.getD_eq_getD_getElem?] at h
  rw [Array.getElem?_toList]
  cases hx:l[i]? with
  | none => rw [hx] at h;simp at h
  | some b => rw [hx] at h;simp at h;rw [h]
 rw [Array.toList_setIfInBounds]
 generalize l.toList = m at hi
 clear h hlt
 induction m generalizing i with
 | nil => simp at hi
 | cons b m ih =>
  cases i with
  | zero =>
   simp only [List.getElem?_cons_zero,Option.some.injEq] at hi
   subst hi
   simp
  | succ i =>
   simp only [List.getElem?_cons_succ] at hi
   have:=ih hi
   simp only [List.set_cons_succ,List.count_cons]
   omega
theorem replicate_getD (m j:Nat):(Array.replicate m false).getD j false = false:=by
 rw [Array.getD_eq_getD_getElem?]
 simp only [Array.getElem?_replicate]
 split <;> rfl
theorem region_ok {P:Program} {N:Nat} {ops:Array Oper} {id:Nat} {draw:Bool} {T T':Tm} {H H':Heap} {n n':Nat} {hs hs':List Hint} {recs:List Rec} (hG:P.globals.size ≤ 1000) (hM:P.follows .mixedOrders = true)
  (hx:xreg P N ops ops.toList T H n hs = some (recs,T',H',n',hs')) (hord:draw = true → orderOk ops recs = true) (hob:∀ q ∈ obsOf recs,q):Runs P N (.region id ops draw) T H n .normal T' H' n':=by
 obtain ⟨h1,h2,h3,h4,h5⟩:=xreg_spec hx
 refine ⟨h2,?_⟩
 intro μ a w hg ht hr hdf hfr Q hQ
 obtain ⟨eT',eH',hrecs⟩:=h5 0
 have hlen:recs.length = ops.size:=by rw [← List.length_map (f:=(·.o)),h1];simp
 have hops:∀ (i:Nat) (r:Rec),recs[i]? = some r → ops[i]? = some r.o:=by
  intro i r hr
  have:(recs.map (·.o))[i]? = some r.o:=by simp [hr]
  rw [h1] at this
  simpa using this
 have hT0:foldT (fun _ => false) 0 recs (tget T) = tget T:=by
  have:∀ (l:List Rec) (k:Nat) (T:Nat → Value),foldT (fun _ => false) k l T = T:=by
   intro l;induction l with
   | nil => intro k T;rfl
   | cons a l ih => intro k T;simp [foldT,ih]
  exact this _ _ _
 have hH0:foldH (fun _ => false) 0 recs (lk H) = lk H:=by
  have:∀ (l:List Rec) (k:Nat) (h:HF),foldH (fun _ => false) k l h = h:=by
   intro l;induction l with
   | nil => intro k T;rfl
   | cons a l ih => intro k T;simp [foldH,ih]
  exact this _ _ _
 have start:∀ w1:World,w1.heap = w.heap → w1.os = w.os → w1.tape = w.tape → w1.output = w.output → Inv P N recs (tget T) (lk H) μ w (fun _ => false) μ a w1:=by
  intro w1 e1 e2 e3 e4
  refine ⟨hg,by rw [hT0];exact ht,by rw [hH0];exact hr.heap_eq e1,hdf,?_,Mu.le_refl μ,?_,fun _ _ => rfl⟩
  ·intro j r hj _ i hi
   exact hfr i (h3 r (List.mem_of_getElem? hj) i hi).1
  ·rw [hH0]
   exact ⟨e2,e3,e4,by rw [e1];exact Nat.le_refl _,fun b _ _ => by rw [e1],fun i B b e m _ => ⟨i,B,e,m,fun h => h⟩,fun _ _ => rfl,fun _ _ h => h,fun _ _ h => .inl h⟩
 have finish:∀ (D:Nat → Bool) (μ':Mu) (a':Act) (w':World),(∀ j,j < recs.length → D j = true) → Inv P N recs (tget T) (lk H) μ w D μ' a' w' → Q .normal a' w':=by
  intro D μ' a' w' hD inv
  have inv:=inv.ext (D':=fun _ => true) hD
  refine hQ μ' a' w' inv.le ?_ ?_ (by rw [eT'];exact inv.tm) (by rw [eH'];exact inv.rep) inv.defers (by rw [eH'];exact inv.keeps)
  ·intro i hi
   exact inv.other i fun r hr hin => by have:=(h3 r hr i hin).1;omega
  ·intro i hi
   rw [inv.other i fun r hr hin => by have:=(h3 r hr i hin).2;omega]
   exact hfr i (by omega)
 cases draw with
 | false =>
  refine wp_region ?_
  have go:∀ (m k:Nat),k + m = ops.size → ∀ (μ':Mu) (a':Act) (w':World),Inv P N recs (tget T) (lk H) μ w (fun j => Nat.blt j k) μ' a' w' → wpOps P ops Q (List.range' k m) a' w':=by
   intro m
   induction m with
   | zero =>
    intro k hk μ' a' w' inv
    exact finish _ μ' a' w' (fun j hj => Nat.ble_eq_true_of_le (by omega)) inv
   | succ m ih =>
    intro k hk μ' a' w' inv
    rw [List.range'_succ,wpOps_cons]
    have hkl:k < recs.length:=by omega
    have hr:recs[k]? = some recs[k]:=by simp [hkl]
    obtain ⟨Ti,Hi,e1,e2,e3⟩:=hrecs k _ hr
    have hself:Nat.blt k k = false:=by
     cases e:Nat.blt k k with
     | false => rfl
     | true => have:=blt_tt e;omega
    refine inv.step hG hr (hops k _ hr) hself (by simpa using e1) (by simpa using e2) e3 (obsOf_mem hob hr) h4 ?_ ?_
    ·intro j r' hj hc
     rcases hc with ⟨hc,hlt⟩ | ⟨hc,hlt⟩
     ·have:=blt_tt hc;omega
     ·have:=blt_ff hc;omega
    ·intro μ2 a2 w2 inv2
     refine ih (k + 1) (by omega) μ2 a2 w2 (inv2.ext fun j hj => ?_)
     simp only [plus]
     cases e:Nat.blt j k with
     | true =>
      have:=blt_tt e
      simp only [Bool.true_or]
      exact (Nat.ble_eq_true_of_le (by omega):Nat.blt j (k + 1) = true).symm
     | false =>
      have:=blt_ff e
      simp only [Bool.false_or]
      by_cases hjk:j = k
      ·subst hjk;rw [beq_self];exact (Nat.ble_eq_true_of_le (by omega):Nat.blt j (j + 1) = true).symm
      ·rw [beq_ne hjk]
       cases e2:Nat.blt j (k + 1) with
       | false => rfl
       | true => have:=blt_tt e2;omega
  have:=go ops.size 0 (by omega) μ a w ((start w rfl rfl rfl rfl).ext fun j hj => by
   cases e:Nat.blt j 0 with
   | false => rfl
   | true => have:=blt_tt e;omega)
  rw [← List.range_eq_range'] at this
  exact this
 | true =>
  refine wp_region_any hM ?_
  have hO:=hord rfl
  have hedges:edgesOk 0 ops.toList = true:=by
   simp only [orderOk,Bool.and_eq_true] at hO
   exact hO.1
  have hedge:=edgesOk_spec hedges
  have go:∀ (fuel:Nat) (listed:Array Bool) (μ':Mu) (a':Act) (w':World),listed.size = ops.size → listed.toList.count false ≤ fuel → Closed ops (fun j => listed.getD j false) →
    Inv P N recs (tget T) (lk H) μ w (fun j => listed.getD j false) μ' a' w' → wpAny P .any ops Q fuel listed a' w':=by
   intro fuel
   have done:∀ (listed:Array Bool) (μ':Mu) (a':Act) (w':World),listed.size = ops.size → Region.ready .any ops listed = [] → Inv P N recs (tget T) (lk H) μ w (fun j => listed.getD j false) μ' a' w' → Q .normal a' w':=by
    intro listed μ' a' w' hsz hready inv
    refine finish _ μ' a' w' ?_ inv
    intro j hj
    induction j using Nat.strongRecOn with
    | _ j ih =>
     cases hc:listed.getD j false with
     | true => rfl
     | false =>
      exfalso
      have hjs:j < listed.size:=by omega
      have hj2:listed.getD j true = false:=by
       rw [Array.getD_eq_getD_getElem?] at hc ⊢
       simp [hjs] at hc ⊢;exact hc
      have hm:j ∈ Region.ready .any ops listed:=by
       rw [mem_ready]
       refine ⟨hj2,ops[j]'(by omega),by simp [show j < ops.size by omega],?_⟩
       intro e he hb
       have hlt:=hedge j _ (by simp [show j < ops.size by omega]) e he hb
       exact ih e.on (by omega) (by omega)
      rw [hready] at hm
      simp at hm
   induction fuel with
   | zero =>
    intro listed μ' a' w' hsz hcnt hcl inv
    have hready:Region.ready .any ops listed = []:=by
     cases hrd:Region.ready .any ops listed with
     | nil => rfl
     | cons i l =>
      have hm:i ∈ Region.ready .any ops listed:=by rw [hrd];simp
      have:=cnt_set (mem_ready.1 hm).1
      omega
    exact ⟨hready,done listed μ' a' w' hsz hready inv⟩
   | succ fuel ih =>
    intro listed μ' a' w' hsz hcnt hcl inv
    refine ⟨fun hready => done listed μ' a' w' hsz hready inv,?_⟩
    intro i hi
    obtain ⟨hi1,o,ho,hpre⟩:=mem_ready.1 hi
    have hil:i < recs.length:=by rw [hlen];exact (Array.getElem?_eq_some_iff.1 ho).1
    have hr:recs[i]? = some recs[i]:=by simp [hil]
    have hDi:listed.getD i false = false:=by
     rw [Array.getD_eq_getD_getElem?] at hi1 ⊢
     simp [show i < listed.size by omega] at hi1 ⊢;exact hi1
    obtain ⟨Ti,Hi,e1,e2,e3⟩:=hrecs i _ hr
    refine inv.step hG hr (hops i _ hr) hDi (by simpa using e1) (by simpa using e2) e3 (obsOf_mem hob hr) h4 ?_ ?_
    ·refine orderOk_indep hO hcl hr hDi ?_
     intro o' ho' e he hb
     rw [ho] at ho'
     obtain rfl:o = o':=by simpa using ho'
     exact hpre e he hb
    ·intro μ2 a2 w2 inv2
     have hset:∀ j,(listed.setIfInBounds i true).getD j false = plus (fun j => listed.getD j false) i j:=by
      intro j
      simp only [plus]
      by_cases hji:j = i
      ·subst hji
       rw [beq_self,Bool.or_true,Array.getD_eq_getD_getElem?]
       simp [show j < listed.size by omega]
      ·rw [beq_ne hji,Bool.or_false,Array.getD_eq_getD_getElem?,Array.getD_eq_getD_getElem?,Array.getElem?_setIfInBounds_ne (fun h => hji h.symm)]
     refine ih _ μ2 a2 w2 (by simpa using hsz) ?_ ?_ (inv2.ext fun j _ => (hset j).symm)
     ·have:=cnt_set hi1;omega
     ·intro j o' ho' hj e he hb
      show (listed.setIfInBounds i true).getD e.on false = true
      have hj:(listed.setIfInBounds i true).getD j false = true:=hj
      rw [hset] at hj ⊢
      simp only [plus,Bool.or_eq_true] at hj ⊢
      rcases hj with hj | hj
      ·exact .inl (hcl j o' ho' hj e he hb)
      ·have:=beq_tt hj
       subst this
       rw [ho] at ho'
       obtain rfl:o = o':=by simpa using ho'
       exact .inl (hpre e he hb)
  refine go ops.size _ μ a _ (by simp) ?_ ?_ ((start { w with drawn:=w.drawn + 1 } rfl rfl rfl rfl).ext ?_)
  ·simp
  ·intro j o ho hj
   have hj:(Array.replicate ops.size false).getD j false = true:=hj
   rw [replicate_getD] at hj
   cases hj
  ·intro j _
   exact (replicate_getD _ _).symm
end Go.Proofs.Ytgnhhnmpeklciaa.VX
namespace Go.Proofs.Ytgnhhnmpeklciaa.VX
open Go
def Ex.to:Ex → Exit
 | .normal => .normal
 | .exit id => .exit id
 | .ret => .ret
theorem Runs.elim {P:Program} {N:Nat} {c:Code} {T T':Tm} {H H':Heap} {n n':Nat} {e:Ex} (r:Runs P N c T H n e T' H' n') {μ:Mu} {a:Act} {w:World} (hg:Gl P μ) (ht:TRel N μ (tget T) a.tmps) (hr:Rep μ (lk H) w)
  (hd:a.defers = []) (hf:∀ i,n ≤ i → μ i = none) {Q:Exit → Act → World → Prop}
  (hQ:∀ μ' a' w',μ.le μ' → (∀ i,i < n → μ' i = μ i) → (∀ i,n' ≤ i → μ' i = none) → TRel N μ' (tget T') a'.tmps → Rep μ' (lk H') w' → a'.defers = [] → Keeps μ (lk H) w μ' (lk H') w' → Q e.to a' w'):c.wp P Q a w:=by
 refine r.2 μ a w hg ht hr hd hf Q ?_
 intro μ' a' w' h1 h2 h3 h4 h5 h6 h7
 have:=hQ μ' a' w' h1 h2 h3 h4 h5 h6 h7
 cases e <;> exact this
theorem Runs.intro {P:Program} {N:Nat} {c:Code} {T T':Tm} {H H':Heap} {n n':Nat} {e:Ex} (hn:n ≤ n')
  (h:∀ (μ:Mu) (a:Act) (w:World),Gl P μ → TRel N μ (tget T) a.tmps → Rep μ (lk H) w → a.defers = [] → (∀ i,n ≤ i → μ i = none) →
   ∀ Q:Exit → Act → World → Prop,(∀ μ' a' w',μ.le μ' → (∀ i,i < n → μ' i = μ i) → (∀ i,n' ≤ i → μ' i = none) → TRel N μ' (tget T') a'.tmps → Rep μ' (lk H') w' → a'.defers = [] → Keeps μ (lk H) w μ' (lk H') w' → Q e.to a' w') → c.wp P Q a w) :
  Runs P N c T H n e T' H' n':=by
 refine ⟨hn,fun μ a w hg ht hr hd hf Q hQ => h μ a w hg ht hr hd hf Q ?_⟩
 intro μ' a' w' h1 h2 h3 h4 h5 h6 h7
 have:=hQ μ' a' w' h1 h2 h3 h4 h5 h6 h7
 cases e <;> exact this
theorem Runs.seq {P:Program} {N:Nat} {c d:Code} {T T1 T2:Tm} {H H1 H2:Heap} {n n1 n2:Nat} {e:Ex} (a:Runs P N c T H n .normal T1 H1 n1) (b:Runs P N d T1 H1 n1 e T2 H2 n2):Runs P N (.seq c d) T H n e T2 H2 n2:=by
 have hn1:=a.1
 have hn2:=b.1
 refine .intro (Nat.le_trans hn1 hn2) fun μ ac w hg ht hr hd hf Q hQ => ?_
 refine wp_seq (a.elim hg ht hr hd hf ?_)
 intro μ1 a1 w1 hle1 hsame1 hf1 ht1 hr1 hd1 hk1
 show d.wp P Q a1 w1
 refine b.elim (hg.le hle1) ht1 hr1 hd1 hf1 ?_
 intro μ2 a2 w2 hle2 hsame2 hf2 ht2 hr2 hd2 hk2
 exact hQ μ2 a2 w2 (Mu.le_trans hle1 hle2) (fun i hi => by rw [hsame2 i (by omega),hsame1 i hi]) hf2 ht2 hr2 hd2 (hk1.trans hk2)
theorem Runs.seq_out {P:Program} {N:Nat} {c d:Code} {T T1:Tm} {H H1:Heap} {n n1:Nat} {e:Ex} (he:e ≠ .normal) (a:Runs P N c T H n e T1 H1 n1):Runs P N (.seq c d) T H n e T1 H1 n1:=by
 refine .intro a.1 fun μ ac w hg ht hr hd hf Q hQ => ?_
 refine wp_seq (a.elim hg ht hr hd hf ?_)
 intro μ1 a1 w1 h1 h2 h3 h4 h5 h6 h7
 have:=hQ μ1 a1 w1 h1 h2 h3 h4 h5 h6 h7
 cases e with
 | normal => exact absurd rfl he
 | exit id => exact this
 | ret => exact this
def outOf (id:Nat):Ex → Ex
 | .exit i => bif Nat.beq i id then .normal else .exit i
 | e => e
theorem Runs.block {P:Program} {N:Nat} {id:Nat} {c:Code} {T T1:Tm} {H H1:Heap} {n n1:Nat} {e:Ex} (a:Runs P N c T H n e T1 H1 n1) :
  Runs P N (.block id c) T H n (outOf id e) T1 H1 n1:=by
 refine .intro a.1 fun μ ac w hg ht hr hd hf Q hQ => ?_
 refine wp_block (a.elim hg ht hr hd hf ?_)
 intro μ1 a1 w1 h1 h2 h3 h4 h5 h6 h7
 have:=hQ μ1 a1 w1 h1 h2 h3 h4 h5 h6 h7
 cases e with
 | normal => exact this
 | ret => exact this
 | exit i =>
  simp only [Ex.to,Exit.inBlock,outOf] at this ⊢
  cases hb:Nat.beq i id
  ·rw [hb] at this
   rw [if_neg (beq_ff hb)]
   exact this
  ·rw [hb] at this
   rw [if_pos (beq_tt hb)]
   exact this
theorem Runs.skip {P:Program} {N:Nat} (T:Tm) (H:Heap) (n:Nat):Runs P N .skip T H n .normal T H n:=
 .intro (Nat.le_refl _) fun μ a w hg ht hr hd hf Q hQ => wp_skip (hQ μ a w (Mu.le_refl _) (fun _ _ => rfl) hf ht hr hd (Keeps.refl _ _ _))
theorem Runs.exit {P:Program} {N:Nat} (id:Nat) (T:Tm) (H:Heap) (n:Nat):Runs P N (.exit id) T H n (.exit id) T H n:=
 .intro (Nat.le_refl _) fun μ a w hg ht hr hd hf Q hQ => wp_exit (hQ μ a w (Mu.le_refl _) (fun _ _ => rfl) hf ht hr hd (Keeps.refl _ _ _))
theorem Runs.ret {P:Program} {N:Nat} (T:Tm) (H:Heap) (n:Nat):Runs P N .ret T H n .ret T H n:=
 .intro (Nat.le_refl _) fun μ a w hg ht hr hd hf Q hQ => wp_ret (hQ μ a w (Mu.le_refl _) (fun _ _ => rfl) hf ht hr hd (Keeps.refl _ _ _))
theorem Runs.cond {P:Program} {N:Nat} {x:Operand} {c d:Code} {T T1:Tm} {H H1:Heap} {n n1:Nat} {e:Ex} {t:Bool} (hx:ev P T x = .bool t) (a:Runs P N (bif t then c else d) T H n e T1 H1 n1):Runs P N (.cond x c d) T H n e T1 H1 n1:=by
 refine .intro a.1 fun μ ac w hg ht hr hd hf Q hQ => ?_
 have hv:=ev_rel hg ht x
 rw [hx] at hv
 have he:ac.eval x = .bool t:=by
  revert hv;generalize ac.eval x = X;intro hv;cases hv;rfl
 refine wp_cond he ?_
 have:=a.elim hg ht hr hd hf hQ
 cases t <;> exact this
def LRuns (P:Program) (N:Nat) (c:Code) (m:Nat) (T:Tm) (H:Heap) (n:Nat) (e:Ex) (T':Tm) (H':Heap) (n':Nat):Prop:=
 n ≤ n' ∧ ∀ (μ:Mu) (a:Act) (w:World),Gl P μ → TRel N μ (tget T) a.tmps → Rep μ (lk H) w → a.defers = [] → (∀ i,n ≤ i → μ i = none) →
  ∀ Q:Exit → Act → World → Prop,(∀ μ' a' w',μ.le μ' → (∀ i,i < n → μ' i = μ i) → (∀ i,n' ≤ i → μ' i = none) → TRel N μ' (tget T') a'.tmps → Rep μ' (lk H') w' → a'.defers = [] → Keeps μ (lk H) w μ' (lk H') w' → Q e.to a' w') →
   Code.rounds P c Q m a w
theorem LRuns.last {P:Program} {N:Nat} {c:Code} {T T1:Tm} {H H1:Heap} {n n1:Nat} {e:Ex} (he:e ≠ .normal) (a:Runs P N c T H n e T1 H1 n1) (m:Nat):LRuns P N c (m + 1) T H n e T1 H1 n1:=by
 refine ⟨a.1,fun μ ac w hg ht hr hd hf Q hQ => ?_⟩
 rw [rounds_succ]
 refine a.elim hg ht hr hd hf ?_
 intro μ1 a1 w1 h1 h2 h3 h4 h5 h6 h7
 have:=hQ μ1 a1 w1 h1 h2 h3 h4 h5 h6 h7
 cases e with
 | normal => exact absurd rfl he
 | exit id => exact this
 | ret => exact this
theorem LRuns.more {P:Program} {N:Nat} {c:Code} {T T1 T2:Tm} {H H1 H2:Heap} {n n1 n2 m:Nat} {e:Ex} (a:Runs P N c T H n .normal T1 H1 n1) (b:LRuns P N c m T1 H1 n1 e T2 H2 n2):LRuns P N c (m + 1) T H n e T2 H2 n2:=by
 have hn1:=a.1
 refine ⟨Nat.le_trans hn1 b.1,fun μ ac w hg ht hr hd hf Q hQ => ?_⟩
 rw [rounds_succ]
 refine a.elim hg ht hr hd hf ?_
 intro μ1 a1 w1 hle1 hsame1 hf1 ht1 hr1 hd1 hk1
 show Code.rounds P c Q m a1 w1
 refine b.2 μ1 a1 w1 (hg.le hle1) ht1 hr1 hd1 hf1 Q ?_
 intro μ2 a2 w2 hle2 hsame2 hf2 ht2 hr2 hd2 hk2
 exact hQ μ2 a2 w2 (Mu.le_trans hle1 hle2) (fun i hi => by rw [hsame2 i (by omega),hsame1 i hi]) hf2 ht2 hr2 hd2 (hk1.trans hk2)
theorem LRuns.loop {P:Program} {N:Nat} {c:Code} {T T1:Tm} {H H1:Heap} {n n1 m:Nat} {e:Ex} (a:LRuns P N c m T H n e T1 H1 n1):Runs P N (.loop c) T H n e T1 H1 n1:=
 .intro a.1 fun μ ac w hg ht hr hd hf Q hQ => wp_loop_rounds m (a.2 μ ac w hg ht hr hd hf Q hQ)
theorem tget_live (T:Tm):∀ (live:List Nat) (t:Nat),tget (live.map fun t => (t,tget T t)) t = tget T t ∨ tget (live.map fun t => (t,tget T t)) t = .tuple ⟨[]⟩
 | [],t => .inr rfl
 | x :: r,t => by
  simp only [List.map_cons,tget]
  cases e:Nat.beq t x
  ·simpa using tget_live T r t
  ·rw [beq_tt e];simp
theorem TRel.live {N:Nat} {μ:Mu} {T:Tm} {tmps:Array Value} (r:TRel N μ (tget T) tmps) (live:List Nat):TRel N μ (tget (live.map fun t => (t,tget T t))) tmps:=by
 refine ⟨r.1,fun t => ?_⟩
 rcases tget_live T live t with h | h <;> rw [h]
 ·exact r.2 t
 ·exact .junk _
def pickH (H:HF):List Nat → Option Heap
 | [] => some []
 | i :: r => match H i,pickH H r with
  | some B,some h => some ((i,B) :: h)
  | _,_ => none
theorem pickH_lk {H:HF}:∀ {ids:List Nat} {h:Heap},pickH H ids = some h → ∀ i,lk h i = bif memB i ids then H i else none
 | [],h,hp,i => by simp [pickH] at hp;subst hp;rfl
 | x :: r,h,hp,i => by
  simp only [pickH] at hp
  cases hx:H x with
  | none => simp [hx] at hp
  | some B =>
   cases hr:pickH H r with
   | none => simp [hx,hr] at hp
   | some h1 =>
    simp [hx,hr] at hp;subst hp
    simp only [lk,memB]
    cases e:Nat.beq i x
    ·simpa using pickH_lk hr i
    ·simp [beq_tt e,hx]
def dropH (ids:List Nat):Heap → Heap
 | [] => []
 | (i,B) :: r => bif memB i ids then dropH ids r else (i,B) :: dropH ids r
theorem dropH_lk {ids:List Nat}:∀ (h:Heap) (i:Nat),lk (dropH ids h) i = bif memB i ids then none else lk h i
 | [],i => by simp only [dropH,lk];cases memB i ids <;> rfl
 | (j,B) :: r,i => by
  simp only [dropH]
  cases hm:memB j ids
  ·simp only [cond_false,lk]
   cases e:Nat.beq i j
   ·simpa using dropH_lk r i
   ·rw [beq_tt e,hm];rfl
  ·simp only [cond_true]
   rw [dropH_lk r i]
   cases hi:memB i ids
   ·simp only [cond_false,lk]
    cases e:Nat.beq i j
    ·rfl
    ·rw [beq_tt e,hm] at hi;cases hi
   ·rfl
theorem lk_append (a b:Heap) (i:Nat):lk (a ++ b) i = match lk a i with | some B => some B | none => lk b i:=by
 induction a with
 | nil => rfl
 | cons x r ih =>
  obtain ⟨j,B⟩:=x
  simp only [List.cons_append,lk]
  cases Nat.beq i j
  ·simpa using ih
  ·simp
theorem Rep.framed {μ μ':Mu} {h h0 h1 h2:HF} {w w':World} (r:Rep μ h w) (h0le:∀ i B,h0 i = some B → h i = some B) (hle:μ.le μ') (r1:Rep μ' h1 w') (k:Keeps μ h0 w μ' h1 w')
  (e2:∀ i B,h2 i = some B → h1 i = some B ∨ (μ' i = μ i ∧ h0 i = none ∧ h i = some B)):Rep μ' h2 w' ∧ Keeps μ h w μ' h2 w':=by
 have untouched:∀ i B b,h i = some B → h0 i = none → μ i = some b → ¬ Own μ h0 b:=by
  rintro i B b hB hno hb ⟨j,A,hA,hAro,hj⟩
  have hij:i ≠ j:=by rintro rfl;rw [hno] at hA;cases hA
  have:=(r.apart i j B A b hB (h0le j A hA) hb hj hij).2
  rw [hAro] at this;cases this
 have mixed:∀ i B b j C,h i = some B → h0 i = none → μ i = some b → h1 j = some C → μ' j = some b → C.ro = true ∧ B.ro = true:=by
  intro i B b j C hB hno hb hC hj
  obtain ⟨j0,A0,hA0,hm0,hr0⟩:=k.old j C b hC hj (r.bound i b hb)
  have hij:i ≠ j0:=by rintro rfl;rw [hno] at hA0;cases hA0
  have:=r.apart i j0 B A0 b hB (h0le j0 A0 hA0) hb hm0 hij
  refine ⟨?_,this.1⟩
  cases hc:C.ro with
  | true => rfl
  | false => rw [hr0 hc] at this;cases this.2
 constructor
 ·refine ⟨?_,?_,r1.bound,?_,r1.frz,?_⟩
  ·intro i B hB hne
   rcases e2 i B hB with h | ⟨hs,hno,h⟩
   ·exact r1.blk i B h hne
   ·obtain ⟨b,hb,hrel⟩:=r.blk i B h (by rw [hs] at hne;exact hne)
    refine ⟨b,hle i b hb,?_⟩
    rw [k.same b (r.bound i b hb) (untouched i B b h hno hb)]
    exact hrel.mono hle
  ·intro i j A B b hA hB hi hj hne
   rcases e2 i A hA with h1' | ⟨hs,hno,h1'⟩ <;> rcases e2 j B hB with h2' | ⟨hs',hno',h2'⟩
   ·exact r1.apart i j A B b h1' h2' hi hj hne
   ·rw [hs'] at hj
    exact mixed j B b i A h2' hno' hj h1' hi
   ·rw [hs] at hi
    exact (mixed i A b j B h1' hno hi h2' hj).symm
   ·rw [hs] at hi;rw [hs'] at hj
    exact r.apart i j A B b h1' h2' hi hj hne
  ·intro i B b hB hro hi
   rcases e2 i B hB with h1' | ⟨hsm,hno,h1'⟩
   ·exact r1.size i B b h1' hro hi
   ·rw [hsm] at hi
    obtain ⟨cs,t,fr,he,hs⟩:=r.size i B b h1' hro hi
    have hlt:=r.bound i b hi
    exact ⟨cs,t,fr,by rw [k.same b hlt (untouched i B b h1' hno hi)];exact he,hs.trans (k.ksz b hlt).symm⟩
  ·intro i B b hB hro hi
   rcases e2 i B hB with h1' | ⟨hsm,hno,h1'⟩
   ·exact r1.nofz i B b h1' hro hi
   ·rw [hsm] at hi
    cases hf:μ'.fz b with
    | none => rfl
    | some cs =>
     rcases k.nfz b cs hf with h4 | h4 | h4
     ·rw [r.nofz i B b h1' hro hi] at h4;cases h4
     ·exact (untouched i B b h1' hno hi h4).elim
     ·have:=r.bound i b hi;omega
 ·refine ⟨k.os,k.tape,k.output,k.size,?_,?_,k.ksz,k.kfz,?_⟩
  ·intro b hb hno
   exact k.same b hb fun ⟨i,B,e,ro,m⟩ => hno ⟨i,B,h0le i B e,ro,m⟩
  ·intro i B b hB hm hb
   rcases e2 i B hB with h | ⟨hs,hno,h⟩
   ·obtain ⟨i0,B0,h0',m0,r0⟩:=k.old i B b h hm hb
    exact ⟨i0,B0,h0le i0 B0 h0',m0,r0⟩
   ·rw [hs] at hm
    exact ⟨i,B,h,hm,fun h => h⟩
  ·intro b cs hf
   rcases k.nfz b cs hf with h4 | ⟨i,B,e,ro,m⟩ | h4
   ·exact .inl h4
   ·exact .inr (.inl ⟨i,B,h0le i B e,ro,m⟩)
   ·exact .inr (.inr h4)
def belowI (n:Nat):Heap → Bool
 | [] => true
 | (i,_) :: r => Nat.blt i n && belowI n r
theorem belowI_lk {n:Nat}:∀ {H:Heap},belowI n H = true → ∀ i B,lk H i = some B → i < n
 | [],_,i,B,h => by simp [lk] at h
 | (j,C) :: r,hb,i,B,h => by
  simp only [belowI,Bool.and_eq_true] at hb
  simp only [lk] at h
  cases e:Nat.beq i j <;> rw [e] at h
  ·exact belowI_lk hb.2 i B (by simpa using h)
  ·rw [beq_tt e];exact blt_tt hb.1
theorem Runs.framed {P:Program} {N:Nat} {c:Code} {T T1:Tm} {H H0 H1:Heap} {n n1:Nat} {e:Ex} {live ids:List Nat} (hp:pickH (lk H) ids = some H0) (hlow:belowI n (dropH ids H) = true) (a:Runs P N c (live.map fun t => (t,tget T t)) H0 n e T1 H1 n1) :
  Runs P N c T H n e T1 (H1 ++ dropH ids H) n1:=by
 have hlk:=pickH_lk hp
 have h0le:∀ i B,lk H0 i = some B → lk H i = some B:=by
  intro i B hB
  rw [hlk] at hB
  cases hm:memB i ids <;> rw [hm] at hB
  ·simp at hB
  ·simpa using hB
 refine .intro a.1 fun μ ac w hg ht hr hd hf Q hQ => ?_
 refine a.elim hg (ht.live live) (hr.sub h0le) hd hf ?_
 intro μ1 a1 w1 hle1 hsame1 hf1 ht1 hr1 hd1 hk1
 obtain ⟨r2,k2⟩:=hr.framed h0le hle1 hr1 hk1 (h2:=lk (H1 ++ dropH ids H)) (by
  intro i B hB
  rw [lk_append] at hB
  cases h1:lk H1 i with
  | some C => simp [h1] at hB;exact .inl (by rw [hB])
  | none =>
   simp only [h1] at hB
   have hin:=belowI_lk hlow i B hB
   rw [dropH_lk] at hB
   refine .inr ⟨hsame1 i hin,?_,?_⟩
   ·rw [hlk]
    cases hm:memB i ids
    ·rfl
    ·rw [hm] at hB;simp at hB
   ·cases hm:memB i ids <;> rw [hm] at hB
    ·simpa using hB
    ·simp at hB)
 exact hQ μ1 a1 w1 hle1 hsame1 hf1 ht1 r2 hd1 k2
structure St where
 T:Tm
 H:Heap
 n:Nat
 hs:List Hint
 ob:List Prop
def xseg (P:Program) (N:Nat) (c:Code) (s:St):List Hint → Option (Ex × St)
 | .seg live ids e T1 H1 n1 :: hs =>
  match pickH (lk s.H) ids with
  | some H0 => bif belowI s.n (dropH ids s.H) then some (e,{ T:=T1,H:=H1 ++ dropH ids s.H,n:=n1,hs,ob:=s.ob ++ [Runs P N c (live.map fun t => (t,tget s.T t)) H0 s.n e T1 H1 n1] }) else none
  | none => none
 | _ => none
def xsegk (P:Program) (N:Nat) (k i:Nat) (c:Code) (s:St):List Hint → Option (Ex × St)
 | .segk k' id live ids e T1 H1 n1 :: hs => bif Nat.beq k k' && Nat.beq i id then xseg P N c s (.seg live ids e T1 H1 n1 :: hs) else none
 | _ => none
def xcode (P:Program) (N:Nat):Nat → Code → St → Option (Ex × St)
 | 0,_,_ => none
 | f + 1,c,s =>
  match c with
  | .skip => some (.normal,s)
  | .exit id => some (.exit id,s)
  | .ret => some (.ret,s)
  | .region id ops draw =>
   match xsegk P N 0 id (.region id ops draw) s s.hs with
   | some r => some r
   | none =>
   match xreg P N ops ops.toList s.T s.H s.n s.hs with
   | some (recs,T',H',n',hs') => bif !draw || orderOk ops recs then some (.normal,{ T:=T',H:=H',n:=n',hs:=hs',ob:=s.ob ++ obsOf recs }) else none
   | none => none
  | .seq a b =>
   match xcode P N f a s with
   | some (.normal,s') => xcode P N f b s'
   | r => r
  | .cond x a b =>
   match xsegk P N 2 0 (.cond x a b) s s.hs with
   | some r => some r
   | none =>
    match ev P s.T x with
    | .bool t =>
     match takeB t s.hs with
     | some (d,hs,ob) => xcode P N f (bif d then a else b) { s with hs:=hs,ob:=s.ob ++ ob }
     | none => none
    | _ => none
  | .block id b =>
   match xseg P N (.block id b) s s.hs with
   | some r => some r
   | none =>
   match xsegk P N 1 id (.block id b) s s.hs with
   | some r => some r
   | none =>
    match xcode P N f b s with
    | some (.exit i,s') => some (bif Nat.beq i id then .normal else .exit i,s')
    | r => r
  | .loop b =>
   match s.hs with
   | .unroll :: hs =>
    match xcode P N f b { s with hs:=hs } with
    | some (.normal,s') => xcode P N f (.loop b) s'
    | r => r
   | _ => none
  | _ => none
theorem xseg_ok {P:Program} {N:Nat} {c:Code} {s s':St} {hs:List Hint} {e:Ex} (h:xseg P N c s hs = some (e,s')):(∀ q ∈ s.ob,q ∈ s'.ob) ∧ ((∀ q ∈ s'.ob,q) → Runs P N c s.T s.H s.n e s'.T s'.H s'.n):=by
 unfold xseg at h
 split at h
 ·rename_i live ids e1 T1 H1 n1 hs'
  cases hp:pickH (lk s.H) ids with
  | none => simp [hp] at h
  | some H0 =>
   simp only [hp] at h
   cases hl:belowI s.n (dropH ids s.H) <;> rw [hl] at h
   ·cases h
   simp only [cond_true,Option.some.injEq,Prod.mk.injEq] at h
   obtain ⟨rfl,rfl⟩:=h
   exact ⟨fun q hq => by simp [hq],fun hob => Runs.framed (live:=live) hp hl (hob _ (by simp))⟩
 ·simp at h
theorem xsegk_ok {P:Program} {N k i:Nat} {c:Code} {s s':St} {hs:List Hint} {e:Ex} (h:xsegk P N k i c s hs = some (e,s')):(∀ q ∈ s.ob,q ∈ s'.ob) ∧ ((∀ q ∈ s'.ob,q) → Runs P N c s.T s.H s.n e s'.T s'.H s'.n):=by
 unfold xsegk at h
 split at h
 ·rename_i k' id live ids e1 T1 H1 n1 hs'
  cases hb:(Nat.beq k k' && Nat.beq i id) <;> rw [hb] at h
  ·cases h
  ·simp only [cond_true] at h;exact xseg_ok h
 ·cases h
theorem xcode_ok {P:Program} {N:Nat} (hG:P.globals.size ≤ 1000) (hM:P.follows .mixedOrders = true):∀ (f:Nat) (c:Code) (s s':St) (e:Ex),xcode P N f c s = some (e,s') →
  (∀ q ∈ s.ob,q ∈ s'.ob) ∧ ((∀ q ∈ s'.ob,q) → Runs P N c s.T s.H s.n e s'.T s'.H s'.n ∧ ∀ b,c = .loop b → ∃ m,LRuns P N b m s.T s.H s.n e s'.T s'.H s'.n)
 | 0,c,s,s',e,h => by simp [xcode] at h
 | f + 1,c,s,s',e,h => by
  have nl:∀ {R:Prop},R → (∀ b,c ≠ .loop b) → R ∧ ∀ b,c = .loop b → ∃ m,LRuns P N b m s.T s.H s.n e s'.T s'.H s'.n:=fun r hn => ⟨r,fun b hb => absurd hb (hn b)⟩
  simp only [xcode] at h
  split at h
  case h_1 =>
   simp only [Option.some.injEq,Prod.mk.injEq] at h
   obtain ⟨rfl,rfl⟩:=h
   exact ⟨fun q hq => hq,fun _ => nl (Runs.skip _ _ _) (by simp)⟩
  case h_2 id =>
   simp only [Option.some.injEq,Prod.mk.injEq] at h
   obtain ⟨rfl,rfl⟩:=h
   exact ⟨fun q hq => hq,fun _ => nl (Runs.exit _ _ _ _) (by simp)⟩
  case h_3 =>
   simp only [Option.some.injEq,Prod.mk.injEq] at h
   obtain ⟨rfl,rfl⟩:=h
   exact ⟨fun q hq => hq,fun _ => nl (Runs.ret _ _ _) (by simp)⟩
  case h_4 id ops draw =>
   split at h
   ·rename_i r hs
    simp only [Option.some.injEq] at h
    subst h
    obtain ⟨m1,r1⟩:=xsegk_ok hs
    exact ⟨m1,fun hob => nl (r1 hob) (by simp)⟩
   split at h
   ·rename_i recs T' H' n' hs' hx
    cases hc:(!draw || orderOk ops recs) <;> rw [hc] at h
    ·simp at h
    ·simp only [cond_true,Option.some.injEq,Prod.mk.injEq] at h
     obtain ⟨rfl,rfl⟩:=h
     refine ⟨fun q hq => by simp [hq],fun hob => nl (region_ok hG hM hx ?_ fun q hq => hob q (by simp [hq])) (by simp)⟩
     intro hd
     simpa [hd] using hc
   ·simp at h
  case h_5 a b =>
   split at h
   ·rename_i s1 ha
    obtain ⟨m1,r1⟩:=xcode_ok hG hM f a s s1 .normal ha
    obtain ⟨m2,r2⟩:=xcode_ok hG hM f b s1 s' e h
    refine ⟨fun q hq => m2 q (m1 q hq),fun hob => nl ?_ (by simp)⟩
    exact Runs.seq (r1 fun q hq => hob q (m2 q hq)).1 (r2 hob).1
   ·rename_i r hne
    obtain ⟨m1,r1⟩:=xcode_ok hG hM f a s s' e h
    refine ⟨m1,fun hob => nl (Runs.seq_out ?_ (r1 hob).1) (by simp)⟩
    rintro rfl
    exact hne _ h
  case h_6 x a b =>
   split at h
   ·rename_i r hs
    simp only [Option.some.injEq] at h
    subst h
    obtain ⟨m1,r1⟩:=xsegk_ok hs
    exact ⟨m1,fun hob => nl (r1 hob) (by simp)⟩
   ·split at h
    ·rename_i t ht
     split at h
     ·rename_i d hs ob htk
      obtain ⟨m1,r1⟩:=xcode_ok hG hM f _ _ s' e h
      refine ⟨fun q hq => m1 q (by simp [hq]),fun hob => nl ?_ (by simp)⟩
      have hd:t = d:=takeB_spec htk fun q hq => hob q (m1 q (by simp [hq]))
      subst hd
      exact Runs.cond ht (r1 hob).1
     ·simp at h
    ·simp at h
  case h_7 id b =>
   split at h
   ·rename_i r hs
    simp only [Option.some.injEq] at h
    subst h
    obtain ⟨m1,r1⟩:=xseg_ok hs
    exact ⟨m1,fun hob => nl (r1 hob) (by simp)⟩
   split at h
   ·rename_i r hs
    simp only [Option.some.injEq] at h
    subst h
    obtain ⟨m1,r1⟩:=xsegk_ok hs
    exact ⟨m1,fun hob => nl (r1 hob) (by simp)⟩
   ·split at h
    ·rename_i i s1 hb
     simp only [Option.some.injEq,Prod.mk.injEq] at h
     obtain ⟨rfl,rfl⟩:=h
     obtain ⟨m1,r1⟩:=xcode_ok hG hM f b s s1 _ hb
     exact ⟨m1,fun hob => nl (Runs.block (r1 hob).1) (by simp)⟩
    ·rename_i r hne
     obtain ⟨m1,r1⟩:=xcode_ok hG hM f b s s' e h
     refine ⟨m1,fun hob => nl ?_ (by simp)⟩
     have:=Runs.block (id:=id) (r1 hob).1
     cases e with
     | normal => exact this
     | ret => exact this
     | exit i => exact absurd h (hne i s')
  case h_8 b =>
   split at h
   ·rename_i hs hhs
    split at h
    ·rename_i s1 hb
     obtain ⟨m1,r1⟩:=xcode_ok hG hM f b _ s1 .normal hb
     obtain ⟨m2,r2⟩:=xcode_ok hG hM f (.loop b) s1 s' e h
     refine ⟨fun q hq => m2 q (m1 q hq),fun hob => ?_⟩
     obtain ⟨m,hm⟩:=(r2 hob).2 b rfl
     have:=LRuns.more (r1 fun q hq => hob q (m2 q hq)).1 hm
     exact ⟨this.loop,fun b' hb' => by injection hb' with hb';subst hb';exact ⟨_,this⟩⟩
    ·rename_i r hne
     obtain ⟨m1,r1⟩:=xcode_ok hG hM f b _ s' e h
     refine ⟨m1,fun hob => ?_⟩
     have he:e ≠ .normal:=by rintro rfl;exact hne _ h
     have:=LRuns.last he (r1 hob).1 0
     exact ⟨this.loop,fun b' hb' => by injection hb' with hb';subst hb';exact ⟨_,this⟩⟩
   ·simp at h
  case h_9 => simp at h
def xresL (P:Program) (H:HF) (T:Tm):List ResultVar → Option (List Value × List Prop)
 | [] => some ([],[])
 | .tmp t :: r => match xresL P H T r with
  | some (vs,ob) => some (tget T t :: vs,ob)
  | none => none
 | .cell a t :: r => match xload P H t (tget T a),xresL P H T r with
  | some (v,_,ob1),some (vs,ob) => some (v :: vs,ob1 ++ ob)
  | _,_ => none
def tupleOf:List Value → Value
 | [v] => v
 | vs => .tuple ⟨vs⟩
def argsT:Nat → List Value → Tm
 | _,[] => []
 | i,v :: r => (i,v) :: argsT (i + 1) r
def xfun (P:Program) (fn:Func) (fuel:Nat) (A:List Value) (H:Heap) (n0:Nat) (hs:List Hint):Option (Value × Heap × List Prop):=
 match fn.body with
 | some c =>
  bif Nat.ble A.length fn.ntmps then
   match xcode P fn.ntmps fuel c { T:=argsT 0 A,H,n:=n0,hs,ob:=[] } with
   | some (.exit _,_) => none
   | some (_,s) =>
    match xresL P (lk s.H) s.T fn.results.toList with
    | some (vs,ob) => some (tupleOf vs,s.H,s.ob ++ ob)
    | none => none
   | none => none
  else none
 | none => none
def conjP:List Prop → Prop → Prop
 | [],q => q
 | p :: r,q => p ∧ conjP r q
theorem conjP_spec:∀ {l:List Prop} {q:Prop},conjP l q → (∀ p ∈ l,p) ∧ q
 | [],q,h => ⟨by simp,h⟩
 | p :: r,q,h => by
  obtain ⟨a,b⟩:=conjP_spec h.2
  refine ⟨fun x hx => ?_,b⟩
  simp only [List.mem_cons] at hx
  rcases hx with rfl | hx
  ·exact h.1
  ·exact a x hx
def subP (H:HF):Heap → Prop
 | [] => True
 | (i,B) :: r => H i = some B ∧ subP H r
theorem subP_spec {H:HF}:∀ {h:Heap},subP H h → ∀ i B,lk h i = some B → H i = some B
 | [],_,i,B,hl => by simp [lk] at hl
 | (j,C) :: r,h,i,B,hl => by
  simp only [lk] at hl
  cases e:Nat.beq i j <;> rw [e] at hl
  ·exact subP_spec h.2 i B (by simpa using hl)
  ·simp at hl;subst hl;rw [beq_tt e];exact h.1
def xok (P:Program) (fn:Func) (fuel:Nat) (A:List Value) (H:Heap) (n0:Nat) (hs:List Hint) (v:Value) (H':Heap):Prop:=
 match xfun P fn fuel A H n0 hs with
 | some (v',Hend,ob) => conjP ob (v' = v ∧ subP (lk Hend) H')
 | none => False
def resOne (tmps:Array Value):ResultVar → Sem Value
 | .tmp t => pure (tmps.getD t undef)
 | .cell a t => do loadVar t (← asAddr (tmps.getD a undef))
theorem results_eq (fn:Func) (tmps:Array Value):results fn tmps = (do
  let vs ← fn.results.mapM (resOne tmps)
  pure (if h:vs.size = 1 then vs[0] else .tuple vs)):=by
 unfold results
 congr 1
theorem xresL_ok {P:Program} {h:HF} {T:Tm} {N:Nat} {μ:Mu} {tmps:Array Value} {w:World} (ht:TRel N μ (tget T) tmps) (hr:Rep μ h w):∀ {l:List ResultVar} {vs:List Value} {ob:List Prop},xresL P h T l = some (vs,ob) → (∀ q ∈ ob,q) →
  ∃ rvs,VRels μ vs rvs ∧ (l.mapM (resOne tmps)).run P w = .ok rvs w
 | [],vs,ob,h,_ => by
  simp only [xresL,Option.some.injEq,Prod.mk.injEq] at h
  obtain ⟨rfl,rfl⟩:=h
  exact ⟨[],.nil,rfl⟩
 | .tmp t :: r,vs,ob,h,hob => by
  simp only [xresL] at h
  split at h
  ·rename_i vs1 ob1 h1
   simp only [Option.some.injEq,Prod.mk.injEq] at h
   obtain ⟨rfl,rfl⟩:=h
   obtain ⟨rvs,a,b⟩:=xresL_ok ht hr h1 hob
   refine ⟨_,.cons (ht.2 t) a,?_⟩
   simp only [List.mapM_cons,resOne,Sem.run_bind,Sem.run_pure,Result.andThen_ok,b]
  ·simp at h
 | .cell p t :: r,vs,ob,h,hob => by
  simp only [xresL] at h
  split at h
  ·rename_i v i ob0 vs1 ob1 hl h1
   simp only [Option.some.injEq,Prod.mk.injEq] at h
   obtain ⟨rfl,rfl⟩:=h
   obtain ⟨rvs,a,b⟩:=xresL_ok ht hr h1 (fun q hq => hob q (by simp [hq]))
   obtain ⟨rv,hrun,hv⟩:=xload_ok hl (fun q hq => hob q (by simp [hq])) rfl hr (ht.2 p)
   refine ⟨_,.cons hv a,?_⟩
   have hone:(resOne tmps (.cell p t)).run P w = .ok rv w:=by
    show ((do loadVar t (← asAddr (tmps.getD p undef)):Sem Value)).run P w = .ok rv w
    revert hrun
    generalize tmps.getD p undef = X
    intro hrun
    cases X with
    | pointer q => cases q with
     | some ad => exact hrun
     | none => simp [Instr.loadAt,Instr.sureAddr,stuck,Sem.run] at hrun
    | _ => simp [Instr.loadAt,Instr.sureAddr,stuck,Sem.run] at hrun
   simp only [List.mapM_cons,Sem.run_bind,hone,Result.andThen_ok,b,Sem.run_pure]
  ·simp at h
theorem tget_argsT:∀ (A:List Value) (i t:Nat),tget (argsT i A) t = if i ≤ t then (A[t - i]?).getD (.tuple ⟨[]⟩) else .tuple ⟨[]⟩
 | [],i,t => by simp [argsT,tget]
 | v :: r,i,t => by
  simp only [argsT,tget]
  cases e:Nat.beq t i
  ·simp only [cond_false]
   have hne:=beq_ff e
   rw [tget_argsT r (i + 1) t]
   by_cases h:i ≤ t
   ·rw [if_pos h,if_pos (by omega),show t - i = (t - (i + 1)) + 1 by omega]
    simp
   ·rw [if_neg h,if_neg (by omega)]
  ·rw [beq_tt e];simp
theorem args_tmps {μ:Mu} {A rargs:List Value} {N:Nat} (hA:VRels μ A rargs) (hle:A.length ≤ N):TRel N μ (tget (argsT 0 A)) (⟨rargs⟩ ++ Array.replicate (N - rargs.length) undef):=by
 have hl:=hA.length
 refine ⟨by simp;omega,fun t => ?_⟩
 rw [tget_argsT]
 simp only [Nat.zero_le,if_true,Nat.sub_zero]
 cases h:A[t]? with
 | none => simp;exact .junk _
 | some v =>
  obtain ⟨y,hy,hv⟩:=hA.get t v h
  have hlt:t < rargs.length:=(List.getElem?_eq_some_iff.1 hy).1
  rw [Array.getD_eq_getD_getElem?,Array.getElem?_append_left (by simpa using hlt)]
  simp [hy]
  exact hv
theorem fn_of_xokE {P : Program} (hG : P.globals.size ≤ 1000) (hM : P.follows .mixedOrders = true) {g : FuncId} {fn : Func} (hf : P.funcs[g]? = some fn) (hb : fn.body.isSome = true) (hn : (fn.name == "runtime.NumGoroutine") = false) {fuel : Nat} {A : List Value} {H : Heap} {n0 : Nat}
  {hs:List Hint} {v':Value} {Hend:Heap} {ob:List Prop} (hx:xfun P fn fuel A H n0 hs = some (v',Hend,ob)) (hob:∀ q ∈ ob,q):FnSpec P g n0 A H v' Hend:=by
 unfold xfun at hx
 obtain ⟨c,hc⟩:=Option.isSome_iff_exists.1 hb
 simp only [hc] at hx
 cases hle:Nat.ble A.length fn.ntmps <;> rw [hle] at hx
 ·simp at hx
 simp only [cond_true] at hx
 constructor
 ·intro args w
  unfold callFunc program
  simp only [Sem.run_bind,Sem.run,Result.andThen_ok,hf]
  rw [if_neg (by simp [hn]),if_neg (by simp [hc])]
  rfl
 ·intro μ w rargs hg hfr hA hr
  refine calls_of_wp hf hc ?_
  have htm:=args_tmps hA (ble_tt hle)
  have key:∀ (e:Ex) (s:St),xcode P fn.ntmps fuel c { T:=argsT 0 A,H,n:=n0,hs,ob:=[] } = some (e,s) → (∀ i,e ≠ .exit i) → (match xresL P (lk s.H) s.T fn.results.toList with
    | some (vs,ob) => some (tupleOf vs,s.H,s.ob ++ ob)
    | none => none) = some (v',Hend,ob) → c.wp P (bodyPost P fn fun e w' => ∃ μ' rv,(μ.le μ' ∧ ∀ i,i < n0 → μ' i = μ i) ∧ Rep μ' (lk Hend) w' ∧ VRel μ' v' rv ∧ e = .returned rv ∧ Keeps μ (lk H) w μ' (lk Hend) w') { tmps:=⟨rargs⟩ ++ Array.replicate (fn.ntmps - (⟨rargs⟩:Array Value).size) undef,defers:=[] } w:=by
   intro e s hxc he hres
   split at hres
   ·rename_i vs ob1 hxr
    simp only [Option.some.injEq,Prod.mk.injEq] at hres
    obtain ⟨rfl,rfl,rfl⟩:=hres
    have hruns:=((xcode_ok hG hM fuel c _ s e hxc).2 fun q hq => hob q (by simp [hq])).1
    refine hruns.elim hg htm hr rfl hfr ?_
    intro μ1 a1 w1 hle1 hsame1 hf1 ht1 hr1 hd1 hk1
    obtain ⟨rvs,hrv,hrun⟩:=xresL_ok (P:=P) ht1 hr1 hxr (fun q hq => hob q (by simp [hq]))
    have hres:(results fn a1.tmps).run P w1 = .ok (if h:(⟨rvs⟩:Array Value).size = 1 then (⟨rvs⟩:Array Value)[0] else .tuple ⟨rvs⟩) w1:=by
     rw [results_eq]
     simp only [Sem.run_bind,Array.mapM_eq_mapM_toList,Sem.run_map,hrun,Result.andThen_ok,Sem.run_pure]
    have hfin:∃ rv,(results fn a1.tmps).run P w1 = .ok rv w1 ∧ VRel μ1 (tupleOf vs) rv:=by
     refine ⟨_,hres,?_⟩
     have hlen:=hrv.length
     match vs,rvs,hrv with
     | [],[],_ => simp [tupleOf];exact .junk _
     | [x],[y],hh => cases hh with | cons a b => simpa [tupleOf] using a
     | x :: x' :: r,y :: y' :: r',hh => simp [tupleOf];exact .tup hh
     | [],_ :: _,hh => nomatch hh
     | _ :: _,[],hh => nomatch hh
     | [_],_ :: _ :: _,hh => exact absurd hh.length (by simp)
     | _ :: _ :: _,[_],hh => exact absurd hh.length (by simp)
    obtain ⟨rv,hrun1,hv⟩:=hfin
    have post:a1.defers = [] ∧ ∃ v,(results fn a1.tmps).run P w1 = .ok v w1 ∧ ∃ μ' rv,(μ.le μ' ∧ ∀ i,i < n0 → μ' i = μ i) ∧ Rep μ' (lk s.H) w1 ∧ VRel μ' (tupleOf vs) rv ∧ Ending.returned v = .returned rv ∧ Keeps μ (lk H) w μ' (lk s.H) w1:=
     ⟨hd1,rv,hrun1,μ1,rv,⟨hle1,hsame1⟩,hr1,hv,rfl,hk1⟩
    cases e with
    | normal => exact post
    | ret => exact post
    | exit i => exact absurd rfl (he i)
   ·simp at hres
  split at hx
  ·simp at hx
  ·rename_i e s hne hxc
   refine key e s hxc ?_ hx
   rintro i rfl
   exact hne i rfl
  ·simp at hx
theorem FnSpec.sub {P:Program} {g:FuncId} {A:List Value} {H:Heap} {n0:Nat} {v:Value} {Hend H':Heap} (f:FnSpec P g n0 A H v Hend) (hs:subP (lk Hend) H'):FnSpec P g n0 A H v H':=
 ⟨f.enters,fun μ w rargs hg hfr hA hr => (f.runs μ w rargs hg hfr hA hr).mono fun e w' ⟨μ',rv,h1,h2,h3,h4,h5⟩ => ⟨μ',rv,h1,h2.sub (subP_spec hs),h3,h4,h5.sub (subP_spec hs)⟩⟩
theorem fn_of_xok {P : Program} (hG : P.globals.size ≤ 1000) (hM : P.follows .mixedOrders = true) {g : FuncId} {fn : Func} (hf : P.funcs[g]? = some fn) (hb : fn.body.isSome = true) (hn : (fn.name == "runtime.NumGoroutine") = false) {fuel : Nat} {A : List Value} {H : Heap} {n0 : Nat}
  {hs:List Hint} {v:Value} {H':Heap} (h:xok P fn fuel A H n0 hs v H'):FnSpec P g n0 A H v H':=by
 unfold xok at h
 split at h
 case h_2 => exact h.elim
 case h_1 v' Hend ob hx =>
 obtain ⟨hob,rfl,hsub⟩:=conjP_spec h
 exact (fn_of_xokE hG hM hf hb hn hx hob).sub hsub
def allP:List Prop → Prop
 | [] => True
 | p :: r => p ∧ allP r
theorem allP_spec:∀ {l:List Prop},allP l → ∀ p ∈ l,p
 | [],_,p,hp => by simp at hp
 | q :: r,h,p,hp => by
  simp only [List.mem_cons] at hp
  rcases hp with rfl | hp
  ·exact h.1
  ·exact allP_spec h.2 p hp
theorem conjP_of:∀ {l:List Prop} {q:Prop},(∀ p ∈ l,p) → q → conjP l q
 | [],_,_,h => h
 | _ :: _,_,h,hq => ⟨h _ (by simp),conjP_of (fun p hp => h p (by simp [hp])) hq⟩
def xok2 (P:Program) (fn:Func) (fuel:Nat) (A:List Value) (H:Heap) (n0:Nat) (hs:List Hint) (v:Value) (H':Heap):Prop:=
 match xfun P fn fuel A H n0 hs with
 | some (v',Hend,ob) => allP ob ∧ (v' = v ∧ subP (lk Hend) H')
 | none => False
def subT:Heap → Prop
 | [] => True
 | (_,B) :: r => some B = some B ∧ subT r
theorem subT_all:∀ h:Heap,subT h
 | [] => trivial
 | (_,_) :: r => ⟨rfl,subT_all r⟩
theorem fn_of_x {P : Program} (hG : P.globals.size ≤ 1000) (hM : P.follows .mixedOrders = true) {g : FuncId} {fn : Func} (hf : P.funcs[g]? = some fn) (hb : fn.body.isSome = true) (hn : (fn.name == "runtime.NumGoroutine") = false) (fuel : Nat) (hs : List Hint)
  {A:List Value} {H:Heap} {n0:Nat} {v:Value} {H':Heap} {O:Prop} (o:O) (h:(O ∧ (v = v ∧ subT H')) = xok2 P fn fuel A H n0 hs v H'):FnSpec P g n0 A H v H':=by
 have h2:xok2 P fn fuel A H n0 hs v H':=h ▸ ⟨o,rfl,subT_all H'⟩
 refine fn_of_xok hG hM hf hb hn (fuel:=fuel) (hs:=hs) ?_
 unfold xok2 at h2
 unfold xok
 split at h2
 ·exact conjP_of (allP_spec h2.1) h2.2
 ·exact h2.elim
theorem J {a b:Prop} (h:a) (k:b):a ∧ b:=⟨h,k⟩
def scalarF:Value → Bool
 | .func (.yield _) ⟨fs⟩ ⟨cs⟩ => fs.all scalar && cs.all scalar
 | v => scalar v
def rowsS:List Seg → Prop → Prop
 | [],k => k
 | .rows _ _ g :: r,k => (∀ j,(g j).all scalarF = true) ∧ rowsS r k
 | _ :: r,k => rowsS r k
def rowsP:Heap → Prop
 | [] => True
 | (_,B) :: r => rowsS B.segs (rowsP r)
def xrun2 (P:Program) (N:Nat) (c:Code) (fuel:Nat) (T:Tm) (H:Heap) (n:Nat) (hs:List Hint) (e:Ex) (live:Tm) (H':Heap) (n':Nat):Prop:=
 match xcode P N fuel c { T,H,n,hs,ob:=[] } with
 | some (e',s) => allP s.ob ∧ (e' = e ∧ (tmP s.T live ∧ (subP (lk s.H) H' ∧ (freshP n' n s.n H' live ∧ rowsP H'))))
 | none => False
 where
 tmP (T:Tm):Tm → Prop
  | [] => True
  | (t,v) :: r => tget T t = v ∧ tmP T r
 freshP (n' n m:Nat) (H':Heap) (live:Tm):Prop:=(Nat.ble n n' && (Nat.ble m n' || (below n' H' && belowT n' live))) = true
 below (n':Nat):Heap → Bool
  | [] => true
  | (i,B) :: r => Nat.blt i n' && belowS n' B.segs && below n' r
 belowS (n':Nat):List Seg → Bool
  | [] => true
  | .one v :: r => belowV n' 6 v && belowS n' r
  | _ :: r => belowS n' r
 belowT (n':Nat):Tm → Bool
  | [] => true
  | (_,v) :: r => belowV n' 6 v && belowT n' r
 belowV (n':Nat):Nat → Value → Bool
  | _,.pointer (some a) => Nat.blt a.block n'
  | _,.slice (some a) _ _ => Nat.blt a.block n'
  | d + 1,.agg ⟨cs⟩ => cs.all (belowV n' d)
  | d + 1,.tuple ⟨cs⟩ => cs.all (belowV n' d)
  | d + 1,.func _ ⟨fs⟩ ⟨cs⟩ => fs.all (belowV n' d) && cs.all (belowV n' d)
  | d + 1,.iface _ v => belowV n' d v
  | 0,.agg _ => false
  | 0,.tuple _ => false
  | 0,.func .. => false
  | 0,.iface .. => false
  | _,_ => true
end Go.Proofs.Ytgnhhnmpeklciaa.VX
namespace Go.Proofs.Ytgnhhnmpeklciaa.VX
open Go
theorem belowVs {n d:Nat} {μ μ':Mu} (ih:∀ v r,xrun2.belowV n d v = true → VRel μ v r → VRel μ' v r):∀ {l m:List Value},l.all (xrun2.belowV n d) = true → VRels μ l m → VRels μ' l m
 | [],[],_,_ => .nil
 | x :: l,y :: m,h,hv => by
  simp only [List.all_cons,Bool.and_eq_true] at h
  cases hv with
  | cons a b => exact .cons (ih x y h.1 a) (belowVs ih h.2 b)
 | [],_ :: _,_,hv => nomatch hv
 | _ :: _,[],_,hv => nomatch hv
theorem belowV_rel {n:Nat} {μ μ':Mu} (hμ:∀ i b,i < n → μ i = some b → μ' i = some b) (hs':∀ b,μ'.sz b = μ.sz b) (hf':∀ b cs,μ.fz b = some cs → μ'.fz b = some cs):∀ (d:Nat) (v r:Value),xrun2.belowV n d v = true → VRel μ v r → VRel μ' v r:=by
 intro d
 induction d with
 | zero =>
  intro v r hb h
  cases h with
  | ptr e off => exact .ptr (hμ _ _ (blt_tt (by simpa [xrun2.belowV] using hb)) e) _
  | ptrS e s off => exact .ptrS (hμ _ _ (blt_tt (by simpa [xrun2.belowV] using hb)) e) _ _
  | slice e off l c c' hc hz => exact .slice (hμ _ _ (blt_tt (by simpa [xrun2.belowV] using hb)) e) _ _ _ _ hc (by rw [hs'];exact hz)
  | lst z l f hs hr k => exact .lst z l f hs hr fun e => (k e).fmono hf'
  | fptr l hs hf k => exact .fptr l hs (hf' _ _ hf) k
  | emp a c => exact .emp a c
  | sliceS e s off l c c' hc hz => exact .sliceS (hμ _ _ (blt_tt (by simpa [xrun2.belowV] using hb)) e) _ _ _ _ _ hc (by rw [hs'];exact hz)
  | sliceE i s off c a c' hz => exact .sliceE _ _ _ _ _ _ hz
  | junk r => exact .junk _
  | und => exact .und
  | bool b => exact .bool b
  | int k n => exact .int k n
  | float k n => exact .float k n
  | string s => exact .string s
  | ptrNil => exact .ptrNil
  | sliceNil => exact .sliceNil
  | mapNil => exact .mapNil
  | nilFunc => exact .nilFunc
  | nilIface => exact .nilIface
  | func fn a b => simp [xrun2.belowV] at hb
  | iface t a => simp [xrun2.belowV] at hb
  | agg a => simp [xrun2.belowV] at hb
  | tup a => simp [xrun2.belowV] at hb
 | succ d ih =>
  intro v r hb h
  cases h with
  | ptr e off => exact .ptr (hμ _ _ (blt_tt (by simpa [xrun2.belowV] using hb)) e) _
  | ptrS e s off => exact .ptrS (hμ _ _ (blt_tt (by simpa [xrun2.belowV] using hb)) e) _ _
  | slice e off l c c' hc hz => exact .slice (hμ _ _ (blt_tt (by simpa [xrun2.belowV] using hb)) e) _ _ _ _ hc (by rw [hs'];exact hz)
  | lst z l f hs hr k => exact .lst z l f hs hr fun e => (k e).fmono hf'
  | fptr l hs hf k => exact .fptr l hs (hf' _ _ hf) k
  | emp a c => exact .emp a c
  | sliceS e s off l c c' hc hz => exact .sliceS (hμ _ _ (blt_tt (by simpa [xrun2.belowV] using hb)) e) _ _ _ _ _ hc (by rw [hs'];exact hz)
  | sliceE i s off c a c' hz => exact .sliceE _ _ _ _ _ _ hz
  | junk r => exact .junk _
  | und => exact .und
  | bool b => exact .bool b
  | int k n => exact .int k n
  | float k n => exact .float k n
  | string s => exact .string s
  | ptrNil => exact .ptrNil
  | sliceNil => exact .sliceNil
  | mapNil => exact .mapNil
  | nilFunc => exact .nilFunc
  | nilIface => exact .nilIface
  | func fn a b =>
   simp only [xrun2.belowV,Bool.and_eq_true] at hb
   exact .func fn (belowVs ih hb.1 a) (belowVs ih hb.2 b)
  | iface t a => exact .iface t (ih _ _ (by simpa [xrun2.belowV] using hb) a)
  | agg a => exact .agg (belowVs ih (by simpa [xrun2.belowV] using hb) a)
  | tup a => exact .tup (belowVs ih (by simpa [xrun2.belowV] using hb) a)
theorem scalar_below {n:Nat} {v:Value} (h:scalar v = true):xrun2.belowV n 6 v = true:=by
 cases v with
 | pointer a => cases a <;> simp_all [scalar,xrun2.belowV]
 | slice a l c => cases a <;> simp_all [scalar,xrun2.belowV]
 | map a => cases a <;> simp_all [scalar,xrun2.belowV]
 | func a b c => simp [scalar] at h
 | iface a b => simp [scalar] at h
 | agg a => simp [scalar] at h
 | tuple a => simp [scalar] at h
 | _ => simp_all [scalar,xrun2.belowV]
theorem scalarF_below {n:Nat} {v:Value} (h:scalarF v = true):xrun2.belowV n 6 v = true:=by
 have sc:∀ (d:Nat) (u:Value),scalar u = true → xrun2.belowV n (d + 1) u = true:=by
  intro d u hu
  cases u with
  | pointer a => cases a <;> simp_all [scalar,xrun2.belowV]
  | slice a l c => cases a <;> simp_all [scalar,xrun2.belowV]
  | map a => cases a <;> simp_all [scalar,xrun2.belowV]
  | func a b c => simp [scalar] at hu
  | iface a b => simp [scalar] at hu
  | agg a => simp [scalar] at hu
  | tuple a => simp [scalar] at hu
  | _ => simp_all [scalar,xrun2.belowV]
 unfold scalarF at h
 split at h
 ·simp only [Bool.and_eq_true,List.all_eq_true] at h
  simp only [xrun2.belowV,Bool.and_eq_true,List.all_eq_true]
  exact ⟨fun u hu => sc 4 u (h.1 u hu),fun u hu => sc 4 u (h.2 u hu)⟩
 ·exact scalar_below h
theorem rowsS_skip:∀ {l:List Seg} {k:Prop},rowsS l k → k
 | [],_,h => h
 | s :: r,k,h => by
  cases s with
  | rows m z g => exact rowsS_skip (l:=r) h.2
  | one x => exact rowsS_skip (l:=r) h
  | ints a b c => exact rowsS_skip (l:=r) h
  | bools a b => exact rowsS_skip (l:=r) h
  | gap m => exact rowsS_skip (l:=r) h
theorem rowsP_lk:∀ {H:Heap},rowsP H → ∀ i B,lk H i = some B → rowsS B.segs True
 | [],_,i,B,h => by simp [lk] at h
 | (j,C) :: r,hb,i,B,h => by
  have tr:∀ {l:List Seg} {k:Prop},rowsS l k → rowsS l True:=by
   intro l
   induction l with
   | nil => intro k _;trivial
   | cons s r ih =>
    intro k h
    cases s with
    | rows m z g => exact ⟨h.1,ih h.2⟩
    | one x => exact ih (k:=k) h
    | ints a b c => exact ih (k:=k) h
    | bools a b => exact ih (k:=k) h
    | gap m => exact ih (k:=k) h
  simp only [rowsP] at hb
  simp only [lk] at h
  cases e:Nat.beq i j <;> rw [e] at h
  ·exact rowsP_lk (rowsS_skip hb) i B (by simpa using h)
  ·simp at h;subst h;exact tr hb
theorem rowsS_tail {s:Seg} {r:List Seg} {k:Prop} (h:rowsS (s :: r) k):rowsS r k:=by
 cases s with
 | rows m z g => exact h.2
 | one x => exact h
 | ints a b c => exact h
 | bools a b => exact h
 | gap m => exact h
theorem belowS_get {n:Nat}:∀ {l:List Seg} {o:Nat} {v:Value},xrun2.belowS n l = true → rowsS l True → segsGet? l o = some v → xrun2.belowV n 6 v = true
 | [],o,v,_,_,h => by simp [segsGet?] at h
 | s :: r,o,v,hb,hw,h => by
  simp only [segsGet?] at h
  cases e:Nat.blt o s.size <;> rw [e] at h
  ·refine belowS_get (l:=r) ?_ (rowsS_tail hw) (by simpa using h)
   cases s <;> simp_all [xrun2.belowS]
  ·simp only [cond_true] at h
   cases s with
   | one x =>
    simp only [xrun2.belowS,Bool.and_eq_true] at hb
    simp only [Seg.get?] at h
    cases e2:Nat.beq o 0 <;> rw [e2] at h <;> simp at h
    subst h;exact hb.1
   | ints k m a =>
    simp only [Seg.get?] at h
    cases e2:Nat.blt o m <;> rw [e2] at h <;> simp at h
    subst h;rfl
   | bools m a =>
    simp only [Seg.get?] at h
    cases e2:Nat.blt o m <;> rw [e2] at h <;> simp at h
    subst h;rfl
   | rows m sz g =>
    simp only [Seg.get?] at h
    cases e2:Nat.blt o (m * sz) <;> rw [e2] at h <;> simp at h
    exact scalarF_below (List.all_eq_true.1 (hw.1 _) v (List.mem_of_getElem? h))
   | gap m => simp [Seg.get?] at h
theorem below_lk {n:Nat}:∀ {H:Heap},xrun2.below n H = true → ∀ i B,lk H i = some B → i < n ∧ xrun2.belowS n B.segs = true
 | [],_,i,B,h => by simp [lk] at h
 | (j,C) :: r,hb,i,B,h => by
  simp only [xrun2.below,Bool.and_eq_true] at hb
  simp only [lk] at h
  cases e:Nat.beq i j <;> rw [e] at h
  ·exact below_lk hb.2 i B (by simpa using h)
  ·simp at h;subst h;rw [beq_tt e];exact ⟨blt_tt hb.1.1,hb.1.2⟩
theorem belowT_get {n:Nat}:∀ {T:Tm},xrun2.belowT n T = true → ∀ t,xrun2.belowV n 6 (tget T t) = true
 | [],_,t => rfl
 | (d,v) :: r,hb,t => by
  simp only [xrun2.belowT,Bool.and_eq_true] at hb
  simp only [tget]
  cases e:Nat.beq t d
  ·simpa using belowT_get hb.2 t
  ·simpa using hb.1
theorem tmP_get {T:Tm}:∀ {live:Tm},xrun2.tmP T live → ∀ t,tget live t = tget T t ∨ tget live t = .tuple ⟨[]⟩
 | [],_,t => .inr rfl
 | (d,v) :: r,h,t => by
  simp only [tget]
  cases e:Nat.beq t d
  ·simpa using tmP_get h.2 t
  ·rw [beq_tt e];exact .inl (by simpa using h.1.symm)
theorem Runs.weaken {P:Program} {N:Nat} {c:Code} {T T1 live:Tm} {H H1 H':Heap} {n n1 n':Nat} {e:Ex} (a:Runs P N c T H n e T1 H1 n1) (hT:xrun2.tmP T1 live) (hH:subP (lk H1) H') (hF:xrun2.freshP n' n n1 H' live) (hW:rowsP H') :
  Runs P N c T H n e live H' n':=by
 simp only [xrun2.freshP,Bool.and_eq_true,Bool.or_eq_true] at hF
 obtain ⟨hn,hF⟩:=hF
 have hn:=ble_tt hn
 have hsub:=subP_spec hH
 refine .intro hn fun μ ac w hg ht hr hd hf Q hQ => ?_
 refine a.elim hg ht hr hd hf ?_
 intro μ1 a1 w1 hle1 hsame1 hf1 ht1 hr1 hd1 hk1
 have htm:TRel N μ1 (tget live) a1.tmps:=by
  refine ⟨ht1.1,fun t => ?_⟩
  rcases tmP_get hT t with h | h <;> rw [h]
  ·exact ht1.2 t
  ·exact .junk _
 rcases hF with h | ⟨hb,hbt⟩
 ·have h:=ble_tt h
  exact hQ μ1 a1 w1 hle1 hsame1 (fun i hi => hf1 i (by omega)) htm (hr1.sub hsub) hd1 (hk1.sub hsub)
 ·let μ2:Mu:=⟨fun i => if i < n' then μ1 i else none,μ1.sz,μ1.fz⟩
  have h2:∀ i b,i < n' → μ1 i = some b → μ2 i = some b:=fun i b hi hb => by simp only [μ2,if_pos hi,hb]
  have h3:∀ i b,μ2 i = some b → i < n' ∧ μ1 i = some b:=by
   intro i b hb
   simp only [μ2] at hb
   split at hb
   ·exact ⟨‹_›,hb⟩
   ·cases hb
  have hbl:=below_lk hb
  refine hQ μ2 a1 w1 ⟨?_,hle1.szs,hle1.fzs⟩ ?_ ?_ ?_ ?_ hd1 ?_
  ·intro i b hi
   have hin:i < n:=by
    rcases Nat.lt_or_ge i n with h | h
    ·exact h
    ·rw [hf i h] at hi;cases hi
   exact h2 i b (by omega) (hle1 i b hi)
  ·intro i hi
   simp only [μ2,if_pos (show i < n' by omega)]
   exact hsame1 i hi
  ·intro i hi
   simp only [μ2,if_neg (show ¬ i < n' by omega)]
  ·exact ⟨htm.1,fun t => belowV_rel h2 (fun _ => rfl) (fun _ _ h => h) 6 _ _ (belowT_get hbt t) (htm.2 t)⟩
  ·have r':=hr1.sub hsub
   refine ⟨?_,?_,?_,fun i B b hB hro hi => r'.size i B b hB hro (h3 i b hi).2,r'.frz,fun i B b hB hro hi => r'.nofz i B b hB hro (h3 i b hi).2⟩
   ·intro i B hB hne
    obtain ⟨hi,hs⟩:=hbl i B hB
    obtain ⟨b,hb',cs,t,fr,e1,e2,e3⟩:=r'.blk i B hB (by simp only [μ2,if_pos hi] at hne;exact hne)
    exact ⟨b,h2 i b hi hb',cs,t,fr,e1,e2,fun off v hv => let ⟨x,hx,hvx⟩:=e3 off v hv;⟨x,hx,belowV_rel h2 (fun _ => rfl) (fun _ _ h => h) 6 _ _ (belowS_get hs (rowsP_lk hW i B hB) hv) hvx⟩⟩
   ·intro i j A B b hA hB hi hj hne
    exact r'.apart i j A B b hA hB (h3 i b hi).2 (h3 j b hj).2 hne
   ·intro i b hi
    exact r'.bound i b (h3 i b hi).2
  ·have k':=hk1.sub hsub
   exact { k' with old:=fun i B b e m hb => k'.old i B b e (h3 i b m).2 hb }
def tmT:Tm → Prop
 | [] => True
 | (_,v) :: r => v = v ∧ tmT r
theorem tmT_all:∀ l:Tm,tmT l
 | [] => trivial
 | (_,_) :: r => ⟨rfl,tmT_all r⟩
def rowsTS:List Seg → Prop → Prop
 | [],k => k
 | .rows _ _ _ :: r,k => (∀ _:Nat,true = true) ∧ rowsTS r k
 | _ :: r,k => rowsTS r k
def rowsT:Heap → Prop
 | [] => True
 | (_,B) :: r => rowsTS B.segs (rowsT r)
theorem rowsTS_all:∀ (l:List Seg) (k:Prop),k → rowsTS l k
 | [],_,h => h
 | s :: r,k,h => by
  cases s with
  | rows m z g => exact ⟨fun _ => rfl,rowsTS_all r k h⟩
  | one x => exact rowsTS_all r k h
  | ints a b c => exact rowsTS_all r k h
  | bools a b => exact rowsTS_all r k h
  | gap m => exact rowsTS_all r k h
theorem rowsT_all:∀ H:Heap,rowsT H
 | [] => trivial
 | (_,B) :: r => rowsTS_all B.segs _ (rowsT_all r)
theorem runs_of_x {P:Program} (hG:P.globals.size ≤ 1000) (hM:P.follows .mixedOrders = true) {N:Nat} {c:Code} (fuel:Nat) (hs:List Hint) {T:Tm} {H:Heap} {n:Nat} {e:Ex} {live:Tm} {H':Heap} {n':Nat} {O:Prop} (o:O)
  (h:(O ∧ (e = e ∧ (tmT live ∧ (subT H' ∧ (true = true ∧ rowsT H'))))) = xrun2 P N c fuel T H n hs e live H' n'):Runs P N c T H n e live H' n':=by
 have h2:xrun2 P N c fuel T H n hs e live H' n':=h ▸ ⟨o,rfl,tmT_all live,subT_all H',rfl,rowsT_all H'⟩
 unfold xrun2 at h2
 split at h2
 ·rename_i e' s hx
  obtain ⟨ho,rfl,ht,hh,hf,hw⟩:=h2
  exact ((xcode_ok hG hM fuel c _ s e' hx).2 (allP_spec ho)).1.weaken ht hh hf hw
 ·exact h2.elim
def iter {S R:Type} (step:S → S ⊕ R):Nat → S → Option R
 | 0,_ => none
 | m + 1,s => match step s with
  | .inl s' => iter step m s'
  | .inr r => some r
theorem block_iter {P:Program} {N id n:Nat} {body:Code} {S R:Type} (step:S → S ⊕ R) (T0:S → Tm) (H0:S → Heap) (ex:R → Ex) (T1:R → Tm) (H1:R → Heap) (hex:∀ r,ex r ≠ .normal)
  (hgo:∀ s s',step s = .inl s' → Runs P N body (T0 s) (H0 s) n .normal (T0 s') (H0 s') n) (hout:∀ s r,step s = .inr r → Runs P N body (T0 s) (H0 s) n (ex r) (T1 r) (H1 r) n)
  (m:Nat) (s:S) (r:R) (h:iter step m s = some r):Runs P N (.block id (.loop body)) (T0 s) (H0 s) n (outOf id (ex r)) (T1 r) (H1 r) n:=by
 have key:∀ (m:Nat) (s:S),iter step m s = some r → ∃ k,LRuns P N body k (T0 s) (H0 s) n (ex r) (T1 r) (H1 r) n:=by
  intro m
  induction m with
  | zero => intro s h;simp [iter] at h
  | succ m ih =>
   intro s h
   simp only [iter] at h
   cases hs:step s with
   | inl s' =>
    simp only [hs] at h
    obtain ⟨k,hk⟩:=ih s' h
    exact ⟨k + 1,LRuns.more (hgo s s' hs) hk⟩
   | inr r' =>
    simp only [hs,Option.some.injEq] at h
    subst h
    exact ⟨1,LRuns.last (hex _) (hout s _ hs) 0⟩
 obtain ⟨k,hk⟩:=key m s h
 exact Runs.block (id:=id) hk.loop
def subCode:Code → List Nat → Code
 | c,[] => c
 | .seq a _,0 :: r => subCode a r
 | .seq _ b,_ :: r => subCode b r
 | .cond _ a _,0 :: r => subCode a r
 | .cond _ _ b,_ :: r => subCode b r
 | .block _ a,_ :: r => subCode a r
 | .loop a,_ :: r => subCode a r
 | c,_ => c
def bodyOf (f:Func) (p:List Nat):Code:=match f.body with
 | some c => subCode c p
 | none => .skip
end Go.Proofs.Ytgnhhnmpeklciaa.VX
namespace Go.Proofs.Ytgnhhnmpeklciaa.VX
open Go
inductive LoopR {S R:Type} (rel:S → S ⊕ R → Prop):S → R → Prop
 | last {s:S} {r:R} (h:rel s (.inr r)):LoopR rel s r
 | more {s s':S} {r:R} (h:rel s (.inl s')) (t:LoopR rel s' r):LoopR rel s r
theorem block_loop {P:Program} {N id n:Nat} {body:Code} {S R:Type} (rel:S → S ⊕ R → Prop) (T0:S → Tm) (H0:S → Heap) (ex:R → Ex) (T1:R → Tm) (H1:R → Heap) (hex:∀ r,ex r ≠ .normal)
  (hgo:∀ s s',rel s (.inl s') → Runs P N body (T0 s) (H0 s) n .normal (T0 s') (H0 s') n) (hout:∀ s r,rel s (.inr r) → Runs P N body (T0 s) (H0 s) n (ex r) (T1 r) (H1 r) n)
  (s:S) (r:R) (h:LoopR rel s r):Runs P N (.block id (.loop body)) (T0 s) (H0 s) n (outOf id (ex r)) (T1 r) (H1 r) n:=by
 have key:∃ k,LRuns P N body k (T0 s) (H0 s) n (ex r) (T1 r) (H1 r) n:=by
  induction h with
  | last h => exact ⟨1,LRuns.last (hex _) (hout _ _ h) 0⟩
  | more h t ih =>
   obtain ⟨k,hk⟩:=ih
   exact ⟨k + 1,LRuns.more (hgo _ _ h) hk⟩
 obtain ⟨k,hk⟩:=key
 exact Runs.block (id:=id) hk.loop
end Go.Proofs.Ytgnhhnmpeklciaa.VX
namespace Go.Proofs.Ytgnhhnmpeklciaa.VX
open Go
def RunsM (P:Program) (N:Nat) (c:Code) (mv:Nat) (T:Tm) (H:Heap) (n:Nat) (e:Ex) (T':Tm) (H':Heap) (n':Nat):Prop:=
 mv ≤ n ∧ mv ≤ n' ∧ ∀ (μ:Mu) (a:Act) (w:World),Gl P μ → 1000 ≤ mv → TRel N μ (tget T) a.tmps → Rep μ (lk H) w → a.defers = [] → (∀ i,n ≤ i → μ i = none) →
  ∀ Q:Exit → Act → World → Prop,(∀ μ' a' w',(∀ i,i < mv → μ' i = μ i) → (∀ i,n' ≤ i → μ' i = none) → TRel N μ' (tget T') a'.tmps → Rep μ' (lk H') w' → a'.defers = [] → Keeps μ (lk H) w μ' (lk H') w' → Q e.to a' w') → c.wp P Q a w
theorem Gl.below {P:Program} {μ μ':Mu} {mv:Nat} (hG:P.globals.size ≤ 1000) (hmv:1000 ≤ mv) (g:Gl P μ) (h:∀ i,i < mv → μ' i = μ i):Gl P μ':=
 fun i hi => by rw [h i (by omega)];exact g i hi
theorem Runs.toM {P:Program} {N:Nat} {c:Code} {mv:Nat} {T T':Tm} {H H':Heap} {n n':Nat} {e:Ex} (h1:mv ≤ n) (r:Runs P N c T H n e T' H' n'):RunsM P N c mv T H n e T' H' n':=by
 refine ⟨h1,Nat.le_trans h1 r.1,fun μ a w hg _ ht hr hd hf Q hQ => r.elim hg ht hr hd hf ?_⟩
 intro μ' a' w' hle hsame hf' ht' hr' hd' hk
 exact hQ μ' a' w' (fun i hi => hsame i (by omega)) hf' ht' hr' hd' hk
theorem RunsM.toRuns {P:Program} {N:Nat} {c:Code} {T T':Tm} {H H':Heap} {n n':Nat} {e:Ex} (hn:1000 ≤ n) (r:RunsM P N c n T H n e T' H' n'):Runs P N c T H n e T' H' n':=by
 refine .intro r.2.1 fun μ a w hg ht hr hd hf Q hQ => r.2.2 μ a w hg hn ht hr hd hf Q ?_
 intro μ' a' w' hsame hf' ht' hr' hd' hk
 refine hQ μ' a' w' ⟨?_,?_,hk.kfz⟩ hsame hf' ht' hr' hd' hk
 ·intro i b hi
  have:i < n:=by
   rcases Nat.lt_or_ge i n with h | h
   ·exact h
   ·rw [hf i h] at hi;cases hi
  rw [hsame i this];exact hi
 ·intro i b hi
  exact hk.ksz b (hr.bound i b hi)
def LRunsM (P:Program) (N:Nat) (c:Code) (mv m:Nat) (T:Tm) (H:Heap) (n:Nat) (e:Ex) (T':Tm) (H':Heap) (n':Nat):Prop:=
 mv ≤ n ∧ mv ≤ n' ∧ ∀ (μ:Mu) (a:Act) (w:World),Gl P μ → 1000 ≤ mv → TRel N μ (tget T) a.tmps → Rep μ (lk H) w → a.defers = [] → (∀ i,n ≤ i → μ i = none) →
  ∀ Q:Exit → Act → World → Prop,(∀ μ' a' w',(∀ i,i < mv → μ' i = μ i) → (∀ i,n' ≤ i → μ' i = none) → TRel N μ' (tget T') a'.tmps → Rep μ' (lk H') w' → a'.defers = [] → Keeps μ (lk H) w μ' (lk H') w' → Q e.to a' w') →
   Code.rounds P c Q m a w
theorem LRunsM.last {P:Program} {N:Nat} {c:Code} {mv:Nat} {T T1:Tm} {H H1:Heap} {n n1:Nat} {e:Ex} (he:e ≠ .normal) (a:RunsM P N c mv T H n e T1 H1 n1) (m:Nat):LRunsM P N c mv (m + 1) T H n e T1 H1 n1:=by
 refine ⟨a.1,a.2.1,fun μ ac w hg hmv ht hr hd hf Q hQ => ?_⟩
 rw [rounds_succ]
 refine a.2.2 μ ac w hg hmv ht hr hd hf _ ?_
 intro μ1 a1 w1 h2 h3 h4 h5 h6 h7
 have:=hQ μ1 a1 w1 h2 h3 h4 h5 h6 h7
 cases e with
 | normal => exact absurd rfl he
 | exit id => exact this
 | ret => exact this
theorem LRunsM.more {P:Program} (hG:P.globals.size ≤ 1000) {N:Nat} {c:Code} {mv:Nat} {T T1 T2:Tm} {H H1 H2:Heap} {n n1 n2 m:Nat} {e:Ex} (a:RunsM P N c mv T H n .normal T1 H1 n1) (b:LRunsM P N c mv m T1 H1 n1 e T2 H2 n2):LRunsM P N c mv (m + 1) T H n e T2 H2 n2:=by
 refine ⟨a.1,b.2.1,fun μ ac w hg hmv ht hr hd hf Q hQ => ?_⟩
 rw [rounds_succ]
 refine a.2.2 μ ac w hg hmv ht hr hd hf _ ?_
 intro μ1 a1 w1 hsame1 hf1 ht1 hr1 hd1 hk1
 show Code.rounds P c Q m a1 w1
 refine b.2.2 μ1 a1 w1 (hg.below hG hmv hsame1) hmv ht1 hr1 hd1 hf1 Q ?_
 intro μ2 a2 w2 hsame2 hf2 ht2 hr2 hd2 hk2
 exact hQ μ2 a2 w2 (fun i hi => by rw [hsame2 i hi,hsame1 i hi]) hf2 ht2 hr2 hd2 (hk1.trans hk2)
theorem LRunsM.loop {P:Program} {N:Nat} {c:Code} {mv:Nat} {T T1:Tm} {H H1:Heap} {n n1 m:Nat} {e:Ex} (a:LRunsM P N c mv m T H n e T1 H1 n1):RunsM P N (.loop c) mv T H n e T1 H1 n1:=
 ⟨a.1,a.2.1,fun μ ac w hg hmv ht hr hd hf Q hQ => wp_loop_rounds m (a.2.2 μ ac w hg hmv ht hr hd hf Q hQ)⟩
theorem RunsM.block {P:Program} {N:Nat} {id:Nat} {c:Code} {mv:Nat} {T T1:Tm} {H H1:Heap} {n n1:Nat} {e:Ex} (a:RunsM P N c mv T H n e T1 H1 n1):RunsM P N (.block id c) mv T H n (outOf id e) T1 H1 n1:=by
 refine ⟨a.1,a.2.1,fun μ ac w hg hmv ht hr hd hf Q hQ => ?_⟩
 refine wp_block (a.2.2 μ ac w hg hmv ht hr hd hf _ ?_)
 intro μ1 a1 w1 h2 h3 h4 h5 h6 h7
 have:=hQ μ1 a1 w1 h2 h3 h4 h5 h6 h7
 cases e with
 | normal => exact this
 | ret => exact this
 | exit i =>
  simp only [Ex.to,Exit.inBlock,outOf] at this ⊢
  cases hb:Nat.beq i id
  ·rw [hb] at this
   rw [if_neg (beq_ff hb)]
   exact this
  ·rw [hb] at this
   rw [if_pos (beq_tt hb)]
   exact this
def renOk (σ:List (Nat × Nat)) (mv n':Nat):Bool:=
 Nat.ble mv n' && σ.all fun x => (match look (swap σ) x.2 with | some i => Nat.beq i x.1 | none => false) && (match look σ x.1 with | some j => Nat.beq j x.2 | none => false) && Nat.blt x.2 n' && (Nat.ble mv x.2 || Nat.beq x.1 x.2)
def tagTo (σ:List (Nat × Nat)):Value → Value → Value
 | .slice none 0 0,.slice (some ⟨k,0,some 0⟩) _ z => .slice (some ⟨k,0,some 0⟩) 0 z
 | .slice (some ⟨i,0,none⟩) l z,.slice (some ⟨_,0,some 0⟩) _ _ => match look σ i with
  | some j => .slice (some ⟨j,0,some 0⟩) l z
  | none => .tuple ⟨[]⟩
 | v,_ => rn σ 6 v
def cvSegs (σ:List (Nat × Nat)):List Seg → List Seg → List Seg
 | .one v :: r,.one v' :: r' => .one (tagTo σ v v') :: cvSegs σ r r'
 | .one v :: r,l => .one (rn σ 6 v) :: cvSegs σ r l.tail
 | s :: r,l => rnS σ s :: cvSegs σ r l.tail
 | [],_ => []
def cvB (σ:List (Nat × Nat)) (A B:Blk):Blk:={ A with segs:=cvSegs σ A.segs B.segs }
def cvT (σ:List (Nat × Nat)) (T1:Tm):Tm → Prop
 | [] => True
 | (t,v) :: r => tagTo σ (tget T1 t) v = v ∧ cvT σ T1 r
def cvH1 (σ:List (Nat × Nat)) (mv:Nat) (H1:HF) (j:Nat) (B:Blk):Option Blk:=
 match look (swap σ) j with
 | some i => (H1 i).map fun A => cvB σ A B
 | none => bif Nat.beq B.size 0 && Nat.ble mv j then some B else none
def cvH (σ:List (Nat × Nat)) (mv:Nat) (H1:HF):Heap → Prop
 | [] => True
 | (j,B) :: r => cvH1 σ mv H1 j B = some B ∧ cvH σ mv H1 r
theorem tagTo_rel {σ:List (Nat × Nat)} {μ μ':Mu} (hσ:Renames σ μ μ') (v v' r:Value) (h:VRel μ v r):VRel μ' (tagTo σ v v') r:=by
 unfold tagTo
 split
 ·cases h
  exact .sliceE _ _ _ _ _ _ (.inr rfl)
 ·split
  ·rename_i j hj
   cases h with
   | slice e _ _ _ c' hc hz => exact VRel.sliceS (hσ _ _ _ hj e) 0 0 _ _ c' hc (hz.imp id fun k => by rw [hσ.szs _ _ e];simpa using k)
  ·exact .junk _
 ·exact rn_rel hσ 6 _ _ h
theorem cvSegs_size (σ:List (Nat × Nat)):∀ (l l':List Seg),segsSize (cvSegs σ l l') = segsSize l
 | [],_ => rfl
 | s :: r,l' => by
  have h1:=rnS_size σ s
  cases s with
  | one v =>
   cases l' with
   | nil => simp only [cvSegs,segsSize,Seg.size,cvSegs_size σ r]
   | cons s' r' => cases s' <;> simp only [cvSegs,segsSize,Seg.size,cvSegs_size σ r]
  | _ => simp only [cvSegs,segsSize,h1,cvSegs_size σ r]
theorem cvSegs_get {σ:List (Nat × Nat)}:∀ {l l':List Seg} {o:Nat} {v:Value},segsGet? (cvSegs σ l l') o = some v → ∃ u,segsGet? l o = some u ∧ (v = rn σ 6 u ∨ (v = u ∧ scalar u = true) ∨ ∃ v',v = tagTo σ u v')
 | [],_,o,v,h => by simp [cvSegs,segsGet?] at h
 | s :: r,l',o,v,h => by
  have gen:∀ (s':Seg) (l'':List Seg),s'.size = s.size → (∀ {o v},s'.get? o = some v → ∃ u,s.get? o = some u ∧ (v = rn σ 6 u ∨ (v = u ∧ scalar u = true) ∨ ∃ v',v = tagTo σ u v')) → segsGet? (s' :: cvSegs σ r l'') o = some v →
    ∃ u,segsGet? (s :: r) o = some u ∧ (v = rn σ 6 u ∨ (v = u ∧ scalar u = true) ∨ ∃ v',v = tagTo σ u v'):=by
   intro s' l'' hz hg h
   simp only [segsGet?,hz] at h ⊢
   cases e:Nat.blt o s.size <;> rw [e] at h
   ·simp only [cond_false] at h ⊢
    exact cvSegs_get h
   ·simp only [cond_true] at h ⊢
    exact hg h
  have one:∀ (x w:Value) (hw:w = rn σ 6 x ∨ ∃ v',w = tagTo σ x v') {o:Nat} {v:Value},(Seg.one w).get? o = some v → ∃ u,(Seg.one x).get? o = some u ∧ (v = rn σ 6 u ∨ (v = u ∧ scalar u = true) ∨ ∃ v',v = tagTo σ u v'):=by
   intro x w hw o v hg
   simp only [Seg.get?] at hg ⊢
   cases e:Nat.beq o 0 <;> rw [e] at hg
   ·simp at hg
   ·simp at hg;subst hg
    exact ⟨x,by simp,hw.imp id .inr⟩
  have oth:∀ {o v},(rnS σ s).get? o = some v → ∃ u,s.get? o = some u ∧ (v = rn σ 6 u ∨ (v = u ∧ scalar u = true) ∨ ∃ v',v = tagTo σ u v'):=fun hg => let ⟨u,h1,h2⟩:=rnS_get hg;⟨u,h1,h2.imp id .inl⟩
  cases s with
  | one x =>
   cases l' with
   | nil => exact gen (.one (rn σ 6 x)) _ rfl (fun hg => one x _ (.inl rfl) hg) (by simpa only [cvSegs] using h)
   | cons s' r' =>
    cases s' with
    | one v' => exact gen (.one (tagTo σ x v')) _ rfl (fun hg => one x _ (.inr ⟨v',rfl⟩) hg) (by simpa only [cvSegs] using h)
    | _ => exact gen (.one (rn σ 6 x)) _ rfl (fun hg => one x _ (.inl rfl) hg) (by simpa only [cvSegs] using h)
  | _ => exact gen (rnS σ _) _ (rnS_size σ _) oth (by simpa only [cvSegs] using h)
theorem cvB_rel {σ:List (Nat × Nat)} {μ μ':Mu} (hσ:Renames σ μ μ') {A B:Blk} {o:Option Obj} (h:BlkRel μ A o):BlkRel μ' (cvB σ A B) o:=by
 obtain ⟨cs,t,fr,e,h1,h2⟩:=h
 refine ⟨cs,t,fr,e,fun hro => ?_,fun off v hv => ?_⟩
 ·obtain ⟨p,q,s⟩:=h1 hro
  exact ⟨p,q,by unfold Blk.size cvB;rw [cvSegs_size];exact s⟩
 ·obtain ⟨u,hu,hv'⟩:=cvSegs_get hv
  obtain ⟨r,hr,hrel⟩:=h2 off u hu
  refine ⟨r,hr,?_⟩
  rcases hv' with rfl | ⟨rfl,hsc⟩ | ⟨v',rfl⟩
  ·exact rn_rel hσ 6 _ _ hrel
  ·rw [VRel.eq_of_scalar hsc hrel];exact .of_scalar hsc
  ·exact tagTo_rel hσ _ _ _ hrel
theorem cvT_get {σ:List (Nat × Nat)} {T1:Tm}:∀ {live:Tm},cvT σ T1 live → ∀ t,(∃ v',tget live t = tagTo σ (tget T1 t) v') ∨ tget live t = .tuple ⟨[]⟩
 | [],_,t => .inr rfl
 | (d,v) :: r,h,t => by
  simp only [tget]
  cases e:Nat.beq t d
  ·simpa using cvT_get h.2 t
  ·rw [beq_tt e];exact .inl ⟨v,by simpa using h.1.symm⟩
theorem cvH_get {σ:List (Nat × Nat)} {mv:Nat} {H1:HF}:∀ {H':Heap},cvH σ mv H1 H' → ∀ j B,lk H' j = some B → (∃ i A,look (swap σ) j = some i ∧ H1 i = some A ∧ B = cvB σ A B) ∨ (look (swap σ) j = none ∧ B.size = 0 ∧ mv ≤ j)
 | [],_,j,B,h => by simp [lk] at h
 | (k,C) :: r,hh,j,B,h => by
  simp only [lk] at h
  cases e:Nat.beq j k <;> rw [e] at h
  ·exact cvH_get hh.2 j B (by simpa using h)
  ·simp at h;subst h
   rw [beq_tt e]
   have h1:=hh.1
   unfold cvH1 at h1
   split at h1
   ·rename_i i hi
    cases hA:H1 i with
    | none => simp [hA] at h1
    | some A => simp [hA] at h1;exact .inl ⟨i,A,hi,hA,h1.symm⟩
   ·rename_i hi
    cases hc:(Nat.beq C.size 0 && Nat.ble mv k) <;> rw [hc] at h1
    ·simp at h1
    ·simp only [Bool.and_eq_true] at hc
     exact .inr ⟨hi,beq_tt hc.1,ble_tt hc.2⟩
theorem look_in {σ:List (Nat × Nat)}:∀ {i j:Nat},look σ i = some j → (i,j) ∈ σ:=by
 induction σ with
 | nil => intro i j h;simp [look] at h
 | cons x r ih =>
  intro i j h
  obtain ⟨a,b⟩:=x
  simp only [look] at h
  cases e:Nat.beq i a <;> rw [e] at h
  ·exact List.mem_cons_of_mem _ (ih (by simpa using h))
  ·simp at h;subst h;rw [beq_tt e];exact List.mem_cons_self
theorem swap_in {σ:List (Nat × Nat)} {i j:Nat} (h:look (swap σ) j = some i):(i,j) ∈ σ:=by
 have:=look_in h
 simp only [swap,List.mem_map] at this
 obtain ⟨⟨a,b⟩,hm,e⟩:=this
 simp only [Prod.mk.injEq] at e
 obtain ⟨rfl,rfl⟩:=e
 exact hm
theorem renOk_spec {σ:List (Nat × Nat)} {mv n':Nat} (h:renOk σ mv n' = true):mv ≤ n' ∧ ∀ i j,(i,j) ∈ σ → look (swap σ) j = some i ∧ look σ i = some j ∧ j < n' ∧ (mv ≤ j ∨ i = j):=by
 simp only [renOk,Bool.and_eq_true,List.all_eq_true] at h
 refine ⟨ble_tt h.1,fun i j hm => ?_⟩
 obtain ⟨⟨⟨h1,h2⟩,h3⟩,h4⟩:=h.2 (i,j) hm
 refine ⟨?_,?_,blt_tt h3,?_⟩
 ·revert h1
  cases e:look (swap σ) j with
  | none => simp
  | some k => intro h1;exact congrArg some (Nat.eq_of_beq_eq_true h1)
 ·revert h2
  cases e:look σ i with
  | none => simp
  | some k => intro h2;exact congrArg some (Nat.eq_of_beq_eq_true h2)
 ·simp only [Bool.or_eq_true] at h4
  exact h4.imp ble_tt beq_tt
theorem cv_world {σ:List (Nat × Nat)} {mv n':Nat} {μ1:Mu} {h1:HF} {w1:World} {H':Heap} (hok:renOk σ mv n' = true) (hr1:Rep μ1 h1 w1) (hH:cvH σ mv h1 H') :
  ∃ μ2:Mu,(∀ i,i < mv → μ2 i = μ1 i) ∧ (∀ i,n' ≤ i → μ2 i = none) ∧ Renames σ μ1 μ2 ∧ Rep μ2 (lk H') w1 ∧ ∀ (μ:Mu) (h:HF) (w:World),Keeps μ h w μ1 h1 w1 → Keeps μ h w μ2 (lk H') w1:=by
 obtain ⟨hn',hσ⟩:=renOk_spec hok
 let μ2:Mu:=⟨fun j => if j < mv then μ1 j else (match look (swap σ) j with | some i => μ1 i | none => none),μ1.sz,μ1.fz⟩
 have hlow:∀ j,j < mv → μ2 j = μ1 j:=fun j hj => by simp only [μ2,if_pos hj]
 have heq:∀ i j,(i,j) ∈ σ → μ2 j = μ1 i:=by
  intro i j hm
  obtain ⟨h1,h2,h3,h4⟩:=hσ i j hm
  rcases Nat.lt_or_ge j mv with hj | hj
  ·rcases h4 with h4 | h4
   ·omega
   ·subst h4;exact hlow i hj
  ·simp only [μ2,if_neg (show ¬ j < mv by omega),h1]
 have hren:Renames σ μ1 μ2:=⟨fun i j b hl hb => by rw [heq i j (look_in hl)];exact hb,fun _ _ _ => rfl,fun _ _ h => h⟩
 have hback:∀ j b,μ2 j = some b → ∃ i,μ1 i = some b:=by
  intro j b hb
  simp only [μ2] at hb
  split at hb
  ·exact ⟨j,hb⟩
  ·split at hb
   ·exact ⟨_,hb⟩
   ·cases hb
 have hget:∀ j B,lk H' j = some B → (∃ i A,h1 i = some A ∧ B = cvB σ A B ∧ look σ i = some j ∧ μ2 j = μ1 i) ∨ (μ2 j = none ∧ B.size = 0):=by
  intro j B hB
  rcases cvH_get hH j B hB with ⟨i,A,hl,hA,hB⟩ | ⟨hl,hz,hj⟩
  ·obtain ⟨_,h2,_,_⟩:=hσ i j (swap_in hl)
   exact .inl ⟨i,A,hA,hB,h2,heq i j (swap_in hl)⟩
  ·exact .inr ⟨by simp only [μ2,if_neg (show ¬ j < mv by omega),hl],hz⟩
 have hro:∀ {A B:Blk},B = cvB σ A B → B.ro = A.ro:=fun e => by rw [e];rfl
 have hsz:∀ {A B:Blk},B = cvB σ A B → B.size = A.size:=fun e => by rw [e];exact cvSegs_size _ _ _
 refine ⟨μ2,hlow,?_,hren,?_,?_⟩
 ·intro i hi
  simp only [μ2,if_neg (show ¬ i < mv by omega)]
  split
  ·rename_i k hk
   have:=(hσ k i (swap_in hk)).2.2.1
   omega
  ·rfl
 ·refine ⟨?_,?_,?_,?_,hr1.frz,?_⟩
  ·intro j B hB hne
   rcases hget j B hB with ⟨i,A,hA,eB,hl,hm⟩ | ⟨hm,hz⟩
   ·obtain ⟨b,hb,hrel⟩:=hr1.blk i A hA (by rw [hm,hsz eB] at hne;exact hne)
    exact ⟨b,by rw [hm];exact hb,by rw [eB];exact cvB_rel hren hrel⟩
   ·rcases hne with h | h
    ·exact absurd hz h
    ·exact absurd hm h
  ·intro j k A B b hA hB hj hk hne
   rcases hget j A hA with ⟨i1,A1,hA1,e1,hl1,hm1⟩ | ⟨hm1,_⟩
   ·rcases hget k B hB with ⟨i2,A2,hA2,e2,hl2,hm2⟩ | ⟨hm2,_⟩
    ·rw [hm1] at hj;rw [hm2] at hk
     rw [hro e1,hro e2]
     exact hr1.apart i1 i2 A1 A2 b hA1 hA2 hj hk (by rintro rfl;rw [hl1] at hl2;exact hne (by simpa using hl2))
    ·rw [hm2] at hk;cases hk
   ·rw [hm1] at hj;cases hj
  ·intro j b hb
   obtain ⟨i,hi⟩:=hback j b hb
   exact hr1.bound i b hi
  ·intro j B b hB hro' hb
   rcases hget j B hB with ⟨i,A,hA,e,hl,hm⟩ | ⟨hm,_⟩
   ·rw [hm] at hb;rw [hro e] at hro'
    exact hr1.size i A b hA hro' hb
   ·rw [hm] at hb;cases hb
  ·intro j B b hB hro' hb
   rcases hget j B hB with ⟨i,A,hA,e,hl,hm⟩ | ⟨hm,_⟩
   ·rw [hm] at hb;rw [hro e] at hro'
    exact hr1.nofz i A b hA hro' hb
   ·rw [hm] at hb;cases hb
 ·intro μ h w hk1
  refine { hk1 with old:=fun j B b hB hm hb => ?_ }
  rcases hget j B hB with ⟨i,A,hA,e,hl,hm1⟩ | ⟨hm1,_⟩
  ·rw [hm1] at hm;rw [hro e]
   exact hk1.old i A b hA hm hb
  ·rw [hm1] at hm;cases hm
theorem RunsM.ren {P:Program} {N:Nat} {c:Code} {mv:Nat} {T T1 live:Tm} {H H1 H':Heap} {n n1 n':Nat} {e:Ex} {σ:List (Nat × Nat)} (a:RunsM P N c mv T H n e T1 H1 n1) (hok:renOk σ mv n' = true) (hT:cvT σ T1 live) (hH:cvH σ mv (lk H1) H') :
  RunsM P N c mv T H n e live H' n':=by
 refine ⟨a.1,(renOk_spec hok).1,fun μ ac w hg hmv ht hr hd hf Q hQ => ?_⟩
 refine a.2.2 μ ac w hg hmv ht hr hd hf Q ?_
 intro μ1 a1 w1 hsame hf1 ht1 hr1 hd1 hk1
 obtain ⟨μ2,h1,h2,hren,hr2,hk2⟩:=cv_world hok hr1 hH
 refine hQ μ2 a1 w1 (fun i hi => by rw [h1 i hi,hsame i hi]) h2 ⟨ht1.1,fun t => ?_⟩ hr2 hd1 (hk2 _ _ _ hk1)
 rcases cvT_get hT t with ⟨v',h⟩ | h <;> rw [h]
 ·exact tagTo_rel hren _ _ _ (ht1.2 t)
 ·exact .junk _
theorem RunsM.pre {P:Program} {N:Nat} {c:Code} {T T0 T1:Tm} {H H0 H1:Heap} {n n0 n1:Nat} {e:Ex} {σ:List (Nat × Nat)} (hG:P.globals.size ≤ 1000) (a:RunsM P N c n T0 H0 n0 e T1 H1 n1) (hok:renOk σ n n0 = true) (hT:cvT σ T T0) (hH:cvH σ n (lk H) H0) :
  RunsM P N c n T H n e T1 H1 n1:=by
 refine ⟨Nat.le_refl _,a.2.1,fun μ ac w hg hmv ht hr hd hf Q hQ => ?_⟩
 obtain ⟨μ2,h1,h2,hren,hr2,hk2⟩:=cv_world hok hr hH
 refine a.2.2 μ2 ac w (hg.below hG hmv h1) hmv ⟨ht.1,fun t => ?_⟩ hr2 hd h2 Q ?_
 ·rcases cvT_get hT t with ⟨v',h⟩ | h <;> rw [h]
  ·exact tagTo_rel hren _ _ _ (ht.2 t)
  ·exact .junk _
 ·intro μ' a' w' hs hf' ht' hr' hd' hk'
  exact hQ μ' a' w' (fun i hi => by rw [hs i hi,h1 i hi]) hf' ht' hr' hd' ((hk2 _ _ _ (Keeps.refl _ _ _)).trans hk')
theorem block_loopM {P:Program} (hG:P.globals.size ≤ 1000) {N id n mv:Nat} {body:Code} {S R:Type} (rel:S → S ⊕ R → Prop) (T0:S → Tm) (H0:S → Heap) (ex:R → Ex) (T1:R → Tm) (H1:R → Heap) (hex:∀ s r,rel s (.inr r) → ex r ≠ .normal)
  (hgo:∀ s s',rel s (.inl s') → RunsM P N body mv (T0 s) (H0 s) n .normal (T0 s') (H0 s') n) (hout:∀ s r,rel s (.inr r) → RunsM P N body mv (T0 s) (H0 s) n (ex r) (T1 r) (H1 r) n)
  (s:S) (r:R) (h:LoopR rel s r):RunsM P N (.block id (.loop body)) mv (T0 s) (H0 s) n (outOf id (ex r)) (T1 r) (H1 r) n:=by
 have key:∃ k,LRunsM P N body mv k (T0 s) (H0 s) n (ex r) (T1 r) (H1 r) n:=by
  induction h with
  | last h => exact ⟨1,LRunsM.last (hex _ _ h) (hout _ _ h) 0⟩
  | more h _ ih =>
   obtain ⟨k,hk⟩:=ih
   exact ⟨k + 1,LRunsM.more hG (hgo _ _ h) hk⟩
 obtain ⟨k,hk⟩:=key
 exact RunsM.block (id:=id) hk.loop
theorem FnSpec.ren {P:Program} {g:FuncId} {n0 n':Nat} {A:List Value} {H H1 H':Heap} {v:Value} {σ:List (Nat × Nat)} (f:FnSpec P g n0 A H v H1) (v2:Value) (hok:renOk σ n0 n' = true) (hv2:tagTo σ v v2 = v2) (hH:cvH σ n0 (lk H1) H'):FnSpec P g n0 A H v2 H':=by
 refine ⟨f.enters,fun μ w rargs hg hn ha hr => (f.runs μ w rargs hg hn ha hr).mono ?_⟩
 rintro e w' ⟨μ1,rv,⟨hle,hsm⟩,hrep,hv,he,hk⟩
 obtain ⟨μ2,h1,_,hren,hr2,hk2⟩:=cv_world hok hrep hH
 refine ⟨μ2,rv,⟨⟨?_,?_,(hk2 _ _ _ hk).kfz⟩,fun i hi => by rw [h1 i hi,hsm i hi]⟩,hr2,?_,he,hk2 _ _ _ hk⟩
 ·intro i b hi
  have hlt:i < n0:=by
   rcases Nat.lt_or_ge i n0 with h | h
   ·exact h
   ·rw [hn i h] at hi;cases hi
  rw [h1 i hlt];exact hle i b hi
 ·intro i b hi
  exact (hk2 _ _ _ hk).ksz b (hr.bound i b hi)
 ·rw [← hv2];exact tagTo_rel hren _ _ _ hv
theorem FnSpec.pre {P:Program} {g:FuncId} {n0 n:Nat} {A A0:List Value} {H H0 H1:Heap} {v:Value} (f:FnSpec P g n0 A0 H0 v H1) (σ:List (Nat × Nat)) (hG:P.globals.size ≤ 1000) (hn0:n ≤ n0) (hn:1000 ≤ n) (hok:renOk σ n n0 = true) (hA:A0 = List.zipWith (tagTo σ) A A0) (hl:A.length = A0.length) (hH:cvH σ n (lk H) H0):FnSpec P g n A H v H1:=by
 refine ⟨f.enters,fun μ w rargs hg hfr ha hr => ?_⟩
 obtain ⟨μ2,h1,h2,hren,hr2,hk2⟩:=cv_world hok hr hH
 have key:∀ (A A0 rs:List Value),A.length = A0.length → VRels μ A rs → VRels μ2 (List.zipWith (tagTo σ) A A0) rs:=by
  intro A
  induction A with
  | nil => intro A0 rs hl h;cases h;simpa using VRels.nil
  | cons x A ih =>
   intro A0 rs hl h
   cases A0 with
   | nil => simp at hl
   | cons y A0 =>
    cases h with
    | cons a b => exact .cons (tagTo_rel hren _ _ _ a) (ih A0 _ (by simpa using hl) b)
 refine (f.runs μ2 w rargs (fun i hi => by rw [h1 i (by omega)];exact hg i hi) h2 (by rw [hA];exact key A A0 rargs hl ha) hr2).mono ?_
 rintro e w' ⟨μ1,rv,⟨hle,hsm⟩,hrep,hv,he,hk⟩
 have hkk:=(hk2 _ _ _ (Keeps.refl μ (lk H) w)).trans hk
 refine ⟨μ1,rv,⟨⟨?_,fun i b hi => hkk.ksz b (hr.bound i b hi),hkk.kfz⟩,fun i hi => by rw [hsm i (by omega),h1 i hi]⟩,hrep,hv,he,hkk⟩
 intro i b hi
 have hlt:i < n:=by
  rcases Nat.lt_or_ge i n with h | h
  ·exact h
  ·rw [hfr i h] at hi;cases hi
 rw [hsm i (by omega),h1 i hlt];exact hi
def xrunM (P:Program) (N:Nat) (c:Code) (fuel mv:Nat) (T:Tm) (H:Heap) (n:Nat) (hs:List Hint) (σ:List (Nat × Nat)) (e:Ex) (live:Tm) (H':Heap) (n':Nat):Prop:=
 match xcode P N fuel c { T,H,n,hs,ob:=[] } with
 | some (e',s) => allP s.ob ∧ (e' = e ∧ (cvT σ s.T live ∧ (cvH σ mv (lk s.H) H' ∧ (renOk σ mv n' && Nat.ble mv n) = true)))
 | none => False
theorem runsM_of_x {P:Program} (hG:P.globals.size ≤ 1000) (hM:P.follows .mixedOrders = true) {N:Nat} {c:Code} (fuel mv:Nat) (hs:List Hint) (σ:List (Nat × Nat)) {T:Tm} {H:Heap} {n:Nat} {e:Ex} {live:Tm} {H':Heap} {n':Nat} {O:Prop} (o:O)
  (h:(O ∧ (e = e ∧ (tmT live ∧ (subT H' ∧ true = true)))) = xrunM P N c fuel mv T H n hs σ e live H' n'):RunsM P N c mv T H n e live H' n':=by
 have h2:xrunM P N c fuel mv T H n hs σ e live H' n':=h ▸ ⟨o,rfl,tmT_all live,subT_all H',rfl⟩
 unfold xrunM at h2
 split at h2
 ·rename_i e' s hx
  obtain ⟨ho,rfl,ht,hh,hf⟩:=h2
  simp only [Bool.and_eq_true] at hf
  exact (((xcode_ok hG hM fuel c _ s e' hx).2 (allP_spec ho)).1.toM (ble_tt hf.2)).ren hf.1 ht hh
 ·exact h2.elim
def preP (σ:List (Nat × Nat)) (mv n0:Nat) (T:Tm) (H:Heap) (T0:Tm) (H0:Heap):Prop:=cvT σ T T0 ∧ (cvH σ mv (lk H) H0 ∧ (renOk σ mv n0 && Nat.ble 1000 mv) = true)
theorem runs_of_pre {P:Program} (hG:P.globals.size ≤ 1000) {N:Nat} {c:Code} {T0 T1:Tm} {H0 H1:Heap} {n n0 n1:Nat} {e:Ex} (a:RunsM P N c n T0 H0 n0 e T1 H1 n1) (σ:List (Nat × Nat)) {T:Tm} {H:Heap}
  (h:(tmT T0 ∧ (subT H0 ∧ true = true)) = preP σ n n0 T H T0 H0):Runs P N c T H n e T1 H1 n1:=by
 have h2:preP σ n n0 T H T0 H0:=h ▸ ⟨tmT_all T0,subT_all H0,rfl⟩
 obtain ⟨hT,hH,hf⟩:=h2
 simp only [Bool.and_eq_true] at hf
 exact (a.pre hG hf.1 hT hH).toRuns (ble_tt hf.2)
end Go.Proofs.Ytgnhhnmpeklciaa.VX
namespace Go.Proofs.Ytgnhhnmpeklciaa.VX
open Go
def rowsL {α:Type} (cells:α → List Value) (d:α) (z:Nat) (L:List α):Seg:=.rows L.length z fun j => cells (L.getD j d)
theorem getD_snoc {α:Type} (d x:α):∀ (L:List α) (j:Nat),(L ++ [x]).getD j d = bif Nat.beq j L.length then x else L.getD j d
 | [],0 => rfl
 | [],j + 1 => by
  show d = bif Nat.beq (j + 1) 0 then x else d
  rfl
 | a :: L,0 => rfl
 | a :: L,j + 1 => by
  have:=getD_snoc d x L j
  show (L ++ [x]).getD j d = bif Nat.beq j L.length then x else L.getD j d
  exact this
theorem len_snoc {α:Type} (L:List α) (x:α):L.length + 1 = (L ++ [x]).length:=by simp
theorem beqSelf (n:Nat):Nat.beq n n = true:=Nat.beq_refl n
theorem rowsL_snoc {α:Type} {cells:α → List Value} {d:α} {z:Nat} (L:List α) (x:α) (h:(cells x).length = z):addSegs [rowsL cells d z L] (cells x) = [rowsL cells d z (L ++ [x])]:=by
 unfold rowsL
 simp only [addSegs,h,beqSelf,cond_true,List.length_append,List.length_cons,List.length_nil,Nat.zero_add,List.cons.injEq,Seg.rows.injEq,and_true,true_and]
 funext j
 simp only [upd,getD_snoc]
 cases Nat.beq j L.length <;> rfl
theorem sl_snoc {α:Type} (n z:Nat) (L:List α) (x:α):Value.slice (some ⟨n,0,some 0⟩) (L.length + 1) z = .slice (some ⟨n,0,some 0⟩) (L ++ [x]).length z:=by rw [len_snoc]
theorem rows_size {α:Type} (cells:α → List Value) (d:α) (z t:Nat) (ro:Bool) (L:List α):(⟨[rowsL cells d z L],t,ro⟩:Blk).size = L.length * z:=by
 simp [Blk.size,segsSize,Seg.size,rowsL]
def renP (σ:List (Nat × Nat)) (n0 n':Nat) (v v2:Value) (H1 H':Heap):Prop:=tagTo σ v v2 = v2 ∧ (cvH σ n0 (lk H1) H' ∧ renOk σ n0 n' = true)
theorem fn_ren {P:Program} {g:FuncId} {n0:Nat} {A:List Value} {H H1 H':Heap} {v v2:Value} (f:FnSpec P g n0 A H v H1) (σ:List (Nat × Nat)) (n':Nat) (h:(v2 = v2 ∧ (subT H' ∧ true = true)) = renP σ n0 n' v v2 H1 H'):FnSpec P g n0 A H v2 H':=by
 have h2:renP σ n0 n' v v2 H1 H':=h ▸ ⟨rfl,subT_all H',rfl⟩
 exact f.ren v2 h2.2.2 h2.1 h2.2.1
def nilP (σ:List (Nat × Nat)) (n n0:Nat) (A A0:List Value) (H H0:Heap):Prop:=List.zipWith (tagTo σ) A A0 = A0 ∧ (A.length = A0.length ∧ (cvH σ n (lk H) H0 ∧ (renOk σ n n0 && (Nat.ble n n0 && Nat.ble 1000 n)) = true))
theorem fn_nil {P:Program} (hG:P.globals.size ≤ 1000) {g:FuncId} {n0:Nat} {A0:List Value} {H0 H1:Heap} {v:Value} (f:FnSpec P g n0 A0 H0 v H1) (σ:List (Nat × Nat)) (n:Nat) (A:List Value) (H:Heap)
  (h:(A0 = A0 ∧ (A.length = A.length ∧ (subT H0 ∧ true = true))) = nilP σ n n0 A A0 H H0):FnSpec P g n A H v H1:=by
 have h2:nilP σ n n0 A A0 H H0:=h ▸ ⟨rfl,rfl,subT_all H0,rfl⟩
 obtain ⟨h3,h4,h5,h6⟩:=h2
 simp only [Bool.and_eq_true] at h6
 exact f.pre σ hG (ble_tt h6.2.1) (ble_tt h6.2.2) h6.1 h3.symm h4 h5
end Go.Proofs.Ytgnhhnmpeklciaa.VX
namespace Go.Proofs.Ytgnhhnmpeklciaa.VX
open Go Go.RowKit Go.WideShapes Go.ChangeShapes Go.WideElems
section
variable {H:Type} {enc:TypeId × Value → H} {P:Program}
theorem post_of_below {f:Func} {s:ChangeSpec} {apart fresh handsOn again:Bool} {W W':World} {args:Array Value} {v:Value} {ds gs:List (DataW H)} {before pa pv:List MemPlace}
  (hW:DataW.Whole enc P f.params.toList s.vars apart W args.toList ds gs before)
  (hres:∀ (b:Nat) (sp:Nat → Bool) (hd:Bool),DataW.TrodAll enc P W' b sp hd f.resultTypes.toList (v.resultList f.resultTypes.size) (s.fn H (ds ++ gs)).results [])
  (hargs:∀ sp:Nat → Bool,(∀ p ∈ before,sp p.block = true) → DataW.TrodAll enc P W' 0 sp true f.params.toList args.toList (s.fn H (ds ++ gs)).args pa)
  (hvars:∀ sp:Nat → Bool,(∀ p ∈ before,sp p.block = true) → DataW.TrodVars enc P W' sp s.vars (s.fn H (ds ++ gs)).vars pv)
  (hps:before = pa ++ pv) (hb:Below W.heap.size W W')
  (hok:∀ (j:Nat) (t:TypeId) (r:Value),f.resultTypes[j]? = some t → (v.resultList f.resultTypes.size)[j]? = some r → Value.okWide P W' .any 0 t r) :
  s.post enc P f apart fresh handsOn again W args v W':=by
 have hlt:∀ p ∈ before,p.block < W.heap.size:=fun p hp => hW.lt p hp
 have hold:∀ p ∈ before,(fun b => decide (b < W.heap.size)) p.block = true:=fun p hp => by simpa using hlt p hp
 refine ⟨ds,gs,before,[],pa,pv,hW,hres _ _ _,hargs _ hold,hvars _ hold,World.keptBut_mono (fun p hp => ⟨hp,?_⟩) (hb.frame (· ∈ before)),fun _ => ?_⟩
 ·rw [hps,List.mem_append] at hp
  exact Or.inr hp
 ·obtain ⟨_,_,_,_,_,hz,hn⟩:=hW
  refine ⟨hok,_,_,([] ++ pa) ++ pv,⟨[] ++ pa,pv,trodAll_append (hargs _ (fun _ _ => rfl)) (hres _ _ _),hvars _ (fun _ _ => rfl),rfl,?_,?_⟩,?_⟩
  ·intro b off hp
   have hin:MemPlace.cell b off ∈ before:=by rw [hps];simpa using hp
   rw [hb.frozen (hlt _ hin)]
   exact hz b off hin
  ·intro ha
   have:=hn ha
   rw [hps] at this
   simpa using this
  ·intro p hp _
   rw [hps]
   simpa using hp
theorem trodAll_stays (hl:laidOutB P = true) {W W':World} {sp':Nat → Bool}:∀ {ts:List TypeId} {vs:List Value} {ds:List (DataW H)} {ps:List MemPlace},
  ts.all (fun t => P.readableRec t && decide (t < P.types.size)) = true → DataW.TrodAll enc P W 0 (fun _ => true) true ts vs ds ps → (∀ p ∈ ps,W.sameAt W' p) → (∀ p ∈ ps,sp' p.block = true) →
  DataW.TrodAll enc P W' 0 sp' true ts vs ds ps
 | [],[],[],_,_,h,_,_ => h
 | t :: ts,v :: vs,d :: ds,_,ht,⟨p,q,h1,h2,rfl⟩,hsame,hs => by
  simp only [List.all_cons,Bool.and_eq_true,decide_eq_true_eq] at ht
  exact ⟨p,q,Trod_stays hl ht.1.1 ht.1.2 h1 (fun x hx => hsame x (List.mem_append_left _ hx)) (fun x hx => hs x (List.mem_append_left _ hx)),
   trodAll_stays hl (by simpa using ht.2) h2 (fun x hx => hsame x (List.mem_append_right _ hx)) (fun x hx => hs x (List.mem_append_right _ hx)),rfl⟩
 | [],[],_ :: _,_,_,h,_,_ => h.elim
 | [],_ :: _,_,_,_,h,_,_ => h.elim
 | _ :: _,[],_,_,_,h,_,_ => h.elim
 | _ :: _,_ :: _,[],_,_,h,_,_ => h.elim
theorem trodAll_length {W:World} {b:Nat} {sp:Nat → Bool} {hd:Bool}:∀ {ts:List TypeId} {vs:List Value} {ds:List (DataW H)} {ps:List MemPlace},DataW.TrodAll enc P W b sp hd ts vs ds ps → ds.length = ts.length
 | [],[],[],_,_ => rfl
 | t :: ts,v :: vs,d :: ds,_,⟨p,q,h1,h2,rfl⟩ => by simp [trodAll_length h2]
 | [],[],_ :: _,_,h => h.elim
 | [],_ :: _,_,_,h => h.elim
 | _ :: _,[],_,_,h => h.elim
 | _ :: _,_ :: _,[],_,h => h.elim
theorem globals_there {W:World} (hW:W.ShapedOpen P) (hlow:decide (P.globals.size < (begin P (fun _ _ => 0) default).world.heap.size) = true):P.globals.size ≤ W.heap.size:=by
 obtain ⟨o,_,h,_⟩:=hW.2 P.globals.size (Nat.le_refl _) (of_decide_eq_true hlow)
 have:=(Array.getElem?_eq_some_iff.1 h).1
 omega
theorem row_of {C:Checked} {os:Os} {f:FuncId} {fn:Func} {s:ChangeSpec} {conds:List PathCond} {apart fresh handsOn again:Bool} {tb:TypeId} {n:Nat}
  (own:ownKnob C.prog.godebug = none) (started:os.Started) (noInit:C.prog.inits.idxOf? f = none) (hfn:C.prog.funcs[f]? = some fn)
  (hvars:s.vars = []) (hrt:fn.resultTypes = #[tb]) (hb:C.prog.underlying tb = some .bool) (hl:laidOutB C.prog = true)
  (hp:fn.params.toList.all (fun t => C.prog.readableRec t && decide (t < C.prog.types.size)) = true) (hn:fn.params.toList.length = n)
  (hs:∀ ds:List (DataW H),ds.length = n → s.fn H ds = { results:=[.lit (.bool true)],args:=ds })
  (hlow:decide (C.prog.globals.size < (begin C.prog (fun _ _ => 0) default).world.heap.size) = true)
  (witness:∃ (w:World) (tape:Tape) (i:Input),w.os = os ∧ (w.forCall tape i).Shaped C.prog ∧ i.vars = [] ∧ Input.okWide C.prog (w.forCall tape i) .any w.heap.size f i ∧
   s.pre6 enc C.prog fn conds apart (w.forCall tape i).memory i.args ∧ ({}:Assume).holds C.prog (lone (Frame.enter C.prog f i.args .normal) [] (w.forCall tape i)))
  (walk:∀ (W:World) (base:Nat) (args:Array Value) (ds:List (DataW H)) (ps:List MemPlace),
   (∀ (j:Nat) t v,fn.params[j]? = some t → args[j]? = some v → Value.okWide C.prog W .any base t v) →
   DataW.TrodAll enc C.prog W 0 (fun _ => true) true fn.params.toList args.toList ds ps →
   conds.all (PathCond.test C.prog ⟨fn.params.toList,ds,s.plain.varTypes C.prog,[]⟩) = true →
   C.prog.globals.size ≤ W.heap.size → W.ShapedOpen C.prog →
   Calls C.prog f args W fun e W' => e = .returned (.bool true) ∧ Below W.heap.size W W') :
  ReturnsInHanded {} C os f .any (s.pre6 enc C.prog fn conds apart) (s.post enc C.prog fn apart fresh handsOn again):=by
 refine returnsInHanded_of_change_shaped own started noInit hfn witness ?_
 intro W base args ds gs before hval hW hcnd _ hsh _
 have hW':=hW
 obtain ⟨p,q,hA,hV,rfl,_,_⟩:=hW
 rw [hvars] at hV
 have hgs:gs = [] ∧ q = []:=by
  cases gs with
  | nil => exact ⟨rfl,hV⟩
  | cons _ _ => exact hV.elim
 obtain ⟨rfl,rfl⟩:=hgs
 have hlt:∀ x ∈ p,x.block < W.heap.size:=fun x hx => hW'.lt x (List.mem_append_left _ hx)
 refine (walk W base args ds p hval hA hcnd (globals_there hsh hlow) hsh).mono fun e W' ⟨he,hbw⟩ => ?_
 subst he
 have hsd:s.fn H (ds ++ []) = { results:=[.lit (.bool true)],args:=ds }:=by
  rw [List.append_nil];exact hs ds (by rw [← hn];exact trodAll_length hA)
 refine ⟨_,rfl,post_of_below (pa:=p) (pv:=[]) hW' ?_ ?_ ?_ rfl hbw ?_⟩
 ·intro b sp hd
  rw [hsd,hrt]
  exact ⟨[],[],shut_bool hb true,rfl,rfl⟩
 ·intro sp hsp
  rw [hsd]
  exact trodAll_stays hl hp hA (fun x hx => hbw.same (hlt x hx)) (fun x hx => hsp x (List.mem_append_left _ hx))
 ·intro sp hsp
  rw [hvars,hsd]
  rfl
 ·intro j t r hj hr
  rw [hrt] at hj hr
  match j,hj,hr with
  | 0,hj,hr =>
   simp [Value.resultList] at hj hr
   subst hj;subst hr
   simp [Value.okWide,hb,Cell.okWide,Cell.ok]
  | j + 1,hj,hr => simp at hj
end
end Go.Proofs.Ytgnhhnmpeklciaa.VX
