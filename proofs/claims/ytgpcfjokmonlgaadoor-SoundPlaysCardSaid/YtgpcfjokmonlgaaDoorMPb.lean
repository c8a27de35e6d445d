/-
  Texts laid together: VQ, VH, VI, VJ, VK, VL, VS, VM, VR, VP, VN, VO, VT. No condition.
-/
import Derived.ChangeSame
import Derived.Deep.AppendSrc
import Derived.Handed
import Derived.HandedShaped
import Derived.IntWalk
import Derived.LaidLaws
import Derived.LaidMore
import Derived.LaidSub
import Derived.Lay
import Derived.Lib.SmallJoins
import Derived.LoopN
import Derived.OpenShut
import Derived.ProofKit
import Derived.Stop.Joined
import Derived.WideKeyArgs
import Derived.Test.YtgpcfjokmonlgaaDoorMPa
namespace Go.Proofs.YtgpcfjokmonlgaaDoor.VX
open Go
set_option linter.unusedSimpArgs false
set_option linter.unusedVariables false
theorem OpSpec.quiet {P : Program} {o : Oper} {ρ : Operand → Value} {h : HF} {out : Out} (he : out.eff = []) (hn : out.new = [])
    (hv : ∀ (μ : Mu) (a : Act) (w : World), Gl P μ → (∀ x ∈ o.op.operands, VRel μ (ρ x) (a.eval x)) → Rep μ h w → ∃ rv, (execOp a.eval o).run P w = .ok (.value rv) w ∧ VRel μ out.v rv) :
    OpSpec P o ρ h out := by
  intro μ a w hg hx hr hnn K Q hk
  obtain ⟨rv, hrun, hvr⟩ := hv μ a w hg hx hr
  rw [he, hn] at hk
  exact wp_of_value hrun (hk μ w rv (Mu.le_refl μ) (fun _ _ => rfl) hr hvr (Keeps.refl _ _ _))
theorem all_drop {l : List Value} (n : Nat) (h : l.all solid = true) : (l.drop n).all solid = true := by
  rw [List.all_eq_true] at h ⊢
  exact fun x hx => h x (List.mem_of_mem_drop hx)
theorem all_take {l : List Value} (n : Nat) (h : l.all solid = true) : (l.take n).all solid = true := by
  rw [List.all_eq_true] at h ⊢
  exact fun x hx => h x (List.mem_of_mem_take hx)
theorem VRel.fptr_inv {μ : Mu} {l : List Value} {r : Value} (h : VRel μ (.func (.method "") ⟨l⟩ ⟨[]⟩) r) : ∃ b off cs, r = .pointer (some ⟨b, off, none⟩) ∧ l.all solid = true ∧ μ.fz b = some cs ∧ ∀ j v, l[j]? = some v → cs[off + j]? = some v := by
  cases h with
  | fptr l hs hf k => exact ⟨_, _, _, rfl, hs, hf, k⟩
theorem VRel.lst_inv {μ : Mu} {z : Nat} {l : List Value} {f : Bool} {r : Value} (h : VRel μ (.func (.yield z) ⟨l⟩ ⟨[.bool f]⟩) r) (hf : f = true) : l.all solid = true ∧ Lst μ z l r := by
  cases h with
  | lst z l f hs hr k => exact ⟨hs, k hf⟩
theorem VRel.lst_true {μ : Mu} {z : Nat} {l : List Value} {r : Value} (hs : l.all solid = true) (k : Lst μ z l r) : VRel μ (.func (.yield z) ⟨l⟩ ⟨[.bool true]⟩) r := by
  refine .lst z l true hs ?_ fun _ => k
  rcases k with ⟨_, rfl⟩ | ⟨_, _, a, rfl⟩ | ⟨_, b, off, len, cap, cs, rfl, _⟩
  · exact ⟨_, _, _, rfl⟩
  · exact ⟨_, _, _, rfl⟩
  · exact ⟨_, _, _, rfl⟩
theorem xrow_ok {P : Program} {H h : HF} {t : TypeId} {j k : Nat} {p v : Value} {i : Nat} {ob : List Prop} (hx : xrow P H t j k p = some (v, i, ob)) (hob : ∀ q ∈ ob, q) (hH : h i = H i)
    {μ : Mu} {w : World} (r : Rep μ h w) {rp : Value} (hp : VRel μ p rp) : ∃ rv, (Instr.loadAt t rp).run P w = .ok rv w ∧ VRel μ v rv := by
  unfold xrow at hx
  split at hx
  · rename_i i' off s
    split at hx
    · rename_i B hB
      split at hx
      · rename_i n sz g hsg
        have hgp0 : ob = gapOb B.segs s ++ [off = j * sz + k, j < n] → ∀ q ∈ gapOb B.segs s, q := fun e q hq => hob q (by rw [e]; exact List.mem_append_left _ hq)
        have main : ∀ (hgp : ∀ q ∈ gapOb B.segs s, q) (hi : i = i') (hoff : off = j * sz + k) (hj : j < n) (m : Nat), k + m ≤ sz → (g j).length = sz → ∃ b o, rp = .pointer (some ⟨b, o, none⟩) ∧ ∃ rs, VRels μ (((g j).drop k).take m) rs ∧ rs.length = m ∧ ∀ q x, rs[q]? = some x → w.cell? ⟨b, o + q, none⟩ = some x := by
          intro hgp hi hoff hj m hm hlen
          subst hi
          rw [← hH] at hB
          obtain ⟨b, hb, cs, ty, fr, he, _, hcs⟩ := r.blk i B hB
          cases hp with
          | ptrS hb' _ _ =>
            rw [hb] at hb'
            obtain rfl : b = _ := by simpa using hb'
            refine ⟨b, s + off, rfl, ?_⟩
            have get : ∀ q v, q < m → ((g j).drop k)[q]? = some v → ∃ x, cs[s + off + q]? = some x ∧ VRel μ v x := by
              intro q v hq hv
              have hv' : (g j)[k + q]? = some v := by simpa using hv
              have hpos : 0 < sz := by omega
              have hget : (Seg.rows n sz g).get? (off + q) = some v := by
                have h1 : off + q < n * sz := by
                  have : (j + 1) * sz ≤ n * sz := Nat.mul_le_mul_right _ hj
                  rw [Nat.add_mul] at this; omega
                have h2 : (off + q) / sz = j := by
                  rw [hoff, Nat.add_assoc, Nat.mul_comm, Nat.mul_add_div hpos, Nat.div_eq_of_lt (by omega), Nat.add_zero]
                have h3 : (off + q) % sz = k + q := by
                  rw [hoff, Nat.add_assoc, Nat.mul_comm, Nat.mul_add_mod, Nat.mod_eq_of_lt (by omega)]
                simp only [Seg.get?]
                rw [show Nat.blt (off + q) (n * sz) = true from Nat.ble_eq_true_of_le h1, h2, h3]
                exact hv'
              have := segAtG_get hsg hgp (off + q) v hget
              rw [← Nat.add_assoc] at this
              exact hcs _ v this
            have build : ∀ (l : List Value) (base : Nat), (∀ q v, l[q]? = some v → ∃ x, cs[base + q]? = some x ∧ VRel μ v x) → ∃ rs, VRels μ l rs ∧ rs.length = l.length ∧ ∀ q x, rs[q]? = some x → cs[base + q]? = some x := by
              intro l
              induction l with
              | nil => intro base _; exact ⟨[], .nil, rfl, by simp⟩
              | cons a l ih =>
                intro base hl
                obtain ⟨x, hx1, hx2⟩ := hl 0 a (by simp)
                obtain ⟨rs, h1, h2, h3⟩ := ih (base + 1) (fun q v hq => by
                  obtain ⟨y, hy1, hy2⟩ := hl (q + 1) v (by simpa using hq)
                  exact ⟨y, by rw [show base + 1 + q = base + (q + 1) by omega]; exact hy1, hy2⟩)
                refine ⟨x :: rs, .cons hx2 h1, by simp [h2], fun q y hq => ?_⟩
                cases q with
                | zero => simp at hq; subst hq; simpa using hx1
                | succ q => have := h3 q y (by simpa using hq); rw [show base + (q + 1) = base + 1 + q by omega]; exact this
            obtain ⟨rs, h1, h2, h3⟩ := build (((g j).drop k).take m) (s + off) (fun q v hq => by
              rw [List.getElem?_take] at hq
              split at hq
              · rename_i hlt; exact get q v hlt hq
              · cases hq)
            refine ⟨rs, h1, by rw [h2]; simp; omega, fun q x hq => cell_of he (h3 q x hq)⟩
        split at hx
        · rename_i m ha hs
          cases hc : (Nat.beq ((g j).drop k).length (sz - k) && Nat.ble (k + m) sz && Nat.beq (g j).length sz) <;> rw [hc] at hx
          · simp at hx
          · simp only [cond_true, Option.some.injEq, Prod.mk.injEq] at hx
            obtain ⟨rfl, rfl, rfl⟩ := hx
            simp only [Bool.and_eq_true] at hc
            obtain ⟨b, o, rfl, rs, h1, h2, h3⟩ := main (hgp0 rfl) rfl (hob _ (by simp)) (hob _ (by simp)) m (ble_tt hc.1.2) (beq_tt hc.2)
            exact ⟨.agg ⟨rs⟩, loadAt_run_agg ha hs h2 h3, .agg h1⟩
        · rename_i ha
          cases hc : Nat.blt k sz <;> rw [hc] at hx
          · simp at hx
          · simp only [cond_true] at hx
            cases hg : (g j)[k]? with
            | none => simp [hg] at hx
            | some u =>
              simp only [hg, Option.map_some, Option.some.injEq, Prod.mk.injEq] at hx
              obtain ⟨rfl, rfl, rfl⟩ := hx
              have hk := blt_tt hc
              rw [← hH] at hB
              have hoff : off = j * sz + k := hob _ (by simp)
              have hj : j < n := hob _ (by simp)
              have hgp := hgp0 rfl
              obtain ⟨b, hb, cs, ty, fr, he, _, hcs⟩ := r.blk i' B hB
              cases hp with
              | ptrS hb' _ _ =>
                rw [hb] at hb'
                obtain rfl : b = _ := by simpa using hb'
                have hpos : 0 < sz := by omega
                have hget : (Seg.rows n sz g).get? off = some u := by
                  have h1 : off < n * sz := by
                    have : (j + 1) * sz ≤ n * sz := Nat.mul_le_mul_right _ hj
                    rw [Nat.add_mul] at this; omega
                  have h2 : off / sz = j := by
                    rw [hoff, Nat.mul_comm, Nat.mul_add_div hpos, Nat.div_eq_of_lt hk, Nat.add_zero]
                  have h3 : off % sz = k := by
                    rw [hoff, Nat.mul_comm, Nat.mul_add_mod, Nat.mod_eq_of_lt hk]
                  simp only [Seg.get?]
                  rw [show Nat.blt off (n * sz) = true from Nat.ble_eq_true_of_le h1, h2, h3]
                  exact hg
                obtain ⟨rv, hr, hv⟩ := hcs (s + off) u (segAtG_get hsg hgp off u hget)
                exact ⟨rv, loadAt_run_one ha (cell_of he hr), hv⟩
        · simp at hx
      · simp at hx
    · simp at hx
  · simp at hx
theorem xloadE_ok {P : Program} {H h : HF} {n : Nat} {hs : List Hint} {t : TypeId} {v : Value} {out : Out} (hx : xloadE P H n hs t v = some out) (hob : ∀ q ∈ out.ob, q) (hrd : ∀ i ∈ out.rd, h i = H i) :
    out.eff = [] ∧ out.new = [] ∧ ∀ {μ : Mu} {w : World} {r : Value}, Rep μ h w → VRel μ v r → ∃ rv, (Instr.loadAt t r).run P w = .ok rv w ∧ VRel μ out.v rv := by
  unfold xloadE at hx
  split at hx
  · rename_i l
    split at hx
    · rename_i m ha hsz
      cases hc : Nat.ble m l.length <;> rw [hc] at hx
      · simp at hx
      · simp only [cond_true, Option.some.injEq] at hx; subst hx
        refine ⟨rfl, rfl, fun {μ w r} hr hv => ?_⟩
        obtain ⟨b, off, cs, rfl, hsol, hf, hg⟩ := hv.fptr_inv
        obtain ⟨ty, fr, he⟩ := hr.frz b cs hf
        refine ⟨.agg ⟨l.take m⟩, loadAt_run_agg ha hsz (by simp [ble_tt hc]) (fun j x hj => cell_of he (hg j x ?_)), .agg (.of_solids (all_take m hsol))⟩
        rw [List.getElem?_take] at hj
        split at hj
        · exact hj
        · cases hj
    · rename_i ha
      cases hl : l[0]? with
      | none => simp [hl] at hx
      | some u =>
        simp only [hl, Option.map_some, Option.some.injEq] at hx; subst hx
        refine ⟨rfl, rfl, fun {μ w r} hr hv => ?_⟩
        obtain ⟨b, off, cs, rfl, hsol, hf, hg⟩ := hv.fptr_inv
        obtain ⟨ty, fr, he⟩ := hr.frz b cs hf
        exact ⟨u, loadAt_run_one ha (cell_of he (by simpa using hg 0 u hl)), .of_solid (by rw [List.all_eq_true] at hsol; exact hsol u (List.mem_of_getElem? hl))⟩
    · simp at hx
  · rename_i j k hs'
    split at hx
    · rename_i u i ob hr
      simp only [Option.some.injEq] at hx; subst hx
      exact ⟨rfl, rfl, fun {μ w r} hrep hv => xrow_ok hr hob (hrd i (by simp)) hrep hv⟩
    · simp at hx
  · rename_i i off s m hs'
    split at hx
    · rename_i B hB
      split at hx
      · rename_i k a rr hg ha
        cases hns : intsOf k (.int k a :: rr) with
        | none => simp [hns] at hx
        | some ns =>
          simp only [hns, Option.map_some, Option.some.injEq] at hx; subst hx
          refine ⟨rfl, rfl, fun {μ w r} hrep hv => ?_⟩
          have hlt : off < m := hob _ (by simp)
          have hcs := intsOf_get hns
          rw [← hrd i (by simp)] at hB
          obtain ⟨b, hb, cs, ty, fr, he, _, hc⟩ := hrep.blk i B hB
          cases hv with
          | ptrS hb' _ _ =>
            rw [hb] at hb'
            obtain rfl : b = _ := by simpa using hb'
            obtain ⟨rs, h1, h2, h3⟩ := gets_spec hc _ _ _ hg
            rw [hcs] at h1 h2
            have hlen : off < ns.length := by rw [List.length_map] at h2; omega
            obtain ⟨y, hy, hyv⟩ := h1.get off (.int k (ns.getD off 0)) (by simp [hlen])
            exact ⟨y, loadAt_run_one ha (cell_of he (h3 off y hy)), hyv⟩
      · rename_i a rr hg ha
        cases hns : boolsOf (.bool a :: rr) with
        | none => simp [hns] at hx
        | some ns =>
          simp only [hns, Option.map_some, Option.some.injEq] at hx; subst hx
          refine ⟨rfl, rfl, fun {μ w r} hrep hv => ?_⟩
          have hlt : off < m := hob _ (by simp)
          have hcs := boolsOf_get hns
          rw [← hrd i (by simp)] at hB
          obtain ⟨b, hb, cs, ty, fr, he, _, hc⟩ := hrep.blk i B hB
          cases hv with
          | ptrS hb' _ _ =>
            rw [hb] at hb'
            obtain rfl : b = _ := by simpa using hb'
            obtain ⟨rs, h1, h2, h3⟩ := gets_spec hc _ _ _ hg
            rw [hcs] at h1 h2
            have hlen : off < ns.length := by rw [List.length_map] at h2; omega
            obtain ⟨y, hy, hyv⟩ := h1.get off (.bool (ns.getD off false)) (by simp [hlen])
            exact ⟨y, loadAt_run_one ha (cell_of he (h3 off y hy)), hyv⟩
      · simp at hx
    · simp at hx
  · simp at hx
theorem xfieldE_ok {P : Program} {n : Nat} {hs : List Hint} {s : TypeId} {f : Nat} {v : Value} {out : Out} (hx : xfieldE P n hs s f v = some out) :
    out.eff = [] ∧ out.new = [] ∧ ∀ {μ : Mu} {w : World} {r : Value}, VRel μ v r → ∃ rv, (Instr.fieldAt s r f).run P w = .ok rv w ∧ VRel μ out.v rv := by
  unfold xfieldE at hx
  split at hx
  · rename_i l fields hu
    split at hx
    · rename_i fd hfd
      split at hx
      · rename_i m hsz
        simp only [Option.some.injEq] at hx; subst hx
        refine ⟨rfl, rfl, fun {μ w r} hv => ?_⟩
        obtain ⟨b, off, cs, rfl, hsol, hf, hg⟩ := hv.fptr_inv
        refine ⟨.pointer (some ⟨b, off + fd.offset, none⟩), ?_, .fptr _ (all_drop _ hsol) hf fun j x hj => ?_⟩
        · simp only [Instr.fieldAt, Sem.run_bind, underlying_run hu, Result.andThen_ok, hfd, Instr.sureAddr, Sem.run_pure, fieldPlace_run hsz]
        · have := hg (fd.offset + j) x (by simpa using hj)
          rw [← Nat.add_assoc] at this; exact this
      · simp at hx
    · simp at hx
  · simp at hx
theorem xatE_ok {P : Program} {n : Nat} {hs : List Hint} {t : TypeId} {v ix : Value} {out : Out} (hx : xatE P n hs t v ix = some out) (hob : ∀ q ∈ out.ob, q) :
    out.eff = [] ∧ out.new = [] ∧ ∀ {μ : Mu} {w : World} {r rx : Value}, VRel μ v r → VRel μ ix rx → ∃ rv, (Instr.indexAt t r rx).run P w = .ok rv w ∧ VRel μ out.v rv := by
  unfold xatE at hx
  split at hx
  · rename_i k i e z l f hu
    split at hx
    · rename_i sz j hs' hsz
      cases hc : (Nat.beq z sz && Nat.ble 1 sz && Nat.ble ((j + 1) * z) l.length) <;> rw [hc] at hx
      · simp at hx
      · simp only [cond_true, Option.some.injEq] at hx; subst hx
        simp only [Bool.and_eq_true] at hc
        obtain ⟨⟨c1, c2⟩, c3⟩ := hc
        obtain rfl := beq_tt c1
        have c2 := ble_tt c2
        have c3 := ble_tt c3
        have h1 : f = true := hob _ (by simp [silent])
        have h2 : i = (j : Int) := hob _ (by simp [silent])
        subst h2
        refine ⟨rfl, rfl, fun {μ w r rx} hv hix => ?_⟩
        cases hix
        obtain ⟨hsol, hl⟩ := hv.lst_inv h1
        have hpos : z ≤ (j + 1) * z := by rw [Nat.add_mul]; omega
        rcases hl with ⟨rfl, _⟩ | ⟨h0, _⟩ | ⟨_, b, off, len, cap, cs, rfl, hcap, hlen, hf, hg⟩
        · simp at c3; omega
        · omega
        · have hj : j + 1 ≤ len := Nat.le_of_mul_le_mul_right (by rw [hlen]; exact c3) (by omega)
          refine ⟨_, indexAt_slice_run hu hsz ⟨by omega, by omega⟩ w, ?_⟩
          simp only [Int.toNat_natCast]
          refine .fptr _ (all_drop _ hsol) hf fun q x hq => ?_
          have := hg (j * z + q) x (by simpa using hq)
          rw [← Nat.add_assoc] at this; exact this
    · rename_i sz hs' hsz
      cases hc : (Nat.beq z 1 && Nat.beq sz 1) <;> rw [hc] at hx
      · simp at hx
      · simp only [cond_true] at hx
        simp only [Bool.and_eq_true] at hc
        obtain rfl := beq_tt hc.1
        obtain rfl := beq_tt hc.2
        split at hx
        · rename_i k' a rr
          cases hns : intsOf k' (.int k' a :: rr) with
          | none => simp [hns] at hx
          | some ns =>
            simp only [hns, Option.map_some, Option.some.injEq] at hx; subst hx
            have h1 : f = true := hob _ (by simp [silent])
            have h2 : 0 ≤ i ∧ i < (ns.length : Int) := hob _ (by simp [silent])
            have hcs := intsOf_get hns
            refine ⟨rfl, rfl, fun {μ w r rx} hv hix => ?_⟩
            cases hix
            obtain ⟨hsol, hl⟩ := hv.lst_inv h1
            rw [hcs] at hl
            rcases hl with ⟨h0, _⟩ | ⟨h0, _⟩ | ⟨_, b, off, len, cap, cs, rfl, hcap, hlen, hf, hg⟩
            · have : ns = [] := by simpa using h0
              rw [this] at h2; simp at h2; omega
            · omega
            · have hll : len = ns.length := by simpa using hlen
              refine ⟨_, indexAt_slice_run hu hsz ⟨h2.1, by rw [hll]; exact h2.2⟩ w, ?_⟩
              rw [Nat.mul_one]
              refine .fptr _ rfl hf fun q x hq => ?_
              cases q with
              | zero =>
                simp at hq; subst hq
                have hlt : i.toNat < ns.length := by omega
                have := hg i.toNat (.int k' (ns.getD i.toNat 0)) (by simp [hlt])
                simpa using this
              | succ q => simp at hq
        · simp at hx
    · simp at hx
  · simp at hx
theorem xlenE_ok {P : Program} {n : Nat} {hs : List Hint} {t ty : TypeId} {v : Value} {out : Out} {ts : Array TypeId} (hx : xlenE P n hs t v = some out) (hob : ∀ q ∈ out.ob, q) (ht : ts[0]? = some t) :
    out.eff = [] ∧ out.new = [] ∧ ∀ {μ : Mu} {w : World} {r : Value} {args : Array Value}, VRel μ v r → args[0]? = some r → ∃ rv, (Builtin.len_ ts ty args).run P w = .ok rv w ∧ VRel μ out.v rv := by
  unfold xlenE at hx
  split at hx
  · rename_i z l f e hu
    cases hc : (Nat.ble 1 z && Nat.beq (l.length / z * z) l.length) <;> rw [hc] at hx
    · simp at hx
    · simp only [cond_true, Option.some.injEq] at hx; subst hx
      simp only [Bool.and_eq_true] at hc
      have c1 := ble_tt hc.1
      have h1 : f = true := hob _ (by simp [silent])
      refine ⟨rfl, rfl, fun {μ w r args} hv ha => ?_⟩
      obtain ⟨_, hl⟩ := hv.lst_inv h1
      have hr : ∃ a c, r = .slice a (l.length / z) c := by
        rcases hl with ⟨rfl, rfl⟩ | ⟨h0, _⟩ | ⟨_, b, off, len, cap, cs, rfl, _, hlen, _⟩
        · exact ⟨none, 0, by simp⟩
        · omega
        · refine ⟨some ⟨b, off, none⟩, cap, ?_⟩
          rw [← hlen, Nat.mul_div_cancel _ (by omega)]
      obtain ⟨a, c, rfl⟩ := hr
      refine ⟨.int .i64 ((l.length / z : Nat) : Int), ?_, .int _ _⟩
      unfold Builtin.len_
      simp [ht, ha, underlying_run hu, goInt]
  · simp at hx
theorem xempty_ok {P : Program} {n : Nat} {hs : List Hint} {t : TypeId} {out : Out} {o : Oper} {ρ : Operand → Value} {h : HF} (hx : xempty P n hs t = some out) {parts : Array (Nat × Operand)} (ho : o.op = .buildSlice t 0 parts) (hp : parts.toList = []) : OpSpec P o ρ h out := by
  unfold xempty at hx
  split at hx
  · rename_i e hu
    split at hx
    · rename_i sz hsz
      simp only [Option.some.injEq] at hx; subst hx
      refine .newBlk fun μ a w hg hxs => ⟨[], .slice (some ⟨w.heap.size, 0, none⟩) 0 0, .nil, ?_, fun μ' hm hs => .slice hm 0 _ _ _ (Nat.le_refl _) (.inr (by simp))⟩
      have hp' : parts = #[] := by apply Array.ext'; simpa using hp
      subst hp'
      unfold execOp
      simp only [ho, Instr.buildSlice, Sem.run_bind, underlying_run hu, Result.andThen_ok, sizeOf_run hsz]
      have e0 : (Array.range 0).map (fun _ : Nat => (default : Value)) = #[] := by apply Array.ext'; simp
      simp [Instr.fill, newRow, newObj, Sem.run, e0]
    · simp at hx
  · simp at hx
theorem bound_spec {ρ : Operand → Value} {μ : Mu} {a : Act} {x : Option Operand} {k : Nat} {ob : List Prop} (h : boundP ρ x k = some ob) (hob : ∀ q ∈ ob, q) (hx : ∀ y, x = some y → VRel μ (ρ y) (a.eval y)) :
    x = none ∨ ∃ kd, x.map a.eval = some (.int kd (k : Int)) := by
  unfold boundP at h
  split at h
  · exact .inl rfl
  · rename_i y
    split at h
    · rename_i kd i hi
      simp only [Option.some.injEq] at h; subst h
      have h1 : i = (k : Int) := hob _ (by simp)
      have := hx y rfl
      rw [hi, h1] at this
      refine .inr ⟨kd, ?_⟩
      simp only [Option.map_some]
      revert this
      generalize a.eval y = Y
      intro this
      cases this; rfl
    · simp at h
theorem sliceBounds_run {P : Program} {isSlice : Bool} {len cap lo hi : Nat} {L Hh : Option Value} (hL : (L = none ∧ lo = 0) ∨ ∃ k, L = some (.int k (lo : Int))) (hH : (Hh = none ∧ hi = len) ∨ ∃ k, Hh = some (.int k (hi : Int))) (h1 : lo ≤ hi) (h2 : hi ≤ cap) (w : World) :
    (Instr.sliceBounds isSlice len cap L Hh none).run P w = .ok (lo, hi, cap) w := by
  unfold Instr.sliceBounds
  rcases hH with ⟨rfl, rfl⟩ | ⟨k, rfl⟩ <;> rcases hL with ⟨rfl, rfl⟩ | ⟨k', rfl⟩ <;>
    simp [Instr.sliceBound, asIntOf, h1, h2]
theorem at_add (b off n : Nat) : (Addr.add ⟨b, off, none⟩ n) = ⟨b, off + n, none⟩ := add_off b off n
theorem xslice_ok {P : Program} {ρ : Operand → Value} {n : Nat} {t : TypeId} {x : Operand} {low high max : Option Operand} {hs : List Hint} {out : Out} {o : Oper} {h : HF} (hx : xslice P ρ n t x low high max hs = some out) (hob : ∀ q ∈ out.ob, q)
    (ho : o.op = .slice t x low high max) : OpSpec P o ρ h out := by
  unfold xslice at hx
  have opx : ∀ (μ : Mu) (a : Act), (∀ y ∈ o.op.operands, VRel μ (ρ y) (a.eval y)) → VRel μ (ρ x) (a.eval x) ∧ (∀ y, low = some y → VRel μ (ρ y) (a.eval y)) ∧ (∀ y, high = some y → VRel μ (ρ y) (a.eval y)) ∧ (∀ y, max = some y → VRel μ (ρ y) (a.eval y)) := by
    intro μ a hxs
    rw [ho] at hxs
    refine ⟨hxs x (by simp [Op.operands]), fun y hy => hxs y (by simp [Op.operands, hy]), fun y hy => hxs y (by simp [Op.operands, hy]), fun y hy => hxs y (by simp [Op.operands, hy])⟩
  have exop : ∀ (a : Act) (w : World) (rv : Value), (Instr.sliceAt t (a.eval x) (low.map a.eval) (high.map a.eval) (max.map a.eval)).run P w = .ok rv w → (execOp a.eval o).run P w = .ok (.value rv) w := by
    intro a w rv hrun
    unfold execOp
    simp only [ho, Sem.run_bind, hrun, Result.andThen_ok, Sem.run_pure]
  split at hx
  · rename_i e z l f lo hi hs' hu hρ
    split at hx
    · rename_i sz o1 o2 hsz hb1 hb2
      cases hc : (Nat.beq z sz && Nat.ble 1 sz && Nat.ble lo hi && Nat.ble (hi * z) l.length && (low.isSome || Nat.beq lo 0) && (high.isSome || Nat.beq (hi * z) l.length)) <;> rw [hc] at hx
      · simp at hx
      · simp only [cond_true, Option.some.injEq] at hx; subst hx
        simp only [Bool.and_eq_true, Bool.or_eq_true] at hc
        obtain ⟨⟨⟨⟨⟨c1, c2⟩, c3⟩, c4⟩, c5⟩, c6⟩ := hc
        obtain rfl := beq_tt c1
        have c2 := ble_tt c2; have c3 := ble_tt c3; have c4 := ble_tt c4
        have h1 : f = true := hob _ (by simp [silent])
        refine .quiet rfl rfl fun μ a w hg hxs hr => ?_
        obtain ⟨hv, hlo, hhi, _⟩ := opx μ a hxs
        have B1 := bound_spec (a := a) hb1 (fun q hq => hob q (by simp [silent, hq])) hlo
        have B2 := bound_spec (a := a) hb2 (fun q hq => hob q (by simp [silent, hq])) hhi
        rw [hρ] at hv
        obtain ⟨hsol, hl⟩ := hv.lst_inv h1
        have hL : (low.map a.eval = none ∧ lo = 0) ∨ ∃ k, low.map a.eval = some (.int k (lo : Int)) := by
          rcases B1 with rfl | hk
          · exact .inl ⟨rfl, by simpa using beq_tt (c5.resolve_left (by simp))⟩
          · exact .inr hk
        have hnew : ((l.drop (lo * z)).take ((hi - lo) * z)).all solid = true := all_take _ (all_drop _ hsol)
        have key : ∀ ad len cap, a.eval x = .slice ad len cap → hi ≤ cap → len * z = l.length → (Instr.sliceAt t (a.eval x) (low.map a.eval) (high.map a.eval) none).run P w = .ok (.slice (if cap = lo then ad else ad.map (·.add (lo * z))) (hi - lo) (cap - lo)) w := by
          intro ad len cap he hcap hlen
          have hH : (high.map a.eval = none ∧ hi = len) ∨ ∃ k, high.map a.eval = some (.int k (hi : Int)) := by
            rcases B2 with rfl | hk
            · refine .inl ⟨rfl, ?_⟩
              have := beq_tt (c6.resolve_left (by simp))
              rw [← hlen] at this
              exact Nat.eq_of_mul_eq_mul_right (by omega) this
            · exact .inr hk
          unfold Instr.sliceAt
          rw [he]
          simp only [Sem.run_bind, underlying_run hu, Result.andThen_ok, Instr.slice, sliceBounds_run hL hH c3 hcap, sizeOf_run hsz, Sem.run_pure]
        rcases hl with ⟨rfl, hr0⟩ | ⟨h0, _⟩ | ⟨hz, b, off, len, cap, cs, hr0, hcap, hlen, hf, hg⟩
        · have hhi0 : hi = 0 := by
            rcases Nat.eq_zero_or_pos hi with h | h
            · exact h
            · have := Nat.mul_pos h (show 0 < z by omega)
              simp at c4; omega
          have hlo0 : lo = 0 := by omega
          subst hhi0; subst hlo0
          refine ⟨_, exop a w _ (key none 0 0 hr0 (Nat.le_refl _) (by simp)), VRel.lst_true hnew (.inl ⟨by simp, by simp⟩)⟩
        · omega
        · have hhl : hi ≤ len := Nat.le_of_mul_le_mul_right (by rw [hlen]; exact c4) (by omega)
          refine ⟨_, exop a w _ (key _ _ _ hr0 (by omega) hlen), VRel.lst_true hnew ?_⟩
          have hlength : ((l.drop (lo * z)).take ((hi - lo) * z)).length = (hi - lo) * z := by
            simp
            have : (hi - lo) * z + lo * z ≤ l.length := by rw [← Nat.add_mul]; rw [show hi - lo + lo = hi by omega]; exact c4
            omega
          have hcells : ∀ (o' : Nat), (o' = off + lo * z ∨ hi - lo = 0) → ∀ j v, ((l.drop (lo * z)).take ((hi - lo) * z))[j]? = some v → cs[o' + j]? = some v := by
            intro o' ho' j v hj
            have hjl := (List.getElem?_eq_some_iff.1 hj).1
            rw [hlength] at hjl
            rcases ho' with rfl | h0
            · rw [List.getElem?_take, if_pos hjl] at hj
              rw [Nat.add_assoc]; exact hg _ _ (by simpa using hj)
            · rw [h0] at hjl; simp at hjl
          by_cases hm : cap = lo
          · rw [if_pos hm]
            exact .inr (.inr ⟨hz, b, off, hi - lo, cap - lo, cs, rfl, by omega, by rw [hlength], hf, hcells off (.inr (by omega))⟩)
          · rw [if_neg hm]
            refine .inr (.inr ⟨hz, b, off + lo * z, hi - lo, cap - lo, cs, ?_, by omega, by rw [hlength], hf, hcells _ (.inl rfl)⟩)
            simp [at_add]
    · simp at hx
  · rename_i e z l f mx lo hi hs' hu hρ
    split at hx
    · rename_i sz o1 o2 o3 hsz hb1 hb2 hb3
      cases hc : (Nat.beq lo 0 && Nat.beq hi 0 && high.isSome) <;> rw [hc] at hx
      · simp at hx
      · simp only [cond_true, Option.some.injEq] at hx; subst hx
        simp only [Bool.and_eq_true] at hc
        obtain ⟨⟨c1, c2⟩, c3⟩ := hc
        obtain rfl := beq_tt c1
        obtain rfl := beq_tt c2
        have h1 : f = true := hob _ (by simp [silent])
        refine .quiet rfl rfl fun μ a w hg hxs hr => ?_
        obtain ⟨hv, hlo, hhi, hmx⟩ := opx μ a hxs
        have B1 := bound_spec (a := a) hb1 (fun q hq => hob q (by simp [silent, hq])) hlo
        have B2 := bound_spec (a := a) hb2 (fun q hq => hob q (by simp [silent, hq])) hhi
        have B3 := bound_spec (a := a) hb3 (fun q hq => hob q (by simp [silent, hq])) (fun y hy => hmx y (by rw [← hy]))
        rw [hρ] at hv
        obtain ⟨hsol, hl⟩ := hv.lst_inv h1
        obtain ⟨kh, hkh⟩ := B2.resolve_left (by intro hh; rw [hh] at c3; cases c3)
        obtain ⟨km, hkm⟩ := B3.resolve_left (by simp)
        have key : ∀ ad len cap, a.eval x = .slice ad len cap → ∃ ad', (Instr.sliceAt t (a.eval x) (low.map a.eval) (high.map a.eval) ((some mx).map a.eval)).run P w = .ok (.slice ad' 0 0) w := by
          intro ad len cap he
          refine ⟨ad, ?_⟩
          unfold Instr.sliceAt
          rw [he, hkh, hkm]
          rcases B1 with rfl | ⟨k, hk⟩
          · simp [underlying_run hu, Instr.slice, Instr.sliceBounds, Instr.sliceBound, asIntOf, sizeOf_run hsz]
          · rw [hk]
            simp [underlying_run hu, Instr.slice, Instr.sliceBounds, Instr.sliceBound, asIntOf, sizeOf_run hsz]
        have hex : ∃ ad len cap, a.eval x = .slice ad len cap := by
          rcases hl with ⟨rfl, hr0⟩ | ⟨h0, _, ad, hr0⟩ | ⟨hz, b, off, len, cap, cs, hr0, _⟩
          · exact ⟨_, _, _, hr0⟩
          · exact ⟨_, _, _, hr0⟩
          · exact ⟨_, _, _, hr0⟩
        obtain ⟨ad, len, cap, he⟩ := hex
        obtain ⟨ad', hk⟩ := key ad len cap he
        exact ⟨_, exop a w _ hk, VRel.lst_true rfl (.inr (.inl ⟨rfl, rfl, ad', rfl⟩))⟩
    · simp at hx
  · rename_i e i off sp len z lo hi hs' hu hρ
    split at hx
    · rename_i sz o1 o2 hsz hb1 hb2
      cases hc : ((Nat.beq z sz || Nat.beq z 0) && (low.isSome || Nat.beq lo 0)) <;> rw [hc] at hx
      · simp at hx
      · simp only [cond_true, Option.some.injEq] at hx; subst hx
        simp only [Bool.and_eq_true, Bool.or_eq_true] at hc
        obtain ⟨c1, c5⟩ := hc
        have hb : hi ≤ len ∧ lo ≤ hi ∧ (lo = 0 ∨ lo < hi) ∧ (high.isSome = true ∨ hi = len) := hob _ (by simp [silent])
        obtain ⟨b1, b2, b3, b4⟩ := hb
        refine .quiet rfl rfl fun μ a w hg hxs hr => ?_
        obtain ⟨hv, hlo, hhi, _⟩ := opx μ a hxs
        have B1 := bound_spec (a := a) hb1 (fun q hq => hob q (by simp [silent, hq])) hlo
        have B2 := bound_spec (a := a) hb2 (fun q hq => hob q (by simp [silent, hq])) hhi
        rw [hρ] at hv
        have hL : (low.map a.eval = none ∧ lo = 0) ∨ ∃ k, low.map a.eval = some (.int k (lo : Int)) := by
          rcases B1 with rfl | hk
          · exact .inl ⟨rfl, by simpa using beq_tt (c5.resolve_left (by simp))⟩
          · exact .inr hk
        have hH : (high.map a.eval = none ∧ hi = len) ∨ ∃ k, high.map a.eval = some (.int k (hi : Int)) := by
          rcases B2 with rfl | hk
          · exact .inl ⟨rfl, by simpa using b4⟩
          · exact .inr hk
        have key : ∀ b o' cap, a.eval x = .slice (some ⟨b, o', none⟩) len cap → len ≤ cap → (Instr.sliceAt t (a.eval x) (low.map a.eval) (high.map a.eval) none).run P w = .ok (.slice (some ⟨b, o' + lo * sz, none⟩) (hi - lo) (cap - lo)) w := by
          intro b o' cap he hcap
          unfold Instr.sliceAt
          rw [he]
          simp only [Sem.run_bind, underlying_run hu, Result.andThen_ok, Instr.slice, sliceBounds_run hL hH b2 (Nat.le_trans b1 hcap), sizeOf_run hsz, Sem.run_pure]
          by_cases hm : cap = lo
          · rw [if_pos hm]
            have hlo0 : lo = 0 := by omega
            subst hlo0
            simp
          · rw [if_neg hm]
            simp [at_add]
        refine (show ∃ rv, _ from ?_)
        generalize hX : a.eval x = X at hv
        cases hv with
        | slice hb _ _ _ cap' hcc hz =>
          refine ⟨_, exop a w _ (key _ _ _ hX hcc), .slice hb _ _ _ _ (by omega) ?_⟩
          rcases hz with hz | hz
          · exact .inl hz
          · rcases c1 with c1 | c1
            · refine .inr ?_
              obtain rfl := beq_tt c1
              have : (cap' - lo) * z + lo * z = cap' * z := by rw [← Nat.add_mul]; rw [show cap' - lo + lo = cap' by omega]
              omega
            · exact .inl (beq_tt c1)
        | sliceS hb st _ _ _ cap' hcc =>
          refine ⟨_, exop a w _ (key _ _ _ hX hcc), ?_⟩
          rw [Nat.add_assoc]
          exact .sliceS hb _ _ _ _ _ (by omega)
        | sliceE i s off c ad c' =>
          obtain rfl : hi = 0 := by omega
          obtain rfl : lo = 0 := by omega
          have key0 : ∃ ad' c'', (Instr.sliceAt t (a.eval x) (low.map a.eval) (high.map a.eval) none).run P w = .ok (.slice ad' 0 c'') w := by
            unfold Instr.sliceAt
            rw [hX]
            simp only [Sem.run_bind, underlying_run hu, Result.andThen_ok, Instr.slice, sliceBounds_run hL hH (Nat.le_refl 0) (Nat.zero_le c'), sizeOf_run hsz, Sem.run_pure]
            exact ⟨_, _, rfl⟩
          obtain ⟨ad', c'', key0⟩ := key0
          exact ⟨_, exop a w _ key0, .sliceE _ _ _ _ _ _⟩
    · simp at hx
  · rename_i m e i off sp lo hi hs' hu hρ
    split at hx
    · rename_i sz o1 o2 hsz hb1 hb2
      cases hc : (Nat.ble lo hi && Nat.ble hi m && (low.isSome || Nat.beq lo 0) && (high.isSome || Nat.beq hi m) && (Nat.beq lo 0 || Nat.blt lo m)) <;> rw [hc] at hx
      · simp at hx
      · simp only [cond_true, Option.some.injEq] at hx; subst hx
        simp only [Bool.and_eq_true, Bool.or_eq_true] at hc
        obtain ⟨⟨⟨⟨c1, c2⟩, c3⟩, c4⟩, c5⟩ := hc
        have c1 := ble_tt c1; have c2 := ble_tt c2
        refine .quiet rfl rfl fun μ a w hg hxs hr => ?_
        obtain ⟨hv, hlo, hhi, _⟩ := opx μ a hxs
        have B1 := bound_spec (a := a) hb1 (fun q hq => hob q (by simp [silent, hq])) hlo
        have B2 := bound_spec (a := a) hb2 (fun q hq => hob q (by simp [silent, hq])) hhi
        rw [hρ] at hv
        have hL : (low.map a.eval = none ∧ lo = 0) ∨ ∃ k, low.map a.eval = some (.int k (lo : Int)) := by
          rcases B1 with rfl | hk
          · exact .inl ⟨rfl, by simpa using beq_tt (c3.resolve_left (by simp))⟩
          · exact .inr hk
        have hH : (high.map a.eval = none ∧ hi = m) ∨ ∃ k, high.map a.eval = some (.int k (hi : Int)) := by
          rcases B2 with rfl | hk
          · exact .inl ⟨rfl, beq_tt (c4.resolve_left (by simp))⟩
          · exact .inr hk
        have key : ∀ b o', a.eval x = .pointer (some ⟨b, o', none⟩) → (Instr.sliceAt t (a.eval x) (low.map a.eval) (high.map a.eval) none).run P w = .ok (.slice (some ⟨b, o' + lo * sz, none⟩) (hi - lo) (m - lo)) w := by
          intro b o' he
          unfold Instr.sliceAt
          rw [he]
          simp only [Sem.run_bind, underlying_run hu, Result.andThen_ok, Instr.sureAddr, Sem.run_pure, sliceBounds_run hL hH c1 c2, sizeOf_run hsz]
          by_cases hm : m = lo
          · rw [if_pos hm]
            have hlo0 : lo = 0 := by
              rcases c5 with c5 | c5
              · exact beq_tt c5
              · have := blt_tt c5; omega
            subst hlo0
            simp
          · rw [if_neg hm]
            simp [at_add]
        refine (show ∃ rv, _ from ?_)
        generalize hX : a.eval x = X at hv
        cases hv with
        | ptr hb _ => exact ⟨_, exop a w _ (key _ _ hX), .slice hb _ _ _ _ (by omega) (.inl rfl)⟩
        | ptrS hb st _ =>
          refine ⟨_, exop a w _ (key _ _ hX), ?_⟩
          rw [Nat.add_assoc]
          exact .sliceS hb _ _ _ _ _ (by omega)
    · simp at hx
  · rename_i s hs' hu hρ
    split at hx
    · rename_i y
      split at hx
      · rename_i k i hi
        simp only [Option.some.injEq] at hx; subst hx
        have hb : 0 ≤ i ∧ i ≤ (s.size : Int) := hob _ (by simp [silent])
        refine .quiet rfl rfl fun μ a w hg hxs hr => ?_
        obtain ⟨hv, _, hhi, _⟩ := opx μ a hxs
        have h2 := hhi y rfl
        rw [hρ] at hv
        rw [hi] at h2
        refine ⟨_, exop a w (.string (s.extract 0 i.toNat)) ?_, .string _⟩
        simp only [Option.map_some, Option.map_none]
        revert hv h2
        generalize a.eval x = X
        generalize a.eval y = Y
        intro hv h2
        cases hv; cases h2
        simp [Instr.sliceAt, underlying_run hu, Instr.slice, Instr.sliceBounds, Instr.sliceBound, asIntOf, hb]
      · simp at hx
    · simp at hx
  · simp at hx
theorem oneCell_of {v : Value} (h : storable v = true) : v.oneCell' = true := by
  cases v with
  | chan r => cases r <;> first | rfl | (simp [storable] at h)
  | _ => first | rfl | (simp [storable] at h)
theorem VRels.storables {μ : Mu} : ∀ {l m : List Value}, VRels μ l m → l.all storable = true → m.all storable = true
  | [], [], _, _ => rfl
  | x :: l, y :: m, h, ha => by
    simp only [List.all_cons, Bool.and_eq_true] at ha ⊢
    cases h with
    | cons a b =>
      refine ⟨?_, VRels.storables b ha.2⟩
      cases a <;> first | rfl | (simp [storable] at ha; done) | (rename_i hr _; obtain ⟨_, _, _, rfl⟩ := hr; rfl)
  | [], _ :: _, h, _ => nomatch h
  | _ :: _, [], h, _ => nomatch h
theorem ycells_ok {P : Program} {H h : HF} {sz m : Nat} {v : Value} {cs : List Value} {rd : List Nat} {ob : List Prop} {ty e' : TypeId} (hy : ycells H sz v = some (cs, m, rd, ob)) (hob : ∀ q ∈ ob, q) (hrd : ∀ i ∈ rd, h i = H i) (hk : P.underlying ty = some (.slice e'))
    (hl : cs.length = m * sz) (hm : 1 ≤ m) (h1 : 1 ≤ sz) (hst : cs.all storable = true) {μ : Mu} {w : World} (r : Rep μ h w) {x : Value} (hv : VRel μ v x) : ∃ rs, VRels μ cs rs ∧ Src P sz ty x m rs w := by
  unfold ycells at hy
  split at hy
  · rename_i i off m' c
    split at hy
    · rename_i B hB
      cases hg : gets B off (m' * sz) with
      | none => simp [hg] at hy
      | some l =>
        simp only [hg, Option.map_some, Option.some.injEq, Prod.mk.injEq] at hy
        obtain ⟨rfl, rfl, rfl, rfl⟩ := hy
        rw [← hrd i (by simp)] at hB
        obtain ⟨b, hb, cells, ty', fr, he, _, hcs⟩ := r.blk i B hB
        cases hv with
        | slice hb' _ _ _ cap' hc hz =>
          rw [hb] at hb'
          obtain rfl : b = _ := by simpa using hb'
          obtain ⟨rs, g1, g2, g3⟩ := gets_spec hcs _ _ _ hg
          refine ⟨rs, g1, Src.ofSlice w hk _ _ _ _ (by rw [← g1.length]; exact hl) (fun j u hu => by rw [at_add]; exact cell_of he (g3 j u hu)) ?_⟩
          intro u hu
          have := g1.storables hst
          rw [List.all_eq_true] at this
          exact oneCell_of (this u hu)
    · simp at hy
  · rename_i z l f
    cases hc : (Nat.beq z sz && Nat.beq (l.length / z * z) l.length) <;> rw [hc] at hy
    · simp at hy
    · simp only [cond_true, Option.some.injEq, Prod.mk.injEq] at hy
      obtain ⟨rfl, rfl, rfl, rfl⟩ := hy
      simp only [Bool.and_eq_true] at hc
      obtain rfl := beq_tt hc.1
      obtain ⟨hsol, hls⟩ := hv.lst_inv (hob _ (by simp))
      rcases hls with ⟨rfl, _⟩ | ⟨h0, _⟩ | ⟨_, b, off, len, cap, cells, rfl, hcap, hlen, hf, hg⟩
      · simp at hm
      · omega
      · obtain ⟨ty', fr, he⟩ := r.frz b cells hf
        have hlm : len = l.length / z := by rw [← hlen, Nat.mul_div_cancel _ (by omega)]
        subst hlm
        refine ⟨l, .of_solids hsol, Src.ofSlice w hk _ _ _ _ hl (fun j u hu => by rw [at_add]; exact cell_of he (hg j u hu)) ?_⟩
        intro u hu
        rw [List.all_eq_true] at hst
        exact oneCell_of (hst u hu)
  · simp at hy
theorem segsSize_append : ∀ (a b : List Seg), segsSize (a ++ b) = segsSize a + segsSize b
  | [], b => by simp [segsSize]
  | x :: a, b => by simp only [List.cons_append, segsSize, segsSize_append a b]; omega
theorem segsGet_left : ∀ (a b : List Seg) (o : Nat), o < segsSize a → segsGet? (a ++ b) o = segsGet? a o
  | [], b, o, h => by simp [segsSize] at h
  | x :: a, b, o, h => by
    simp only [List.cons_append, segsGet?]
    cases e : Nat.blt o x.size
    · have h2 := blt_ff e
      simp only [segsSize] at h
      simp only [cond_false]
      exact segsGet_left a b _ (by omega)
    · rfl
theorem segsGet_right : ∀ (a b : List Seg) (o : Nat), segsSize a ≤ o → segsGet? (a ++ b) o = segsGet? b (o - segsSize a)
  | [], b, o, h => by simp [segsSize]
  | x :: a, b, o, h => by
    simp only [segsSize] at h
    simp only [List.cons_append, segsGet?]
    have e : Nat.blt o x.size = false := by
      cases e : Nat.blt o x.size with
      | false => rfl
      | true => have := blt_tt e; omega
    rw [e]
    simp only [cond_false]
    rw [segsGet_right a b _ (by omega)]
    congr 1
    simp only [segsSize]
    omega
theorem ones_get (cs : List Value) (t : TypeId) (o : Nat) : segsGet? (cs.map .one) o = cs[o]? := cellsBlk_get cs t o
theorem ones_size (cs : List Value) : segsSize (cs.map .one) = cs.length := cellsBlk_size cs 0
theorem addSegs_spec (l : List Seg) (cs : List Value) : segsSize (addSegs l cs) = segsSize l + cs.length ∧ ∀ o v, segsGet? (addSegs l cs) o = some v → (o < segsSize l ∧ segsGet? l o = some v) ∨ (segsSize l ≤ o ∧ cs[o - segsSize l]? = some v) := by
  have gen : segsSize (l ++ cs.map .one) = segsSize l + cs.length ∧ ∀ o v, segsGet? (l ++ cs.map .one) o = some v → (o < segsSize l ∧ segsGet? l o = some v) ∨ (segsSize l ≤ o ∧ cs[o - segsSize l]? = some v) := by
    refine ⟨by rw [segsSize_append, ones_size], fun o v h => ?_⟩
    rcases Nat.lt_or_ge o (segsSize l) with hlt | hge
    · rw [segsGet_left _ _ _ hlt] at h
      exact .inl ⟨hlt, h⟩
    · rw [segsGet_right _ _ _ hge, ones_get cs 0] at h
      exact .inr ⟨hge, h⟩
  unfold addSegs
  split
  · rename_i k n a k' x
    cases e : k == k'
    · exact gen
    · have : k = k' := by simpa using e
      subst this
      refine ⟨by simp [segsSize, Seg.size], fun o v h => ?_⟩
      simp only [cond_true, segsGet?, Seg.size] at h
      cases e1 : Nat.blt o (n + 1) <;> rw [e1] at h
      · simp at h
      · have := blt_tt e1
        simp only [cond_true, Seg.get?, e1, Option.some.injEq, upd] at h
        simp only [segsSize, Seg.size, Nat.add_zero]
        by_cases ho : o = n
        · subst ho
          rw [beq_self] at h
          simp at h
          exact .inr ⟨Nat.le_refl _, by simp [h]⟩
        · rw [beq_ne ho] at h
          simp only [cond_false] at h
          refine .inl ⟨by omega, ?_⟩
          have e2 : Nat.blt o n = true := Nat.ble_eq_true_of_le (show o + 1 ≤ n by omega)
          simp only [segsGet?, Seg.size, e2, cond_true, Seg.get?]
          exact congrArg some h
  · rename_i n sz g
    cases e : Nat.beq cs.length sz
    · exact gen
    · have hsz := beq_tt e
      refine ⟨by simp [segsSize, Seg.size, Nat.add_mul, hsz], fun o v h => ?_⟩
      simp only [cond_true, segsGet?, Seg.size] at h
      cases e1 : Nat.blt o ((n + 1) * sz) <;> rw [e1] at h
      · simp at h
      · have h1 := blt_tt e1
        simp only [cond_true, Seg.get?, e1, upd] at h
        simp only [segsSize, Seg.size, Nat.add_zero]
        have hpos : 0 < sz := by
          rcases Nat.eq_zero_or_pos sz with h0 | h0
          · rw [h0] at h1; simp at h1
          · exact h0
        by_cases ho : o < n * sz
        · have hq : o / sz < n := (Nat.div_lt_iff_lt_mul hpos).2 ho
          rw [beq_ne (by omega : o / sz ≠ n)] at h
          refine .inl ⟨ho, ?_⟩
          have e2 : Nat.blt o (n * sz) = true := Nat.ble_eq_true_of_le ho
          simp only [segsGet?, Seg.size, e2, cond_true, Seg.get?]
          exact h
        · have hq : o / sz = n := by
            have a1 : o / sz < n + 1 := (Nat.div_lt_iff_lt_mul hpos).2 h1
            have a2 : n ≤ o / sz := (Nat.le_div_iff_mul_le hpos).2 (by omega)
            omega
          rw [hq, beq_self] at h
          simp only [cond_true] at h
          refine .inr ⟨by omega, ?_⟩
          have hm := Nat.div_add_mod o sz
          rw [hq, Nat.mul_comm] at hm
          rw [show o - n * sz = o % sz by omega]
          exact h
  · exact gen
theorem firstSegs_spec (sz : Nat) (cs : List Value) (hs : List Hint) (h1 : 1 ≤ sz) : segsSize (firstSegs sz cs hs).1 = cs.length ∧ ∀ o v, segsGet? (firstSegs sz cs hs).1 o = some v → cs[o]? = some v := by
  have gen : segsSize (cs.map .one) = cs.length ∧ ∀ o v, segsGet? (cs.map .one) o = some v → cs[o]? = some v := ⟨ones_size cs, fun o v h => by rw [ones_get cs 0] at h; exact h⟩
  unfold firstSegs
  split
  · cases e : Nat.beq cs.length sz
    · exact gen
    · have hsz := beq_tt e
      refine ⟨by simp [segsSize, Seg.size, hsz], fun o v h => ?_⟩
      simp only [cond_true, segsGet?, Seg.size] at h
      cases e1 : Nat.blt o (1 * sz) <;> rw [e1] at h
      · simp at h
      · have := blt_tt e1
        simp only [cond_true, Seg.get?, e1] at h
        rw [Nat.mod_eq_of_lt (by omega)] at h
        exact h
  · split
    · rename_i k x
      refine ⟨by simp [segsSize, Seg.size], fun o v h => ?_⟩
      simp only [segsGet?, Seg.size] at h
      cases e1 : Nat.blt o 1 <;> rw [e1] at h
      · simp at h
      · have := blt_tt e1
        simp only [cond_true, Seg.get?, e1, Option.some.injEq] at h
        have : o = 0 := by omega
        subst this
        simp [h]
    · exact gen
  · exact gen
theorem putCells_eq (b : Nat) : ∀ (vs : List Value) (o : Nat) (w : World), w.setCells b o vs = World.putCells w b o vs
  | [], _, _ => rfl
  | v :: r, o, w => by simp only [World.setCells, World.putCells]; exact putCells_eq b r (o + 1) _
theorem putCells_heap (b : Nat) : ∀ (vs : List Value) (o : Nat) (w : World) (cs : Array Value) (t : TypeId), w.heap[b]? = some (.cells cs t (0, 0)) → o + vs.length ≤ cs.size →
    ∃ ds, (World.putCells w b o vs).heap[b]? = some (.cells ds t (0, 0)) ∧ ds.size = cs.size ∧ (∀ j, (j < o ∨ o + vs.length ≤ j) → ds[j]? = cs[j]?) ∧ (∀ j, j < vs.length → ds[o + j]? = vs[j]?) ∧
      (World.putCells w b o vs).heap.size = w.heap.size ∧ (World.putCells w b o vs).os = w.os ∧ (World.putCells w b o vs).tape = w.tape ∧ (World.putCells w b o vs).output = w.output ∧ ∀ k, k ≠ b → (World.putCells w b o vs).heap[k]? = w.heap[k]?
  | [], o, w, cs, t, he, _ => ⟨cs, he, rfl, fun _ _ => rfl, fun j hj => by simp at hj, rfl, rfl, rfl, rfl, fun _ _ => rfl⟩
  | v :: r, o, w, cs, t, he, hle => by
    simp only [List.length_cons] at hle
    have h1 : (w.setCell ⟨b, o, none⟩ v).heap[b]? = some (.cells (cs.setIfInBounds o v) t (0, 0)) := by
      have := heap_setCell_same w b o cs t v he
      simpa using this
    obtain ⟨ds, a1, a2, a3, a4, a5, a6, a7, a8, a9⟩ := putCells_heap b r (o + 1) _ _ t h1 (by simp; omega)
    simp only [World.putCells]
    refine ⟨ds, a1, by simpa using a2, ?_, ?_, by simpa using a5, a6, a7, a8, ?_⟩
    · intro j hj
      simp only [List.length_cons] at hj
      rw [a3 j (by omega), Array.getElem?_setIfInBounds_ne (by omega)]
    · intro j hj
      simp only [List.length_cons] at hj
      cases j with
      | zero => rw [a3 (o + 0) (by omega)]; simp [Array.getElem?_setIfInBounds, show o < cs.size by omega]
      | succ j => rw [show o + (j + 1) = o + 1 + j by omega, a4 j (by omega)]; simp
    · intro k hk
      rw [a9 k hk]
      exact heap_setCell_other w ⟨b, o, none⟩ k v hk
theorem Rep.spare {μ : Mu} {h : HF} {w : World} (r : Rep μ h w) {i b o : Nat} {A : Blk} {vs : List Value} (hi : h i = some A) (hro : A.ro = false) (hb : μ i = some b) (ho : A.size ≤ o) {cs : Array Value} {t : TypeId} (he : w.heap[b]? = some (.cells cs t (0, 0))) (hle : o + vs.length ≤ cs.size) :
    Rep μ h (World.putCells w b o vs) ∧ Keeps μ h w μ h (World.putCells w b o vs) := by
  obtain ⟨ds, a1, a2, a3, a4, a5, a6, a7, a8, a9⟩ := putCells_heap b vs o w cs t he hle
  constructor
  · refine ⟨?_, r.apart, ?_, ?_, ?_, r.nofz⟩
    · intro j C hj
      obtain ⟨c, hc, cs', t', fr', e', h1, h2⟩ := r.blk j C hj
      refine ⟨c, hc, ?_⟩
      by_cases hcb : c = b
      · subst hcb
        have hji : j = i := by
          by_cases hji : j = i
          · exact hji
          · have := (r.apart j i C A c hj hi hc hb hji).2
            rw [hro] at this; cases this
        subst hji
        rw [hi] at hj
        obtain rfl : A = C := by simpa using hj
        rw [he] at e'
        cases e'
        refine ⟨ds, t, (0, 0), a1, fun hr => by obtain ⟨p, q, s⟩ := h1 hr; exact ⟨p, q, by rw [a2]; exact s⟩, fun off v hv => ?_⟩
        have hlt : off < A.size := segsGet_lt hv
        rw [a3 off (by omega)]
        exact h2 off v hv
      · exact ⟨cs', t', fr', by rw [a9 c hcb]; exact e', h1, h2⟩
    · intro j c hj
      rw [a5]; exact r.bound j c hj
    · intro j C c hj hCr hjc
      obtain ⟨cs', t', fr', e', hs⟩ := r.size j C c hj hCr hjc
      by_cases hcb : c = b
      · subst hcb
        rw [he] at e'; cases e'
        exact ⟨ds, t, (0, 0), a1, a2.trans hs⟩
      · exact ⟨cs', t', fr', by rw [a9 c hcb]; exact e', hs⟩
    · intro c cs' hf
      have hcb : c ≠ b := by
        rintro rfl
        rw [r.nofz i A c hi hro hb] at hf
        cases hf
      rw [a9 c hcb]
      exact r.frz c cs' hf
  · refine ⟨a6, a7, a8, by omega, ?_, fun j C k hj hjk _ => ⟨j, C, hj, hjk, id⟩, fun _ _ => rfl, fun _ _ h => h, fun _ _ h => .inl h⟩
    intro k hk hno
    exact a9 k fun hkb => hno ⟨i, A, hi, hro, by rw [hkb]; exact hb⟩
theorem VRels.get' {μ : Mu} {l m : List Value} (h : VRels μ l m) (i : Nat) (x : Value) (hx : l[i]? = some x) : ∃ y, m[i]? = some y ∧ VRel μ x y := h.get i x hx
theorem xappend_ok {P : Program} {ρ : Operand → Value} {H h : HF} {n : Nat} {hs : List Hint} {c : Call} {out : Out} {o : Oper} (hx : xappend P ρ H n hs c = some out) (hob : ∀ q ∈ out.ob, q) (hrd : ∀ i ∈ out.rd, h i = H i) (ho : o.op = .call c) (hc : c.callee = .builtin .append) : OpSpec P o ρ h out := by
  unfold xappend at hx
  split at hx
  case h_2 => simp at hx
  case h_1 tx ty x y hty hargs =>
  split at hx
  case h_2 => simp at hx
  case h_1 e e' hux huy =>
  split at hx
  case h_2 => simp at hx
  case h_1 inf hi =>
  split at hx
  case h_2 => simp at hx
  case h_1 cs m rd ob hyc =>
  cases hcc : (Nat.ble 1 inf.size && Nat.ble inf.bytes 1048576 && zeroOk inf && Nat.ble 1 m && Nat.beq cs.length (m * inf.size) && cs.all storable) <;> rw [hcc] at hx
  · simp at hx
  simp only [cond_true] at hx
  simp only [Bool.and_eq_true] at hcc
  obtain ⟨⟨⟨⟨⟨c1, c2⟩, c3⟩, c4⟩, c5⟩, c6⟩ := hcc
  have c1 := ble_tt c1; have c2 := ble_tt c2; have c4 := ble_tt c4; have c5 := beq_tt c5
  obtain ⟨z, hz, hzs⟩ : ∃ z, inf.zero = some z ∧ z.cells.size = inf.size := by
    unfold zeroOk at c3
    cases hz : inf.zero with
    | none => simp [hz] at c3
    | some z => simp only [hz] at c3; exact ⟨z, rfl, by simpa using beq_tt c3⟩
  have htys : c.argTypes = #[tx, ty] := by apply Array.ext'; simpa using hty
  have hexec : ∀ (a : Act) (w w' : World) (rv : Value), (Builtin.append_ #[tx, ty] o.type #[a.eval x, a.eval y]).run P w = .ok rv w' → (execOp a.eval o).run P w = .ok (.value rv) w' := by
    intro a w w' rv hrun
    have two : c.args.map a.eval = #[a.eval x, a.eval y] := by apply Array.ext'; simp [hargs]
    unfold execOp
    simp only [ho, resolve, hc, Sem.run_bind, Sem.run_pure, Result.andThen_ok, invoke, builtin, two, htys, hrun]
  have hops : ∀ (μ : Mu) (a : Act), (∀ q ∈ o.op.operands, VRel μ (ρ q) (a.eval q)) → VRel μ (ρ x) (a.eval x) ∧ VRel μ (ρ y) (a.eval y) := by
    intro μ a hxs
    have hm : x ∈ c.args ∧ y ∈ c.args := by
      constructor
      · have : x ∈ c.args.toList := by rw [hargs]; simp
        simpa using this
      · have : y ∈ c.args.toList := by rw [hargs]; simp
        simpa using this
    exact ⟨hxs x (by rw [ho]; simp [Op.operands, Call.operands, hc, hm.1]), hxs y (by rw [ho]; simp [Op.operands, Call.operands, hc, hm.2])⟩
  have rowsize : ∀ (k N : Nat) (l : List Value), l.length = k * inf.size → k ≤ N → (l.toArray ++ Builtin.zeroCells z.cells (N - k)).size = N * inf.size := by
    intro k N l hl hk
    have e1 : (Builtin.zeroCells z.cells (N - k)).size = (N - k) * inf.size := by simp [Builtin.zeroCells, hzs]
    have e2 : (N - k) * inf.size + k * inf.size = N * inf.size := by rw [← Nat.add_mul, show N - k + k = N by omega]
    rw [Array.size_append, e1]
    simp only [List.size_toArray, hl]
    omega
  have grown : ∀ (h : HF) (μ : Mu) (w : World) (S : List Seg) (all rest : List Value) (k N : Nat), all.length = k * inf.size → k ≤ N → segsSize S = all.length → (∀ μ' : Mu, μ.le μ' → ∀ o v, segsGet? S o = some v → ∃ y, all[o]? = some y ∧ VRel μ' v y) → Rep μ h w.drew → μ n = none →
      ∃ μ' : Mu, μ.le μ' ∧ (∀ i, i ≠ n → μ' i = μ i) ∧ Rep μ' (upd1 h (n, .blk { segs := S, ty := e, ro := false })) (w.drew.alloc (.cells (all.toArray ++ Builtin.zeroCells z.cells (N - k)) e)) ∧
        VRel μ' (.slice (some ⟨n, 0, none⟩) k inf.size) (.slice (some ⟨w.heap.size, 0, none⟩) k N) ∧ Keeps μ h w μ' (upd1 h (n, .blk { segs := S, ty := e, ro := false })) (w.drew.alloc (.cells (all.toArray ++ Builtin.zeroCells z.cells (N - k)) e)) := by
    intro h μ w S all rest k N hall hkN hS hget hr' hnn
    obtain ⟨hle, hrep, hkeep⟩ := hr'.new (i := n) (B := { segs := S, ty := e, ro := false }) (t := e) (cs := all.toArray ++ Builtin.zeroCells z.cells (N - k)) hnn (fun μ' hl => by
      refine ⟨_, _, _, rfl, fun _ => ⟨rfl, rfl, ?_⟩, fun off v hv => ?_⟩
      · simp only [Blk.size, hS]; simp
      · obtain ⟨y, hy1, hy2⟩ := hget μ' hl off v hv
        refine ⟨y, ?_, hy2⟩
        have hlt := (List.getElem?_eq_some_iff.1 hy1).1
        rw [Array.getElem?_append_left (by simpa using hlt)]
        simpa using hy1)
    refine ⟨_, hle, fun i hi => by simp [hi], hrep, ?_, (Keeps.drew μ h w).trans hkeep⟩
    refine .slice (by simp) 0 k inf.size N hkN (.inr ?_)
    have := rowsize k N all hall hkN
    simp only [Nat.zero_add]
    rw [if_pos (show w.heap.size = w.drew.heap.size from rfl), this]
    exact Nat.le_refl _
  have fresh : ∀ (S : List Seg) (hs' : List Hint) (pre : List Prop), segsSize S = cs.length → (∀ o v, segsGet? S o = some v → cs[o]? = some v) → (∀ (μ : Mu) (X : Value), VRel μ (ρ x) X → ∃ ad, X = .slice ad 0 0) →
      out = { v := .slice (some ⟨n, 0, none⟩) m inf.size, eff := [(n, .blk { segs := S, ty := e, ro := false })], rd, sh := [], new := [n], n := n + 1, hs := hs', ob := pre ++ (m ≤ 1048576) :: ob } → OpSpec P o ρ h out := by
    intro S hs' pre hS1 hS2 hX he
    subst he
    intro μ a w hg hxs hr hn K Q hk
    obtain ⟨hvx, hvy⟩ := hops μ a hxs
    obtain ⟨ad, hX⟩ := hX μ _ hvx
    obtain ⟨rs, hrs, hsrc⟩ := ycells_ok (P := P) hyc (fun q hq => hob q (by simp [hq])) hrd huy c5 c4 c1 c6 hr hvy
    have hm : m ≤ 1048576 := hob _ (by simp)
    have hrun := run_append_grow_src w tx ty o.type e inf z hux hi hz ad 0 0 [] (by
      cases ad with
      | none => exact run_firstCells_none w.drew _ _ _ _
      | some ad => exact run_firstCells_some w.drew inf.size 0 ad 0 0 [] (by simp) (by simp)) (a.eval y) m rs hsrc (by omega) (by omega)
      (growslice_fits (by omega) (by
        have : (0 + m) * inf.bytes ≤ 1048576 * 1048576 := Nat.mul_le_mul (by omega) c2
        omega))
    rw [← hX] at hrun
    have hrun := hexec a w _ _ hrun
    simp only [Nat.zero_add, List.nil_append] at hrun
    have hge := grownCap_ge w m 0 e
    obtain ⟨μ', h1, h2, h3, h4, h5⟩ := grown h μ w S rs [] m (grownCap w m 0 e) (by rw [← hrs.length]; exact c5) hge (by rw [hS1]; exact hrs.length) (fun μ' hl o v hv => (hrs.mono hl).get o v (hS2 o v hv)) (hr.heap_eq rfl) (hn n (by simp))
    exact wp_of_value hrun (hk μ' _ _ h1 (fun i hi => h2 i (by simpa using hi)) h3 h4 h5)
  split at hx
  · rename_i hρ
    simp only [Option.some.injEq] at hx
    obtain ⟨f1, f2⟩ := firstSegs_spec inf.size cs hs c1
    exact fresh _ _ [] f1 f2 (fun μ X hv => by rw [hρ] at hv; cases hv; exact ⟨_, rfl⟩) hx.symm
  · rename_i f hρ
    simp only [Option.some.injEq] at hx
    obtain ⟨f1, f2⟩ := firstSegs_spec inf.size cs hs c1
    have hf : f = true := hob _ (by rw [← hx]; simp)
    refine fresh _ _ [f = true] f1 f2 (fun μ X hv => ?_) hx.symm
    rw [hρ] at hv
    obtain ⟨_, hl⟩ := hv.lst_inv hf
    rcases hl with ⟨_, rfl⟩ | ⟨_, _, ad, rfl⟩ | ⟨h0, _⟩
    · exact ⟨_, rfl⟩
    · exact ⟨_, rfl⟩
    · exact absurd rfl h0
  · rename_i i len z' hρ
    split at hx
    · rename_i B hB
      cases hc2 : (Nat.beq z' inf.size && !B.ro && Nat.beq B.ty e) <;> rw [hc2] at hx
      · simp at hx
      simp only [cond_true, Option.some.injEq] at hx; subst hx
      simp only [Bool.and_eq_true, Bool.not_eq_true'] at hc2
      obtain ⟨⟨d1, d2⟩, d3⟩ := hc2
      obtain rfl := beq_tt d1
      have d3 := beq_tt d3
      have hneed : len + m ≤ 1048576 := hob _ (by simp)
      have hBs : B.size = len * inf.size := hob _ (by simp)
      intro μ a w hg hxs hr hn K Q hk
      obtain ⟨hvx, hvy⟩ := hops μ a hxs
      obtain ⟨rs, hrs, hsrc⟩ := ycells_ok (P := P) hyc (fun q hq => hob q (by simp [hq])) (fun j hj => hrd j (by simp [hj])) huy c5 c4 c1 c6 hr hvy
      have hlr : rs.length = m * inf.size := by rw [← hrs.length]; exact c5
      have hBh : h i = some B := by rw [hrd i (by simp)]; exact hB
      obtain ⟨b, hb, cells, tb, fr, he, hrw, hcs⟩ := hr.blk i B hBh
      obtain ⟨rfl, rfl, hle⟩ := hrw d2
      obtain ⟨cells', tb', fr', he', hszb⟩ := hr.size i B b hBh d2 hb
      rw [he] at he'
      cases he'
      rw [hρ] at hvx
      generalize hX : a.eval x = X at hvx
      obtain ⟨S1, S2⟩ := addSegs_spec B.segs cs
      have hS1 : segsSize (addSegs B.segs cs) = (len + m) * inf.size := by
        rw [S1, c5, Nat.add_mul, ← hBs]; rfl
      have hnn : μ n = none := hn n (by simp)
      have hni : n ≠ i := by rintro rfl; rw [hb] at hnn; cases hnn
      cases hvx with
      | slice hb' _ _ _ cap' hc hz2 =>
        rw [hb] at hb'
        obtain rfl : b = _ := by simpa using hb'
        have hroomy : 0 + cap' * inf.size ≤ cells.size := by
          rcases hz2 with hz2 | hz2
          · omega
          · rw [hszb]; exact hz2
        rw [Nat.zero_add] at hroomy
        by_cases hroom : len + m ≤ cap'
        · -- there is room
          have hfit : len * inf.size + rs.length ≤ cells.size := by
            rw [hlr, ← Nat.add_mul]
            exact Nat.le_trans (Nat.mul_le_mul_right _ hroom) hroomy
          have hrun := run_append_room_src w tx ty o.type e inf hux hi b 0 len cap' (a.eval y) m rs hsrc hroom
            (fun j hj => by
              rw [Nat.zero_add, cell_of he (Array.getElem?_eq_getElem (by omega : len * inf.size + j < cells.size))]; rfl)
            (fun j hj => by unfold World.frozen?; rw [he]; simp)
          rw [← hX] at hrun
          have hrun := hexec a w _ _ hrun
          rw [Nat.zero_add, putCells_eq] at hrun
          obtain ⟨ds, p1, p2, p3, p4, p5, p6, p7, p8, p9⟩ := putCells_heap b rs (len * inf.size) w cells B.ty he hfit
          obtain ⟨hr1, hk1⟩ := hr.spare (vs := rs) hBh d2 hb (by rw [hBs]; exact Nat.le_refl _) he hfit
          obtain ⟨hle2, hr2, hk2⟩ := hr1.more (j := n) (B := { segs := addSegs B.segs cs, ty := e, ro := false }) hBh d2 hb hnn (fun μ' hl => by
            rw [p1]
            refine ⟨ds, B.ty, (0, 0), rfl, fun _ => ⟨d3, rfl, ?_⟩, fun off v hv => ?_⟩
            · simp only [Blk.size, hS1, p2]
              exact Nat.le_trans (Nat.mul_le_mul_right _ hroom) hroomy
            · have hBz : segsSize B.segs = len * inf.size := hBs
              rcases S2 off v hv with ⟨g1, g2⟩ | ⟨g1, g2⟩
              · obtain ⟨y, hy1, hy2⟩ := hcs off v g2
                exact ⟨y, by rw [p3 off (by omega)]; exact hy1, hy2.mono hl⟩
              · obtain ⟨y, hy1, hy2⟩ := (hrs.mono hl).get _ v g2
                have hlt := (List.getElem?_eq_some_iff.1 hy1).1
                refine ⟨y, ?_, hy2⟩
                rw [hBz] at hlt hy1 g1
                rw [show off = len * inf.size + (off - len * inf.size) by omega, p4 _ hlt]
                simpa using hy1) rfl
          refine wp_of_value hrun (hk _ _ _ hle2 ?_ hr2 ?_ (hk1.trans hk2))
          · intro k hk'
            have : k ≠ n := by simpa using hk'
            simp [this]
          · exact .slice (by simp) 0 (len + m) inf.size cap' hroom (.inr (by rw [Nat.zero_add]; simp only; rw [← hszb]; exact hroomy))
        · -- there is none
          have hall : ∃ olds : List Value, olds.length = len * inf.size ∧ (∀ (j : Nat) (v : Value), olds[j]? = some v → cells[j]? = some v) ∧ ∀ (j : Nat), j < len * inf.size → olds[j]? = cells[j]? := by
            refine ⟨cells.toList.take (len * inf.size), ?_, ?_, ?_⟩
            · rw [List.length_take]
              have : len * inf.size ≤ cells.size := by rw [← hBs]; exact hle
              simp; omega
            · intro j v hj
              rw [List.getElem?_take] at hj
              split at hj
              · simpa using hj
              · cases hj
            · intro j hj
              rw [List.getElem?_take, if_pos hj]
              simp
          obtain ⟨olds, ol, og, og2⟩ := hall
          have hold : (Builtin.firstCells inf.size len (.slice (some ⟨b, 0, none⟩) len cap')).run P w.drew = .ok olds.toArray w.drew :=
            run_firstCells_some w.drew inf.size len ⟨b, 0, none⟩ len cap' olds ol (fun j v hj => by rw [at_add, Nat.zero_add]; exact cell_of (w := w.drew) he (og j v hj))
          have hrun := run_append_grow_src w tx ty o.type e inf z hux hi hz (some ⟨b, 0, none⟩) len cap' olds hold (a.eval y) m rs hsrc (by omega) (by omega)
            (growslice_fits (by omega) (by
              have : (len + m) * inf.bytes ≤ 1048576 * 1048576 := Nat.mul_le_mul hneed c2
              omega))
          rw [← hX] at hrun
          have hrun := hexec a w _ _ hrun
          have hge := grownCap_ge w (len + m) cap' e
          obtain ⟨hr1, hk1⟩ := hr.del i
          have hall : (olds ++ rs).length = (len + m) * inf.size := by rw [List.length_append, ol, hlr, Nat.add_mul]
          obtain ⟨μ', q1, q2, q3, q4, q5⟩ := grown (upd1 h (i, .del)) μ w (addSegs B.segs cs) (olds ++ rs) [] (len + m) (grownCap w (len + m) cap' e) hall hge (by rw [hS1, hall]) (fun μ' hl o v hv => by
            have hBz : segsSize B.segs = len * inf.size := hBs
            rcases S2 o v hv with ⟨g1, g2⟩ | ⟨g1, g2⟩
            · obtain ⟨y, hy1, hy2⟩ := hcs o v g2
              exact ⟨y, by rw [List.getElem?_append_left (by omega), og2 o (by omega)]; exact hy1, hy2.mono hl⟩
            · obtain ⟨y, hy1, hy2⟩ := (hrs.mono hl).get _ v g2
              exact ⟨y, by rw [List.getElem?_append_right (by omega), ol, ← hBz]; exact hy1, hy2⟩) (hr1.heap_eq rfl) hnn
          exact wp_of_value hrun (hk μ' _ _ q1 (fun k hk' => q2 k (by simpa using hk')) q3 q4 (hk1.trans q5))
    · simp at hx
  · simp at hx
end Go.Proofs.YtgpcfjokmonlgaaDoor.VX
namespace Go.Proofs.YtgpcfjokmonlgaaDoor.VX
open Go
set_option linter.unusedSimpArgs false
set_option linter.unusedVariables false
theorem xop0_ok {P : Program} {ρ : Operand → Value} {H : HF} {n : Nat} {hs : List Hint} {o : Oper} {out : Out} (hG : P.globals.size ≤ 1000) (hx : xop0 P ρ H n hs o = some out) (hob : ∀ q ∈ out.ob, q) (h : HF)
    (hrd : ∀ i ∈ out.rd, h i = H i) (hsh : ∀ i ∈ out.sh, SameShape (h i) (H i)) : OpSpec P o ρ h out := by
  by_cases hcall : ∃ c, o.op = .call c
  · obtain ⟨c, ho⟩ := hcall
    unfold xop0 at hx
    simp only [ho] at hx
    split at hx
    · rename_i f hf
      split at hx
      · rename_i g fs cs hρ
        refine xcallA_ok hG hx hob hrd fun μ a w hxs => ?_
        have hv := hxs f (by rw [ho]; simp [Op.operands, Call.operands, hf])
        have hargs : VRels μ (c.args.toList.map ρ) (c.args.toList.map a.eval) := args_rel _ fun x hx => hxs x (by rw [ho]; simp only [Op.operands, Call.operands, Array.mem_append]; exact .inr (by simpa using hx))
        rw [hρ] at hv
        have hex : ∀ fs' cs' : List Value, a.eval f = .func (.func g) ⟨fs'⟩ ⟨cs'⟩ → (execOp a.eval o).run P w = (callFunc g ⟨fs' ++ c.args.toList.map a.eval ++ cs'⟩).run P w := by
          intro fs' cs' he
          unfold execOp
          simp only [ho, resolve, hf, he, Deferred.ofValue, Sem.run_bind, Sem.run_pure, Result.andThen_ok, invoke]
          congr 2
          apply Array.ext'
          simp
        revert hv hex
        generalize a.eval f = X
        intro hv hex
        cases hv with
        | func fn h1 h2 => exact ⟨_, (h1.append hargs).append h2, hex _ _ rfl⟩
      · simp at hx
    · rename_i hf
      split at hx
      · rename_i t x hat hargs
        have key : ∀ v, (∀ (μ : Mu) (a : Act) (w : World), VRel μ (ρ x) (a.eval x) → (Builtin.len_ c.argTypes o.type (c.args.map a.eval)).run P w = .ok v w ∧ VRel μ v v) → some (VX.silent v n hs []) = some out → OpSpec P o ρ h out := by
          intro v hv he
          simp only [Option.some.injEq] at he; subst he
          refine .silent fun μ a w hg hxs => ?_
          obtain ⟨h1, h2⟩ := hv μ a w (hxs x (by rw [ho]; have hm : x ∈ c.args.toList := (by rw [hargs]; simp); simp only [Op.operands, Call.operands, hf]; simpa using hm))
          refine ⟨v, ?_, h2⟩
          unfold execOp
          simp only [ho, resolve, hf, Sem.run_bind, Sem.run_pure, Result.andThen_ok, invoke, builtin]
          rw [h1]
          rfl
        have harg0 : ∀ a : Act, (c.args.map a.eval)[0]? = some (a.eval x) := by
          intro a
          have : c.args.toList[0]? = some x := by rw [hargs]; rfl
          simp at this
          simp [this]
        split at hx
        · rename_i s hu hρ
          refine key _ (fun μ a w hv => ?_) hx
          rw [hρ] at hv
          refine ⟨?_, .int _ _⟩
          unfold Builtin.len_
          simp only [hat, harg0 a]
          revert hv; generalize a.eval x = X; intro hv; cases hv
          simp [underlying_run hu, goInt]
        · rename_i m e hu
          refine key _ (fun μ a w hv => ⟨?_, .int _ _⟩) hx
          unfold Builtin.len_
          simp only [hat, harg0 a]
          simp [underlying_run hu, goInt]
        · rename_i e sl m cap hu hρ
          refine key _ (fun μ a w hv => ?_) hx
          rw [hρ] at hv
          refine ⟨?_, .int _ _⟩
          unfold Builtin.len_
          simp only [hat, harg0 a]
          revert hv; generalize a.eval x = X; intro hv; cases hv <;> simp [underlying_run hu, goInt]
        · simp at hx
      · simp at hx
    · simp at hx
  · exact xop0_quiet hx hob h hrd hsh fun c hc => hcall ⟨c, hc⟩
theorem xopE_ok {P : Program} {ρ : Operand → Value} {H : HF} {n : Nat} {hs : List Hint} {o : Oper} {out : Out} (hx : xopE P ρ H n hs o = some out) (hob : ∀ q ∈ out.ob, q) (h : HF) (hrd : ∀ i ∈ out.rd, h i = H i) : OpSpec P o ρ h out := by
  unfold xopE at hx
  split at hx
  · rename_i t p ho
    obtain ⟨h1, h2, h3⟩ := xloadE_ok hx hob hrd
    refine .quiet h1 h2 fun μ a w hg hxs hr => ?_
    obtain ⟨rv, hrun, hv⟩ := h3 hr (hxs p (by rw [ho]; simp [Op.operands]))
    refine ⟨rv, ?_, hv⟩
    unfold execOp
    simp only [ho, Sem.run_bind, hrun, Result.andThen_ok, Sem.run_pure]
  · rename_i s p f ho
    obtain ⟨h1, h2, h3⟩ := xfieldE_ok hx
    refine .quiet h1 h2 fun μ a w hg hxs hr => ?_
    obtain ⟨rv, hrun, hv⟩ := h3 (w := w) (hxs p (by rw [ho]; simp [Op.operands]))
    refine ⟨rv, ?_, hv⟩
    unfold execOp
    simp only [ho, Sem.run_bind, hrun, Result.andThen_ok, Sem.run_pure]
  · rename_i t x ix ho
    obtain ⟨h1, h2, h3⟩ := xatE_ok hx hob
    refine .quiet h1 h2 fun μ a w hg hxs hr => ?_
    obtain ⟨rv, hrun, hv⟩ := h3 (w := w) (hxs x (by rw [ho]; simp [Op.operands])) (hxs ix (by rw [ho]; simp [Op.operands]))
    refine ⟨rv, ?_, hv⟩
    unfold execOp
    simp only [ho, Sem.run_bind, hrun, Result.andThen_ok, Sem.run_pure]
  · rename_i t x low high max ho
    exact xslice_ok hx hob ho
  · rename_i t parts ho
    cases hp : parts.toList.isEmpty <;> rw [hp] at hx
    · simp at hx
    · exact xempty_ok hx ho (by simpa using hp)
  · rename_i c ho
    have two : ∀ (x y : Operand), c.args.toList = [x, y] → ∀ a : Act, c.args.map a.eval = #[a.eval x, a.eval y] := by
      intro x y hl a
      apply Array.ext'
      simp [hl]
    have mem : ∀ (x y : Operand), c.args.toList = [x, y] → x ∈ c.args ∧ y ∈ c.args := by
      intro x y hl
      constructor
      · have : x ∈ c.args.toList := by rw [hl]; simp
        simpa using this
      · have : y ∈ c.args.toList := by rw [hl]; simp
        simpa using this
    split at hx
    · rename_i x y hf hl
      split at hx
      · rename_i k a k' b hxv hyv
        simp only [Option.some.injEq] at hx; subst hx
        refine .silent fun μ ac w hg hxs => ?_
        have hx1 := hxs x (by rw [ho]; simp [Op.operands, Call.operands, hf, (mem x y hl).1])
        have hy1 := hxs y (by rw [ho]; simp [Op.operands, Call.operands, hf, (mem x y hl).2])
        rw [hxv] at hx1
        rw [hyv] at hy1
        refine ⟨.int k (if b < a then b else a), ?_, .int _ _⟩
        unfold execOp
        simp only [ho, resolve, hf, Sem.run_bind, Sem.run_pure, Result.andThen_ok, invoke, builtin, two x y hl]
        revert hx1 hy1
        generalize ac.eval x = X
        generalize ac.eval y = Y
        intro hx1 hy1
        cases hx1; cases hy1
        rfl
      · simp at hx
    · rename_i x y hf hl
      split at hx
      · rename_i k a k' b hxv hyv
        simp only [Option.some.injEq] at hx; subst hx
        refine .silent fun μ ac w hg hxs => ?_
        have hx1 := hxs x (by rw [ho]; simp [Op.operands, Call.operands, hf, (mem x y hl).1])
        have hy1 := hxs y (by rw [ho]; simp [Op.operands, Call.operands, hf, (mem x y hl).2])
        rw [hxv] at hx1
        rw [hyv] at hy1
        refine ⟨.int k (if b > a then b else a), ?_, .int _ _⟩
        unfold execOp
        simp only [ho, resolve, hf, Sem.run_bind, Sem.run_pure, Result.andThen_ok, invoke, builtin, two x y hl]
        revert hx1 hy1
        generalize ac.eval x = X
        generalize ac.eval y = Y
        intro hx1 hy1
        cases hx1; cases hy1
        rfl
      · simp at hx
    · rename_i x hf hl
      split at hx
      · rename_i t ht
        obtain ⟨h1, h2, h3⟩ := xlenE_ok (ty := o.type) hx hob ht
        refine .quiet h1 h2 fun μ a w hg hxs hr => ?_
        have hm : x ∈ c.args := by
          have : x ∈ c.args.toList := by rw [hl]; simp
          simpa using this
        have harg0 : (c.args.map a.eval)[0]? = some (a.eval x) := by
          have : c.args.toList[0]? = some x := by rw [hl]; rfl
          simp at this
          simp [this]
        obtain ⟨rv, hrun, hv⟩ := h3 (w := w) (hxs x (by rw [ho]; simp [Op.operands, Call.operands, hf, hm])) harg0
        refine ⟨rv, ?_, hv⟩
        unfold execOp
        simp only [ho, resolve, hf, Sem.run_bind, Sem.run_pure, Result.andThen_ok, invoke, builtin, hrun]
      · simp at hx
    · rename_i hf
      exact xappend_ok hx hob hrd ho hf
    · simp at hx
  · simp at hx
theorem xopA_ok {P : Program} {ρ : Operand → Value} {H : HF} {n : Nat} {hs : List Hint} {o : Oper} {out : Out} (hG : P.globals.size ≤ 1000) (hx : xopA P ρ H n hs o = some out) (hob : ∀ q ∈ out.ob, q) (h : HF)
    (hrd : ∀ i ∈ out.rd, h i = H i) (hsh : ∀ i ∈ out.sh, SameShape (h i) (H i)) : OpSpec P o ρ h out := by
  unfold xopA at hx
  split at hx
  · rename_i out0 h0
    simp only [Option.some.injEq] at hx; subst hx
    exact xop0_ok hG h0 hob h hrd hsh
  · exact xopE_ok hx hob h hrd
theorem xop_ok {P : Program} {ρ : Operand → Value} {H : HF} {n : Nat} {hs : List Hint} {o : Oper} {out : Out} (hG : P.globals.size ≤ 1000) (hx : xop P ρ H n hs o = some out) (hob : ∀ q ∈ out.ob, q) (h : HF)
    (hrd : ∀ i ∈ out.rd, h i = H i) (hsh : ∀ i ∈ out.sh, SameShape (h i) (H i)) : OpSpec P o ρ h out := by
  unfold xop at hx
  split at hx
  · rename_i d w hs'
    cases hd : dstIs o.dst d <;> rw [hd] at hx
    · exact xopA_ok hG hx hob h hrd hsh
    · simp only [cond_true] at hx
      cases h0 : xopA P ρ H n hs' o with
      | none => simp [h0] at hx
      | some out0 =>
        simp only [h0, Option.map_some, Option.some.injEq] at hx
        subst hx
        have hv : out0.v = w := hob _ (by simp)
        have hs0 := xopA_ok hG h0 (fun q hq => hob q (by simp [hq])) h hrd hsh
        intro μ a w' hg hxs hr hn K Q hk
        exact hs0 μ a w' hg hxs hr hn K Q fun μ' w1 rv h1 h2 h3 h4 h5 => hk μ' w1 rv h1 h2 h3 (by rw [hv] at h4; exact h4) h5
  · exact xopA_ok hG hx hob h hrd hsh
def tput (T : Tm) (d : Option Tmp) (v : Value) : Tm :=
  match d with
  | some d => (d, v) :: T
  | none => T
def TRel (N : Nat) (μ : Mu) (T : Nat → Value) (tmps : Array Value) : Prop := tmps.size = N ∧ ∀ t, VRel μ (T t) (tmps.getD t undef)
theorem TRel.mono {N : Nat} {μ μ' : Mu} {T : Nat → Value} {tmps : Array Value} (h : μ.le μ') (r : TRel N μ T tmps) : TRel N μ' T tmps := ⟨r.1, fun t => (r.2 t).mono h⟩
def tupd (T : Nat → Value) (d : Option Tmp) (v : Value) : Nat → Value := fun t =>
  match d with
  | some d => bif Nat.beq t d then v else T t
  | none => T t
theorem tget_tput (T : Tm) (d : Option Tmp) (v : Value) : tget (tput T d v) = tupd (tget T) d v := by
  funext t
  cases d with
  | none => rfl
  | some d => simp [tput, tget, tupd]
theorem TRel.put {N : Nat} {μ : Mu} {T : Nat → Value} {a : Act} (r : TRel N μ T a.tmps) {d : Option Tmp} {v rv : Value} (hd : ∀ x, d = some x → x < N) (hv : VRel μ v rv) : TRel N μ (tupd T d v) (a.put d rv).tmps := by
  cases d with
  | none => exact r
  | some d =>
    have hlt := hd d rfl
    refine ⟨by simpa [Act.put] using r.1, fun t => ?_⟩
    simp only [tupd, Act.put]
    cases e : Nat.beq t d
    · simp only [cond_false]
      have hne := beq_ff e
      have := r.2 t
      rw [Array.getD_eq_getD_getElem?] at this ⊢
      rw [Array.getElem?_setIfInBounds_ne (fun h => hne h.symm)]
      exact this
    · have := beq_tt e
      subst this
      simp only [cond_true]
      rw [Array.getD_eq_getD_getElem?]
      have : t < a.tmps.size := by rw [r.1]; exact hlt
      simp [this]
      exact hv
theorem put_defers (a : Act) (d : Option Tmp) (v : Value) : (a.put d v).defers = a.defers := by cases d <;> rfl
theorem ev_rel {P : Program} {N : Nat} {μ : Mu} {T : Tm} {a : Act} (hg : Gl P μ) (r : TRel N μ (tget T) a.tmps) (x : Operand) : VRel μ (ev P T x) (a.eval x) := by
  cases x with
  | tmp t => exact r.2 t
  | const v =>
    simp only [ev, Act.eval]
    cases h : flat v
    · exact .junk _
    · exact .of_flat h
  | global g =>
    simp only [ev, Act.eval]
    cases h : Nat.blt g P.globals.size
    · exact .junk _
    · exact .ptr (hg g (blt_tt h)) 0
  | func f => exact .func _ .nil .nil
structure Rec where
  o : Oper
  ran : Bool
  out : Out
def slotOf (ops : Array Oper) (k : Nat) : Option Tmp := (ops[k]?).bind (·.dst)
def xwant (ops : Array Oper) (T : Tm) (o : Oper) (hs : List Hint) : Option (Bool × List Hint × List Prop) :=
  match o.guard with
  | none => some (true, hs, [])
  | some (k, want) =>
    match slotOf ops k with
    | none => some (false, hs, [])
    | some d =>
      match tget T d with
      | .bool c => match takeB c hs with
        | some (b, hs, ob) => some (b == want, hs, ob)
        | none => none
      | .chan none => some (false, hs, [])
      | _ => none
def dstOk (N : Nat) : Option Tmp → Bool
  | some d => Nat.blt d N
  | none => true
def skipped (n : Nat) (hs : List Hint) (ob : List Prop) : Out := { v := .chan none, eff := [], rd := [], sh := [], new := [], n, hs, ob }
def xreg (P : Program) (N : Nat) (ops : Array Oper) : List Oper → Tm → Heap → Nat → List Hint → Option (List Rec × Tm × Heap × Nat × List Hint)
  | [], T, H, n, hs => some ([], T, H, n, hs)
  | o :: r, T, H, n, hs =>
    bif dstOk N o.dst then
      match xwant ops T o hs with
      | some (true, hs, ob) =>
        match xop P (ev P T) (lk H) n hs o with
        | some out =>
          match xreg P N ops r (tput T o.dst out.v) (happ out.eff H) out.n out.hs with
          | some (l, x) => some ({ o, ran := true, out := { out with ob := ob ++ out.ob } } :: l, x)
          | none => none
        | none => none
      | some (false, hs, ob) =>
        match xreg P N ops r (tput T o.dst (.chan none)) H n hs with
        | some (l, x) => some ({ o, ran := false, out := skipped n hs ob } :: l, x)
        | none => none
      | none => none
    else none
def foldT (D : Nat → Bool) : Nat → List Rec → (Nat → Value) → Nat → Value
  | _, [], T => T
  | k, r :: l, T => foldT D (k + 1) l (if D k then tupd T r.o.dst r.out.v else T)
def foldH (D : Nat → Bool) : Nat → List Rec → HF → HF
  | _, [], h => h
  | k, r :: l, h => foldH D (k + 1) l (if D k then app r.out.eff h else h)
theorem app_untouched : ∀ (e : List (Nat × Upd)) (h h' : HF) (i : Nat), (∀ x ∈ e, x.1 ≠ i) → h i = h' i → app e h i = h' i
  | [], h, h', i, _, hh => hh
  | x :: e, h, h', i, hx, hh => by
    simp only [app]
    refine app_untouched e _ h' i (fun y hy => hx y (by simp [hy])) ?_
    rw [upd1_other (fun hi => hx x (by simp) hi.symm)]
    exact hh
theorem app_agree : ∀ (e : List (Nat × Upd)) (h h' : HF) (i : Nat), h i = h' i → app e h i = app e h' i
  | [], h, h', i, hh => hh
  | x :: e, h, h', i, hh => by
    simp only [app]
    refine app_agree e _ _ i ?_
    unfold upd1
    cases Nat.beq i x.1
    · simpa using hh
    · cases x.2 <;> simp [hh]
theorem foldT_agree {D D' : Nat → Bool} (t : Nat) : ∀ (l : List Rec) (k : Nat) (T T' : Nat → Value), T t = T' t → (∀ j r, l[j]? = some r → D (k + j) ≠ D' (k + j) → r.o.dst ≠ some t) → foldT D k l T t = foldT D' k l T' t
  | [], k, T, T', h, _ => h
  | r :: l, k, T, T', h, hd => by
    simp only [foldT]
    refine foldT_agree t l (k + 1) _ _ ?_ (fun j r' hj hne => hd (j + 1) r' (by simpa using hj) (by rw [show k + (j + 1) = k + 1 + j by omega]; exact hne))
    by_cases he : D k = D' k
    · rw [he]
      split
      · unfold tupd
        cases r.o.dst with
        | none => exact h
        | some d => simp only; cases Nat.beq t d <;> simp [h]
      · exact h
    · have hne := hd 0 r (by simp) (by simpa using he)
      have hput : ∀ (T : Nat → Value) v, tupd T r.o.dst v t = T t := by
        intro T v
        unfold tupd
        cases hdst : r.o.dst with
        | none => rfl
        | some d =>
          have : t ≠ d := by rintro rfl; exact hne hdst
          simp [beq_ne this]
      split <;> split <;> simp [hput, h]
theorem foldH_agree {D D' : Nat → Bool} (i : Nat) : ∀ (l : List Rec) (k : Nat) (h h' : HF), h i = h' i → (∀ j r, l[j]? = some r → D (k + j) ≠ D' (k + j) → ∀ x ∈ r.out.eff, x.1 ≠ i) → foldH D k l h i = foldH D' k l h' i
  | [], k, h, h', e, _ => e
  | r :: l, k, h, h', e, hd => by
    simp only [foldH]
    refine foldH_agree i l (k + 1) _ _ ?_ (fun j r' hj hne => hd (j + 1) r' (by simpa using hj) (by rw [show k + (j + 1) = k + 1 + j by omega]; exact hne))
    by_cases he : D k = D' k
    · rw [he]
      split
      · exact app_agree _ _ _ _ e
      · exact e
    · have hne := hd 0 r (by simp) (by simpa using he)
      split <;> split
      · exact app_agree _ _ _ _ e
      · exact app_untouched _ _ _ _ hne e
      · exact (app_untouched _ _ _ _ hne e.symm).symm
      · exact e
def shapeOf (b : Option Blk) : Option (Bool × Nat) := b.map fun B => (B.ro, B.size)
theorem sameShape_of {a b : Option Blk} (h : shapeOf a = shapeOf b) : SameShape a b := by
  intro B hB
  subst hB
  cases a with
  | none => simp [shapeOf] at h
  | some A =>
    simp [shapeOf] at h
    exact ⟨A, rfl, h.1, h.2⟩
theorem upd1_shape {h h' : HF} {x : Nat × Upd} {i : Nat} (e : shapeOf (h i) = shapeOf (h' i)) : shapeOf (upd1 h x i) = shapeOf (upd1 h' x i) := by
  unfold upd1
  cases Nat.beq i x.1
  · simpa using e
  · cases x.2 with
    | blk B => rfl
    | del => rfl
    | cell o v =>
      simp only [cond_true]
      cases hi : h i <;> cases hi' : h' i <;> simp [shapeOf, hi, hi', Blk.set_size] at e ⊢
      · exact e
theorem upd1_cell_shape {h : HF} {x : Nat × Upd} {i : Nat} (hx : x.1 = i → ∃ o v, x.2 = .cell o v) : shapeOf (upd1 h x i) = shapeOf (h i) := by
  unfold upd1
  cases e : Nat.beq i x.1
  · rfl
  · obtain ⟨o, v, he⟩ := hx (beq_tt e).symm
    rw [he]
    simp only [cond_true]
    cases h i <;> simp [shapeOf, Blk.set_size, Blk.set]
    exact segsSet_size _ _ _
theorem app_shape : ∀ (e : List (Nat × Upd)) (h h' : HF) (i : Nat), shapeOf (h i) = shapeOf (h' i) → shapeOf (app e h i) = shapeOf (app e h' i)
  | [], h, h', i, hh => hh
  | x :: e, h, h', i, hh => by simp only [app]; exact app_shape e _ _ i (upd1_shape hh)
theorem app_cells_shape : ∀ (e : List (Nat × Upd)) (h h' : HF) (i : Nat), (∀ x ∈ e, x.1 = i → ∃ o v, x.2 = .cell o v) → shapeOf (h i) = shapeOf (h' i) → shapeOf (app e h i) = shapeOf (h' i)
  | [], h, h', i, _, hh => hh
  | x :: e, h, h', i, hx, hh => by
    simp only [app]
    exact app_cells_shape e _ h' i (fun y hy => hx y (by simp [hy])) (by rw [upd1_cell_shape (hx x (by simp))]; exact hh)
theorem foldH_shape {D D' : Nat → Bool} (i : Nat) : ∀ (l : List Rec) (k : Nat) (h h' : HF), shapeOf (h i) = shapeOf (h' i) → (∀ j r, l[j]? = some r → D (k + j) ≠ D' (k + j) → ∀ x ∈ r.out.eff, x.1 = i → ∃ o v, x.2 = .cell o v) →
    shapeOf (foldH D k l h i) = shapeOf (foldH D' k l h' i)
  | [], k, h, h', e, _ => e
  | r :: l, k, h, h', e, hd => by
    simp only [foldH]
    refine foldH_shape i l (k + 1) _ _ ?_ (fun j r' hj hne => hd (j + 1) r' (by simpa using hj) (by rw [show k + (j + 1) = k + 1 + j by omega]; exact hne))
    by_cases he : D k = D' k
    · rw [he]
      split
      · exact app_shape _ _ _ _ e
      · exact e
    · have hne := hd 0 r (by simp) (by simpa using he)
      split <;> split
      · exact app_shape _ _ _ _ e
      · exact app_cells_shape _ _ _ _ hne e
      · exact (app_cells_shape _ _ _ _ hne e.symm).symm
      · exact e
theorem Seg.set_comm (s : Seg) {o o' : Nat} (v v' : Value) (h : o ≠ o') : (s.set o v).set o' v' = (s.set o' v').set o v := by
  cases s with
  | one x =>
    simp only [Seg.set]
    cases e : Nat.beq o 0 <;> cases e' : Nat.beq o' 0 <;> simp [Seg.set, e, e']
    exact absurd ((beq_tt e).trans (beq_tt e').symm) h
  | ints k n a =>
    have gap : ∀ v o, Seg.set (.gap n) o v = .gap n := fun _ _ => rfl
    cases v with
    | int kv x =>
      cases v' with
      | int kv' x' =>
        simp only [Seg.set]
        cases e : k == kv <;> cases e' : k == kv' <;> simp [Seg.set, e, e']
        funext j
        simp only [upd]
        cases h1 : Nat.beq j o' <;> cases h2 : Nat.beq j o <;> simp
        exact absurd ((beq_tt h2).symm.trans (beq_tt h1)) h
      | _ => simp only [Seg.set]; cases k == kv <;> rfl
    | _ =>
      cases v' with
      | int kv' x' => simp only [Seg.set]; cases k == kv' <;> rfl
      | _ => rfl
  | bools n a =>
    cases v with
    | bool x =>
      cases v' with
      | bool x' =>
        simp only [Seg.set, Seg.bools.injEq, true_and]
        funext j
        simp only [upd]
        cases h1 : Nat.beq j o' <;> cases h2 : Nat.beq j o <;> simp
        exact absurd ((beq_tt h2).symm.trans (beq_tt h1)) h
      | _ => rfl
    | _ => cases v' <;> rfl
  | rows n sz g => rfl
  | gap n => rfl
theorem segsSet_comm : ∀ (l : List Seg) {o o' : Nat} (v v' : Value), o ≠ o' → segsSet (segsSet l o v) o' v' = segsSet (segsSet l o' v') o v
  | [], o, o', v, v', h => rfl
  | s :: r, o, o', v, v', h => by
    simp only [segsSet]
    cases e : Nat.blt o s.size <;> cases e' : Nat.blt o' s.size <;> simp only [cond_true, cond_false, segsSet, Seg.set_size, e, e']
    · have := blt_ff e; have := blt_ff e'
      rw [segsSet_comm r v v' (by omega)]
    · rw [Seg.set_comm s v v' h]
def updFree (x y : Nat × Upd) : Bool :=
  !Nat.beq x.1 y.1 || (match x.2, y.2 with | .cell o _, .cell o' _ => !Nat.beq o o' | _, _ => false)
theorem upd1_comm {h : HF} {x y : Nat × Upd} (hf : updFree x y = true) : upd1 (upd1 h x) y = upd1 (upd1 h y) x := by
  funext j
  obtain ⟨i, u⟩ := x
  obtain ⟨i', u'⟩ := y
  simp only [updFree, Bool.or_eq_true, Bool.not_eq_true'] at hf
  by_cases hii : i = i'
  · subst hii
    rcases hf with hf | hf
    · rw [beq_self] at hf; cases hf
    · cases u with
      | blk B => simp at hf
      | del => simp at hf
      | cell o v =>
        cases u' with
        | blk B => simp at hf
        | del => simp at hf
        | cell o' v' =>
          simp only [Bool.not_eq_true'] at hf
          have hne := beq_ff hf
          by_cases hj : j = i
          · subst hj
            simp only [upd1_cell, Option.map_map]
            cases h j with
            | none => rfl
            | some B =>
              simp only [Option.map_some, Function.comp, Blk.set, Option.some.injEq, Blk.mk.injEq, and_true]
              exact segsSet_comm _ _ _ hne
          · rw [upd1_other hj, upd1_other hj, upd1_other hj, upd1_other hj]
  · by_cases hj : j = i
    · subst hj
      rw [upd1_other (x := (i', u')) hii]
      unfold upd1
      simp only [beq_self, cond_true, beq_ne hii, cond_false]
    · by_cases hj' : j = i'
      · subst hj'
        rw [upd1_other (x := (i, u)) hj]
        unfold upd1
        simp only [beq_self, cond_true, beq_ne hj, cond_false]
      · rw [upd1_other hj', upd1_other hj, upd1_other hj, upd1_other hj']
theorem app_upd1_comm : ∀ (e : List (Nat × Upd)) (h : HF) (x : Nat × Upd), (∀ y ∈ e, updFree x y = true) → app e (upd1 h x) = upd1 (app e h) x
  | [], h, x, _ => rfl
  | y :: e, h, x, hf => by
    simp only [app]
    rw [upd1_comm (hf y (by simp)), app_upd1_comm e _ x (fun z hz => hf z (by simp [hz]))]
theorem app_comm : ∀ (e e' : List (Nat × Upd)) (h : HF), (∀ x ∈ e', ∀ y ∈ e, updFree x y = true) → app e (app e' h) = app e' (app e h)
  | e, [], h, _ => rfl
  | e, x :: e', h, hf => by
    simp only [app]
    rw [app_comm e e' _ (fun z hz => hf z (by simp [hz])), app_upd1_comm e h x (hf x (by simp))]
theorem foldH_app {D : Nat → Bool} (e : List (Nat × Upd)) : ∀ (l : List Rec) (k : Nat) (h : HF), (∀ j r, l[j]? = some r → D (k + j) = true → ∀ x ∈ e, ∀ y ∈ r.out.eff, updFree x y = true) →
    foldH D k l (app e h) = app e (foldH D k l h)
  | [], k, h, _ => rfl
  | r :: l, k, h, hf => by
    simp only [foldH]
    have ih := fun h => foldH_app (D := D) e l (k + 1) h (fun j r' hj hd => hf (j + 1) r' (by simpa using hj) (by rw [show k + (j + 1) = k + 1 + j by omega]; exact hd))
    split
    · rename_i hk
      rw [app_comm _ _ _ (fun x hx y hy => hf 0 r (by simp) (by simpa using hk) x hx y hy)]
      exact ih _
    · exact ih _
theorem foldT_put {D : Nat → Bool} (d : Option Tmp) (v : Value) : ∀ (l : List Rec) (k : Nat) (T : Nat → Value), (∀ j r, l[j]? = some r → D (k + j) = true → ∀ x, d = some x → r.o.dst ≠ some x) →
    foldT D k l (tupd T d v) = tupd (foldT D k l T) d v
  | [], k, T, _ => rfl
  | r :: l, k, T, hf => by
    simp only [foldT]
    have ih := fun T => foldT_put (D := D) d v l (k + 1) T (fun j r' hj hd => hf (j + 1) r' (by simpa using hj) (by rw [show k + (j + 1) = k + 1 + j by omega]; exact hd))
    split
    · rename_i hk
      have e : tupd (tupd T d v) r.o.dst r.out.v = tupd (tupd T r.o.dst r.out.v) d v := by
        funext t
        unfold tupd
        cases hd : d with
        | none => rfl
        | some x =>
          cases hr : r.o.dst with
          | none => rfl
          | some y =>
            have hne : y ≠ x := by rintro rfl; exact hf 0 r (by simp) (by simpa using hk) y hd hr
            simp only
            cases h1 : Nat.beq t x <;> cases h2 : Nat.beq t y <;> simp
            exact absurd ((beq_tt h2).symm.trans (beq_tt h1)) hne
      rw [e]
      exact ih _
    · exact ih _
def plus (D : Nat → Bool) (i : Nat) : Nat → Bool := fun k => D k || Nat.beq k i
theorem foldT_plus {D : Nat → Bool} {i : Nat} (hD : D i = false) : ∀ (l : List Rec) (k : Nat) (T : Nat → Value) (r : Rec), l[i - k]? = some r → k ≤ i →
    (∀ j r', l[j]? = some r' → i < k + j → D (k + j) = true → ∀ x, r.o.dst = some x → r'.o.dst ≠ some x) → foldT (plus D i) k l T = tupd (foldT D k l T) r.o.dst r.out.v
  | [], k, T, r, hr, _, _ => by simp at hr
  | r0 :: l, k, T, r, hr, hk, hf => by
    simp only [foldT]
    by_cases hki : k = i
    · subst hki
      simp only [Nat.sub_self, List.getElem?_cons_zero, Option.some.injEq] at hr
      subst hr
      have h1 : plus D k k = true := by simp [plus, beq_self]
      rw [h1, hD]
      simp only [if_true, Bool.false_eq_true, if_false]
      have hsame : ∀ (l : List Rec) (m : Nat) (T : Nat → Value), k < m → foldT (plus D k) m l T = foldT D m l T := by
        intro l
        induction l with
        | nil => intro m T _; rfl
        | cons a l ih =>
          intro m T hm
          have : plus D k m = D m := by simp [plus, beq_ne (show m ≠ k by omega)]
          simp only [foldT, this]
          exact ih (m + 1) _ (by omega)
      rw [hsame l (k + 1) _ (by omega)]
      exact foldT_put r0.o.dst r0.out.v l (k + 1) T (fun j r' hj hd x hx => hf (j + 1) r' (by simpa using hj) (by omega) (by rw [show k + (j + 1) = k + 1 + j by omega]; exact hd) x hx)
    · have : plus D i k = D k := by simp [plus, beq_ne hki]
      rw [this]
      refine foldT_plus hD l (k + 1) _ r ?_ (by omega) (fun j r' hj hlt hd => hf (j + 1) r' (by simpa using hj) (by omega) (by rw [show k + (j + 1) = k + 1 + j by omega]; exact hd))
      rw [show i - k = (i - (k + 1)) + 1 by omega] at hr
      simpa using hr
theorem foldH_plus {D : Nat → Bool} {i : Nat} (hD : D i = false) : ∀ (l : List Rec) (k : Nat) (h : HF) (r : Rec), l[i - k]? = some r → k ≤ i →
    (∀ j r', l[j]? = some r' → i < k + j → D (k + j) = true → ∀ x ∈ r.out.eff, ∀ y ∈ r'.out.eff, updFree x y = true) → foldH (plus D i) k l h = app r.out.eff (foldH D k l h)
  | [], k, h, r, hr, _, _ => by simp at hr
  | r0 :: l, k, h, r, hr, hk, hf => by
    simp only [foldH]
    by_cases hki : k = i
    · subst hki
      simp only [Nat.sub_self, List.getElem?_cons_zero, Option.some.injEq] at hr
      subst hr
      have h1 : plus D k k = true := by simp [plus, beq_self]
      rw [h1, hD]
      simp only [if_true, Bool.false_eq_true, if_false]
      have hsame : ∀ (l : List Rec) (m : Nat) (h : HF), k < m → foldH (plus D k) m l h = foldH D m l h := by
        intro l
        induction l with
        | nil => intro m h _; rfl
        | cons a l ih =>
          intro m h hm
          have : plus D k m = D m := by simp [plus, beq_ne (show m ≠ k by omega)]
          simp only [foldH, this]
          exact ih (m + 1) _ (by omega)
      rw [hsame l (k + 1) _ (by omega)]
      exact foldH_app r0.out.eff l (k + 1) h (fun j r' hj hd => hf (j + 1) r' (by simpa using hj) (by omega) (by rw [show k + (j + 1) = k + 1 + j by omega]; exact hd))
    · have : plus D i k = D k := by simp [plus, beq_ne hki]
      rw [this]
      refine foldH_plus hD l (k + 1) _ r ?_ (by omega) (fun j r' hj hlt hd => hf (j + 1) r' (by simpa using hj) (by omega) (by rw [show k + (j + 1) = k + 1 + j by omega]; exact hd))
      rw [show i - k = (i - (k + 1)) + 1 by omega] at hr
      simpa using hr
end Go.Proofs.YtgpcfjokmonlgaaDoor.VX
namespace Go.Proofs.YtgpcfjokmonlgaaDoor.VX
open Go
set_option linter.unusedSimpArgs false
set_option linter.unusedVariables false
theorem newOk_lt : ∀ {τ σ : List (Nat × Nat)} {n0 n : Nat}, newOk τ σ n0 n = true → ∀ i ∈ τ.map (·.2), n ≤ i ∧ i < n + τ.length
  | [], σ, n0, n, _, i, hm => by simp at hm
  | (j, k) :: r, σ, n0, n, h, i, hm => by
    simp only [newOk, Bool.and_eq_true] at h
    simp only [List.map_cons, List.mem_cons] at hm
    simp only [List.length_cons]
    rcases hm with rfl | hm
    · have := beq_tt h.1.1.1
      omega
    · have := newOk_lt h.2 i hm
      omega
theorem xcall_new {P : Program} {H : HF} {n : Nat} {g : FuncId} {args : List Value} {hs : List Hint} {out : Out} (h : xcall P H n g args hs = some out) : n ≤ out.n ∧ ∀ i ∈ out.new, n ≤ i ∧ i < out.n := by
  unfold xcall at h
  split at h
  · rename_i σ τ n0 v post hs'
    cases hsub : subHeap H σ σ with
    | none => simp [hsub] at h
    | some h0 =>
    simp only [hsub] at h
    cases hpe : postEff (renBack σ τ) post with
    | none => simp [hpe] at h
    | some e =>
    simp only [hpe] at h
    cases hc : (swapOk σ n0 && newOk τ σ n0 n && nodupIds post && Nat.ble 1000 n0) <;> rw [hc] at h
    · simp at h
    simp only [cond_true, Option.some.injEq] at h
    subst h
    simp only [Bool.and_eq_true] at hc
    exact ⟨by simp, newOk_lt hc.1.1.2⟩
  · simp at h
theorem xcallA_new {P : Program} {H : HF} {n : Nat} {g : FuncId} {args : List Value} {hs : List Hint} {out : Out} (h : xcallA P H n g args hs = some out) : n ≤ out.n ∧ ∀ i ∈ out.new, n ≤ i ∧ i < out.n := by
  unfold xcallA at h
  split at h
  · split at h
    · rename_i out' hx
      cases hc : lendOk _ out'.eff <;> rw [hc] at h
      · simp at h
      · simp at h; subst h; exact xcall_new hx
    · simp at h
  · exact xcall_new h
theorem xop0_new {P : Program} {ρ : Operand → Value} {H : HF} {n : Nat} {hs : List Hint} {o : Oper} {out : Out} (h : xop0 P ρ H n hs o = some out) : n ≤ out.n ∧ ∀ i ∈ out.new, n ≤ i ∧ i < out.n := by
  have hsil : ∀ v hs ob, VX.silent v n hs ob = out → n ≤ out.n ∧ ∀ i ∈ out.new, n ≤ i ∧ i < out.n := by
    intro v hs ob he; subst he; exact ⟨Nat.le_refl _, by simp [VX.silent]⟩
  have hnew : ∀ B v hs ob, VX.newBlk n B v hs ob = out → n ≤ out.n ∧ ∀ i ∈ out.new, n ≤ i ∧ i < out.n := by
    intro B v hs ob he; subst he; exact ⟨by simp [VX.newBlk], by simp [VX.newBlk]⟩
  unfold xop0 at h
  split at h
  case h_20 =>
    split at h
    · split at h
      · exact xcallA_new h
      · simp at h
    · repeat' split at h
      all_goals first | (simp at h; done) | (simp only [Option.some.injEq] at h; exact hsil _ _ _ h)
    · simp at h
  case h_6 =>
    split at h
    · simp only [Option.some.injEq] at h; subst h; exact ⟨Nat.le_refl _, by simp⟩
    · simp at h
  case h_7 =>
    split at h
    · simp only [Option.some.injEq] at h; subst h; exact ⟨Nat.le_refl _, by simp⟩
    · simp only [Option.some.injEq] at h; subst h; exact ⟨Nat.le_refl _, by simp⟩
    · simp at h
  case h_4 =>
    split at h
    · split at h
      · cases hf : flat _ <;> rw [hf] at h
        · simp at h
        · simp only [cond_true] at h
          split at h
          · cases hm : matchSegs _ _ <;> rw [hm] at h
            · simp at h
            · simp only [cond_true, Option.some.injEq] at h; exact hnew _ _ _ _ h
          · simp only [Option.some.injEq] at h; exact hnew _ _ _ _ h
      · simp at h
    · simp at h
  case h_5 x _ =>
    cases hst : (ρ x).cells.toList.all storable <;> rw [hst] at h
    · simp at h
    · simp only [cond_true] at h
      split at h
      · rename_i g hs'
        cases hgr : groupSegs g (ρ x).cells.toList with
        | none => simp [hgr] at h
        | some l => simp only [hgr, Option.map_some, Option.some.injEq] at h; exact hnew _ _ _ _ h
      · simp only [Option.some.injEq] at h; exact hnew _ _ _ _ h
  case h_18 t len parts ho =>
    split at h
    · split at h
      · rename_i inf hi
        split at h
        · rename_i z hz
          cases hc : (flat z && Nat.beq z.cells.toList.length inf.size && Nat.ble 1 inf.size && Nat.ble ((len + 1) * inf.size) 16777216) <;> rw [hc] at h
          · simp at h
          · simp only [cond_true] at h
            cases hl : layAll (fun i => some (i * inf.size, inf.size)) (parts.toList.map fun p => (p.1, ρ p.2)) (repeatCells z.cells.toList (len + 1)) with
            | none => simp [hl] at h
            | some l => simp only [hl, Option.map_some, Option.some.injEq] at h; exact hnew _ _ _ _ h
        · simp at h
      · simp at h
    · simp at h
  case h_17 t parts ho =>
    split at h
    · rename_i inf fields hi hu
      split at h
      · rename_i z pl hz hpl
        cases hf : flat z <;> rw [hf] at h
        · simp at h
        · simp only [cond_true] at h
          cases hl : layAll (fun i => pl[i]?) (parts.toList.map fun p => (p.1, ρ p.2)) z.cells.toList with
          | none => simp [hl] at h
          | some l => simp only [hl, Option.map_some, Option.some.injEq] at h; exact hsil _ _ _ h
      · simp at h
    · rename_i inf m e hi hu
      split at h
      · rename_i z sz hz hsz
        cases hf : flat z <;> rw [hf] at h
        · simp at h
        · simp only [cond_true] at h
          cases hl : layAll (fun i => some (i * sz, sz)) (parts.toList.map fun p => (p.1, ρ p.2)) z.cells.toList with
          | none => simp [hl] at h
          | some l => simp only [hl, Option.map_some, Option.some.injEq] at h; exact hsil _ _ _ h
      · simp at h
    · simp at h
  case h_15 t x ix ho =>
    split at h
    · rename_i k i len e cs hix hu hρ
      split at h
      · rename_i j hs' ha hsz
        cases hc : cs[j]? with
        | none => simp [hc] at h
        | some v => simp only [hc, Option.map_some, Option.some.injEq] at h; exact hsil _ _ _ h
      · split at h
        · rename_i k' z r
          cases hl : intsOf k' (.int k' z :: r) with
          | none => simp [hl] at h
          | some l => simp only [hl, Option.map_some, Option.some.injEq] at h; exact hsil _ _ _ h
        · simp at h
      · simp at h
    · simp only [Option.some.injEq] at h; exact hsil _ _ _ h
    · simp at h
  case h_10 op t x ho =>
    cases hu : xun op (ρ x) with
    | none => simp [hu] at h
    | some v => simp only [hu, Option.map_some, Option.some.injEq] at h; exact hsil _ _ _ h
  case h_11 src dst x ho =>
    split at h
    · cases hu : xconv P dst (ρ x) with
      | none => simp [hu] at h
      | some v => simp only [hu, Option.map_some, Option.some.injEq] at h; exact hsil _ _ _ h
    · simp at h
  case h_16 x i ho =>
    split at h
    · rename_i vs hρ
      cases hc : vs[i]? with
      | none => simp [hc] at h
      | some v => simp only [hc, Option.map_some, Option.some.injEq] at h; exact hsil _ _ _ h
    · simp at h
  case h_13 t x f ho =>
    split at h
    · rename_i cs fields hρ hu
      split at h
      · rename_i fd hfd
        split at h
        · simp only [Option.some.injEq] at h; exact hsil _ _ _ h
        · cases hc : cs[fd.offset]? with
          | none => simp [hc] at h
          | some v => simp only [hc, Option.map_some, Option.some.injEq] at h; exact hsil _ _ _ h
        · simp at h
      · simp at h
    · simp at h
  all_goals
    repeat' split at h
    all_goals first | (simp at h; done) | (simp only [Option.some.injEq] at h; exact hsil _ _ _ h)
theorem xopE_new {P : Program} {ρ : Operand → Value} {H : HF} {n : Nat} {hs : List Hint} {o : Oper} {out : Out} (h : xopE P ρ H n hs o = some out) : n ≤ out.n ∧ ∀ i ∈ out.new, n ≤ i ∧ i < out.n := by
  have hsil : ∀ v hs ob, VX.silent v n hs ob = out → n ≤ out.n ∧ ∀ i ∈ out.new, n ≤ i ∧ i < out.n := by
    intro v hs ob he; subst he; exact ⟨Nat.le_refl _, by simp [VX.silent]⟩
  have hnew : ∀ B v hs ob, VX.newBlk n B v hs ob = out → n ≤ out.n ∧ ∀ i ∈ out.new, n ≤ i ∧ i < out.n := by
    intro B v hs ob he; subst he; exact ⟨by simp [VX.newBlk], by simp [VX.newBlk]⟩
  have hmap : ∀ {α : Type} (q : Option α) (f : α → Value) (hs : List Hint) (ob : α → List Prop), (q.map fun v => VX.silent (f v) n hs (ob v)) = some out → n ≤ out.n ∧ ∀ i ∈ out.new, n ≤ i ∧ i < out.n := by
    intro α q f hs ob he
    cases q with
    | none => simp at he
    | some v => simp only [Option.map_some, Option.some.injEq] at he; exact hsil _ _ _ he
  have hbif : ∀ {c : Bool} {q : Out}, (bif c then some q else none) = some out → q = out := by
    intro c q he; cases c <;> simp at he; exact he
  unfold xopE at h
  split at h
  · unfold xloadE at h
    split at h
    · split at h
      · exact hsil _ _ _ (hbif h)
      · exact hmap _ (fun v => v) _ (fun _ => []) h
      · simp at h
    · split at h
      · simp only [Option.some.injEq] at h; subst h; exact ⟨Nat.le_refl _, by simp⟩
      · simp at h
    · split at h
      · split at h
        · rename_i k a rr _ _
          cases hns : intsOf k (.int k a :: rr) with
          | none => simp [hns] at h
          | some ns => simp only [hns, Option.map_some, Option.some.injEq] at h; subst h; exact ⟨Nat.le_refl _, by simp⟩
        · rename_i a rr _ _
          cases hns : boolsOf (.bool a :: rr) with
          | none => simp [hns] at h
          | some ns => simp only [hns, Option.map_some, Option.some.injEq] at h; subst h; exact ⟨Nat.le_refl _, by simp⟩
        · simp at h
      · simp at h
    · simp at h
  · unfold xfieldE at h
    repeat' split at h
    all_goals first | (simp at h; done) | (simp only [Option.some.injEq] at h; exact hsil _ _ _ h)
  · unfold xatE at h
    split at h
    · split at h
      · exact hsil _ _ _ (hbif h)
      · rename_i hs' _
        revert h
        generalize (Nat.beq _ 1 && Nat.beq _ 1) = c
        intro h
        cases c
        · simp at h
        · simp only [cond_true] at h
          split at h
          · rename_i k' a rr _
            cases hns : intsOf k' (.int k' a :: rr) with
            | none => simp [hns] at h
            | some ns => simp only [hns, Option.map_some, Option.some.injEq] at h; exact hsil _ _ _ h
          · simp at h
      · simp at h
    · simp at h
  · unfold xslice at h
    split at h <;> (try split at h) <;> (try split at h) <;> first | (simp at h; done) | exact hsil _ _ _ (hbif h) | (simp only [Option.some.injEq] at h; exact hsil _ _ _ h)
  · rename_i t parts ho
    cases hp : parts.toList.isEmpty <;> rw [hp] at h
    · simp at h
    · simp only [cond_true] at h
      unfold xempty at h
      split at h
      · split at h
        · simp only [Option.some.injEq] at h; exact hnew _ _ _ _ h
        · simp at h
      · simp at h
  · split at h
    · split at h
      · simp only [Option.some.injEq] at h; exact hsil _ _ _ h
      · simp at h
    · split at h
      · simp only [Option.some.injEq] at h; exact hsil _ _ _ h
      · simp at h
    · split at h
      · unfold xlenE at h
        split at h
        · exact hsil _ _ _ (hbif h)
        · simp at h
      · simp at h
    · have hone : ∀ q : Out, q.n = n + 1 → q.new = [n] → q = out → n ≤ out.n ∧ ∀ i ∈ out.new, n ≤ i ∧ i < out.n := by
        intro q h1 h2 he; subst he; rw [h1, h2]; exact ⟨by omega, by simp⟩
      have hbif2 : ∀ {c d : Bool} {q : Out}, (bif c then (bif d then some q else none) else none) = some out → q = out := by
        intro c d q he; cases c <;> cases d <;> simp at he; exact he
      unfold xappend at h
      repeat' split at h
      all_goals first | (simp at h; done) | exact hone _ rfl rfl (hbif h) | exact hone _ rfl rfl (hbif2 h)
    · simp at h
  · simp at h
theorem xopA_new {P : Program} {ρ : Operand → Value} {H : HF} {n : Nat} {hs : List Hint} {o : Oper} {out : Out} (h : xopA P ρ H n hs o = some out) : n ≤ out.n ∧ ∀ i ∈ out.new, n ≤ i ∧ i < out.n := by
  unfold xopA at h
  split at h
  · rename_i out0 h0
    simp only [Option.some.injEq] at h; subst h
    exact xop0_new h0
  · exact xopE_new h
theorem xop_new {P : Program} {ρ : Operand → Value} {H : HF} {n : Nat} {hs : List Hint} {o : Oper} {out : Out} (h : xop P ρ H n hs o = some out) : n ≤ out.n ∧ ∀ i ∈ out.new, n ≤ i ∧ i < out.n := by
  unfold xop at h
  split at h
  · rename_i d w hs'
    cases hd : dstIs o.dst d <;> rw [hd] at h
    · exact xopA_new h
    · simp only [cond_true] at h
      cases h0 : xopA P ρ H n hs' o with
      | none => simp [h0] at h
      | some out0 =>
        simp only [h0, Option.map_some, Option.some.injEq] at h
        subst h
        have hn := xopA_new h0
        exact hn
  · exact xopA_new h
structure RecOk (P : Program) (N : Nat) (ops : Array Oper) (T : Tm) (H : Heap) (r : Rec) : Prop where
  dst : ∀ d, r.o.dst = some d → d < N
  run : ∃ n hs hs1 ob1, xwant ops T r.o hs = some (r.ran, hs1, ob1) ∧ (r.ran = true → ∃ out, xop P (ev P T) (lk H) n hs1 r.o = some out ∧ r.out = { out with ob := ob1 ++ out.ob }) ∧ (r.ran = false → r.out = skipped n hs1 ob1)
theorem dstOk_spec {N : Nat} {d : Option Tmp} (h : dstOk N d = true) : ∀ x, d = some x → x < N := by
  intro x hx
  subst hx
  exact blt_tt h
theorem xreg_spec {P : Program} {N : Nat} {ops : Array Oper} : ∀ {l : List Oper} {T T' : Tm} {H H' : Heap} {n n' : Nat} {hs hs' : List Hint} {recs : List Rec}, xreg P N ops l T H n hs = some (recs, T', H', n', hs') →
    recs.map (·.o) = l ∧ n ≤ n' ∧ (∀ r ∈ recs, ∀ i ∈ r.out.new, n ≤ i ∧ i < n') ∧ (∀ (i j : Nat) (r r' : Rec), i < j → recs[i]? = some r → recs[j]? = some r' → ∀ x ∈ r.out.new, ∀ y ∈ r'.out.new, x < y) ∧
    ∀ k, tget T' = foldT (fun _ => true) k recs (tget T) ∧ lk H' = foldH (fun _ => true) k recs (lk H) ∧
      ∀ (i : Nat) (r : Rec), recs[i]? = some r → ∃ Ti Hi, tget Ti = foldT (fun j => Nat.blt j (k + i)) k recs (tget T) ∧ lk Hi = foldH (fun j => Nat.blt j (k + i)) k recs (lk H) ∧ RecOk P N ops Ti Hi r
  | [], T, T', H, H', n, n', hs, hs', recs, h => by
    simp only [xreg, Option.some.injEq, Prod.mk.injEq] at h
    obtain ⟨rfl, rfl, rfl, rfl, rfl⟩ := h
    exact ⟨rfl, Nat.le_refl _, by simp, by simp, fun k => ⟨rfl, rfl, by simp⟩⟩
  | o :: l, T, T', H, H', n, n', hs, hs', recs, h => by
    simp only [xreg] at h
    cases hd : dstOk N o.dst <;> rw [hd] at h
    · simp at h
    simp only [cond_true] at h
    have step : ∀ (r0 : Rec) (recs1 : List Rec) (v : Value) (e : List (Nat × Upd)) (n1 : Nat) (hs1 : List Hint), r0.o = o → r0.out.v = v → r0.out.eff = e → n ≤ n1 → (∀ i ∈ r0.out.new, n ≤ i ∧ i < n1) →
        xreg P N ops l (tput T o.dst v) (happ e H) n1 hs1 = some (recs1, T', H', n', hs') → recs = r0 :: recs1 → RecOk P N ops T H r0 →
        recs.map (·.o) = o :: l ∧ n ≤ n' ∧ (∀ r ∈ recs, ∀ i ∈ r.out.new, n ≤ i ∧ i < n') ∧ (∀ (i j : Nat) (r r' : Rec), i < j → recs[i]? = some r → recs[j]? = some r' → ∀ x ∈ r.out.new, ∀ y ∈ r'.out.new, x < y) ∧
        ∀ k, tget T' = foldT (fun _ => true) k recs (tget T) ∧ lk H' = foldH (fun _ => true) k recs (lk H) ∧
          ∀ (i : Nat) (r : Rec), recs[i]? = some r → ∃ Ti Hi, tget Ti = foldT (fun j => Nat.blt j (k + i)) k recs (tget T) ∧ lk Hi = foldH (fun j => Nat.blt j (k + i)) k recs (lk H) ∧ RecOk P N ops Ti Hi r := by
      intro r0 recs1 v e n1 hs1 ho hv he hn1 hnew hrest hrecs hok
      obtain ⟨h1, h2, h3, h4, h5⟩ := xreg_spec hrest
      subst hrecs
      refine ⟨by simp [ho, h1], by omega, ?_, ?_, ?_⟩
      · intro r hr i hi
        simp only [List.mem_cons] at hr
        rcases hr with rfl | hr
        · have := hnew i hi; omega
        · have := h3 r hr i hi; omega
      · intro i j r r' hij hi hj x hx y hy
        cases j with
        | zero => omega
        | succ j =>
          simp only [List.getElem?_cons_succ] at hj
          cases i with
          | zero =>
            simp only [List.getElem?_cons_zero, Option.some.injEq] at hi
            subst hi
            have := hnew x hx
            have := h3 r' (List.mem_of_getElem? hj) y hy
            omega
          | succ i =>
            simp only [List.getElem?_cons_succ] at hi
            exact h4 i j r r' (by omega) hi hj x hx y hy
      · intro k
        obtain ⟨a, b, c⟩ := h5 (k + 1)
        refine ⟨?_, ?_, ?_⟩
        · simp only [foldT, if_true]
          rw [ho, hv, ← tget_tput]
          exact a
        · simp only [foldH, if_true]
          rw [he, ← lk_happ]
          exact b
        · intro i r hr
          cases i with
          | zero =>
            simp only [List.getElem?_cons_zero, Option.some.injEq] at hr
            subst hr
            have hfalse : ∀ (m : Nat), k ≤ m → Nat.blt m (k + 0) = false := by
              intro m hm
              cases e : Nat.blt m (k + 0) with
              | false => rfl
              | true => have := blt_tt e; omega
            have hT : ∀ (l : List Rec) (m : Nat) (T : Nat → Value), k ≤ m → foldT (fun j => Nat.blt j (k + 0)) m l T = T := by
              intro l
              induction l with
              | nil => intro m T _; rfl
              | cons a l ih => intro m T hm; simp only [foldT, hfalse m hm, Bool.false_eq_true, if_false]; exact ih (m + 1) T (by omega)
            have hH : ∀ (l : List Rec) (m : Nat) (h : HF), k ≤ m → foldH (fun j => Nat.blt j (k + 0)) m l h = h := by
              intro l
              induction l with
              | nil => intro m h _; rfl
              | cons a l ih => intro m h hm; simp only [foldH, hfalse m hm, Bool.false_eq_true, if_false]; exact ih (m + 1) h (by omega)
            exact ⟨T, H, (hT _ _ _ (Nat.le_refl _)).symm, (hH _ _ _ (Nat.le_refl _)).symm, hok⟩
          | succ i =>
            simp only [List.getElem?_cons_succ] at hr
            obtain ⟨Ti, Hi, e1, e2, e3⟩ := c i r hr
            have hk : Nat.blt k (k + (i + 1)) = true := Nat.ble_eq_true_of_le (by omega)
            refine ⟨Ti, Hi, ?_, ?_, e3⟩
            · simp only [foldT, hk, if_true]
              rw [ho, hv, ← tget_tput, show k + (i + 1) = k + 1 + i by omega]
              exact e1
            · simp only [foldH, hk, if_true]
              rw [he, ← lk_happ, show k + (i + 1) = k + 1 + i by omega]
              exact e2
    split at h
    · rename_i hs1 ob1 hw
      split at h
      · rename_i out hx
        split at h
        · rename_i recs1 x hrest
          obtain ⟨T1, H1, n1, hs2⟩ := x
          simp only [Option.some.injEq, Prod.mk.injEq] at h
          obtain ⟨rfl, rfl, rfl, rfl, rfl⟩ := h
          have hnew := xop_new hx
          exact step _ recs1 out.v out.eff out.n out.hs rfl rfl rfl hnew.1 hnew.2 hrest rfl ⟨dstOk_spec hd, ⟨n, hs, hs1, ob1, hw, fun _ => ⟨out, hx, rfl⟩, fun h => by cases h⟩⟩
        · simp at h
      · simp at h
    · rename_i hs1 ob1 hw
      split at h
      · rename_i recs1 x hrest
        obtain ⟨T1, H1, n1, hs2⟩ := x
        simp only [Option.some.injEq, Prod.mk.injEq] at h
        obtain ⟨rfl, rfl, rfl, rfl, rfl⟩ := h
        exact step _ recs1 (.chan none) [] n hs1 rfl rfl rfl (Nat.le_refl _) (by simp [skipped]) hrest rfl ⟨dstOk_spec hd, ⟨n, hs, hs1, ob1, hw, fun h => (by cases h), fun _ => rfl⟩⟩
      · simp at h
    · simp at h
def memB (x : Nat) : List Nat → Bool
  | [] => false
  | y :: r => Nat.beq x y || memB x r
theorem memB_ff {x : Nat} : ∀ {l : List Nat}, memB x l = false → x ∉ l
  | [], _ => by simp
  | y :: r, h => by
    simp only [memB, Bool.or_eq_false_iff] at h
    simp only [List.mem_cons, not_or]
    exact ⟨beq_ff h.1, memB_ff h.2⟩
def tmpsOf : List Operand → List Nat
  | [] => []
  | .tmp t :: r => t :: tmpsOf r
  | _ :: r => tmpsOf r
theorem mem_tmpsOf {t : Nat} : ∀ {l : List Operand}, Operand.tmp t ∈ l → t ∈ tmpsOf l
  | [], h => by simp at h
  | x :: r, h => by
    simp only [List.mem_cons] at h
    rcases h with rfl | h
    · simp [tmpsOf]
    · have := mem_tmpsOf h
      cases x <;> simp [tmpsOf, this]
def looks (ops : Array Oper) (o : Oper) : List Nat :=
  tmpsOf o.op.operands.toList ++ (match o.guard with
    | some (k, _) => match slotOf ops k with
      | some d => [d]
      | none => []
    | none => [])
def indepB (ops : Array Oper) (r r' : Rec) : Bool :=
  (match r'.o.dst with
    | none => true
    | some d => !memB d (looks ops r.o) && (match r.o.dst with | some x => !Nat.beq x d | none => true)) &&
  r'.out.eff.all fun y => !memB y.1 r.out.rd && (match y.2 with | .blk _ => !memB y.1 r.out.sh | .del => !memB y.1 r.out.sh | .cell .. => true) && r.out.eff.all fun x => updFree x y
structure Indep (ops : Array Oper) (r r' : Rec) : Prop where
  looks : ∀ d, r'.o.dst = some d → d ∉ looks ops r.o
  dst : ∀ x, r.o.dst = some x → r'.o.dst ≠ some x
  rd : ∀ y ∈ r'.out.eff, y.1 ∉ r.out.rd
  sh : ∀ y ∈ r'.out.eff, y.1 ∈ r.out.sh → ∃ o v, y.2 = .cell o v
  eff : ∀ x ∈ r.out.eff, ∀ y ∈ r'.out.eff, updFree x y = true
theorem indepB_spec {ops : Array Oper} {r r' : Rec} (h : indepB ops r r' = true) : Indep ops r r' := by
  simp only [indepB, Bool.and_eq_true, List.all_eq_true, Bool.not_eq_true'] at h
  obtain ⟨h1, h2⟩ := h
  refine ⟨?_, ?_, ?_, ?_, ?_⟩
  · intro d hd
    simp only [hd, Bool.and_eq_true, Bool.not_eq_true'] at h1
    exact memB_ff h1.1
  · intro x hx hx'
    simp only [hx', hx, Bool.and_eq_true, Bool.not_eq_true'] at h1
    rw [beq_self] at h1
    simp at h1
  · intro y hy
    exact memB_ff (h2 y hy).1.1
  · intro y hy hsh
    have := (h2 y hy).1.2
    cases hu : y.2 with
    | cell o v => exact ⟨o, v, rfl⟩
    | blk B => simp only [hu, Bool.not_eq_true'] at this; exact absurd hsh (memB_ff this)
    | del => simp only [hu, Bool.not_eq_true'] at this; exact absurd hsh (memB_ff this)
  · intro x hx y hy
    exact (h2 y hy).2 x hx
structure Inv (P : Program) (N : Nat) (recs : List Rec) (T0 : Nat → Value) (H0 : HF) (μ0 : Mu) (w0 : World) (D : Nat → Bool) (μ : Mu) (a : Act) (w : World) : Prop where
  gl : Gl P μ
  tm : TRel N μ (foldT D 0 recs T0) a.tmps
  rep : Rep μ (foldH D 0 recs H0) w
  defers : a.defers = []
  fresh : ∀ j r, recs[j]? = some r → D j = false → ∀ i ∈ r.out.new, μ i = none
  le : μ0.le μ
  keeps : Keeps μ0 H0 w0 μ (foldH D 0 recs H0) w
  other : ∀ i, (∀ r ∈ recs, i ∉ r.out.new) → μ i = μ0 i
theorem Gl.le {P : Program} {μ μ' : Mu} (h : Gl P μ) (hl : μ.le μ') : Gl P μ' := fun g hg => hl g g (h g hg)
theorem wanted_of {ops : Array Oper} {T : Tm} {o : Oper} {hs hs1 : List Hint} {b : Bool} {ob : List Prop} (h : xwant ops T o hs = some (b, hs1, ob)) (hob : ∀ q ∈ ob, q) {μ : Mu} {tmps : Array Value}
    (ht : ∀ d, d ∈ looks ops o → VRel μ (tget T d) (tmps.getD d undef)) : Region.wanted o (yielded ops tmps) = b := by
  unfold xwant at h
  unfold Region.wanted
  cases hg : o.guard with
  | none => simp [hg] at h; simp [h.1]
  | some q =>
    obtain ⟨k, want⟩ := q
    simp only [hg] at h ⊢
    unfold yielded
    cases hs : slotOf ops k with
    | none =>
      simp only [hs, Option.some.injEq, Prod.mk.injEq] at h
      unfold slotOf at hs
      rw [hs]
      simp [← h.1]
    | some d =>
      simp only [hs] at h
      have hd := ht d (by unfold looks; simp [hg, hs])
      unfold slotOf at hs
      rw [hs]
      simp only [Option.bind_some]
      split at h
      · rename_i c hc
        rw [hc] at hd
        have he : tmps.getD d undef = .bool c := by
          revert hd; generalize tmps.getD d undef = X; intro hd; cases hd; rfl
        have he2 : tmps[d]? = some (.bool c) := by
          rw [Array.getD_eq_getD_getElem?] at he
          cases hx : tmps[d]? with
          | none => rw [hx] at he; simp [undef] at he
          | some x => rw [hx] at he; simp at he; rw [he]
        rw [he2]
        split at h
        · rename_i b' hs2 ob2 htk
          simp only [Option.some.injEq, Prod.mk.injEq] at h
          obtain ⟨rfl, rfl, rfl⟩ := h
          have := takeB_spec htk hob
          subst this
          simp
        · simp at h
      · rename_i hc
        simp only [Option.some.injEq, Prod.mk.injEq] at h
        rw [hc] at hd
        have he : tmps.getD d undef = .tuple #[] := by
          revert hd; generalize tmps.getD d undef = X; intro hd; cases hd; rfl
        have he2 : tmps[d]? = none ∨ tmps[d]? = some (.tuple #[]) := by
          rw [Array.getD_eq_getD_getElem?] at he
          cases hx : tmps[d]? with
          | none => exact .inl rfl
          | some x => rw [hx] at he; simp at he; rw [he]; exact .inr rfl
        rcases he2 with he2 | he2 <;> rw [he2] <;> simp [← h.1]
      · simp at h
theorem Inv.step {P : Program} {N : Nat} {ops : Array Oper} {recs : List Rec} {T0 : Tm} {H0 : Heap} {μ0 : Mu} {w0 : World} {D : Nat → Bool} {μ : Mu} {a : Act} {w : World} (hG : P.globals.size ≤ 1000)
    (inv : Inv P N recs (tget T0) (lk H0) μ0 w0 D μ a w) {i : Nat} {r : Rec} (hr : recs[i]? = some r) (ho : ops[i]? = some r.o) (hD : D i = false) {Ti : Tm} {Hi : Heap}
    (eT : tget Ti = foldT (fun j => Nat.blt j i) 0 recs (tget T0)) (eH : lk Hi = foldH (fun j => Nat.blt j i) 0 recs (lk H0)) (hok : RecOk P N ops Ti Hi r) (hob : ∀ q ∈ r.out.ob, q)
    (hnew : ∀ (p q : Nat) (s s' : Rec), p < q → recs[p]? = some s → recs[q]? = some s' → ∀ x ∈ s.out.new, ∀ y ∈ s'.out.new, x < y)
    (hind : ∀ j r', recs[j]? = some r' → ((D j = true ∧ i < j) ∨ (D j = false ∧ j < i)) → Indep ops r r') {Q : Exit → Act → World → Prop} {K : Act → World → Prop}
    (hK : ∀ μ' a' w', Inv P N recs (tget T0) (lk H0) μ0 w0 (plus D i) μ' a' w' → K a' w') : wpOp P ops Q i K a w := by
  have hdiff : ∀ j r', recs[j]? = some r' → D (0 + j) ≠ Nat.blt (0 + j) i → Indep ops r r' := by
    intro j r' hj hne
    rw [Nat.zero_add] at hne
    refine hind j r' hj ?_
    cases hDj : D j with
    | true =>
      refine .inl ⟨rfl, ?_⟩
      have hb : Nat.blt j i = false := by
        cases e : Nat.blt j i with
        | false => rfl
        | true => rw [hDj, e] at hne; exact absurd rfl hne
      have := blt_ff hb
      have : j ≠ i := by rintro rfl; rw [hD] at hDj; cases hDj
      omega
    | false =>
      refine .inr ⟨rfl, ?_⟩
      have hb : Nat.blt j i = true := by
        cases e : Nat.blt j i with
        | true => rfl
        | false => rw [hDj, e] at hne; exact absurd rfl hne
      exact blt_tt hb
  have hT : ∀ t, t ∈ looks ops r.o → tget Ti t = foldT D 0 recs (tget T0) t := by
    intro t ht
    rw [eT]
    exact (foldT_agree t recs 0 _ _ rfl fun j r' hj hne hd => (hdiff j r' hj hne).looks t hd ht).symm
  have hTr : ∀ t, t ∈ looks ops r.o → VRel μ (tget Ti t) (a.tmps.getD t undef) := fun t ht => by rw [hT t ht]; exact inv.tm.2 t
  obtain ⟨n, hs, hs1, ob1, hw, hrun, hskip⟩ := hok.run
  have hob1 : ∀ q ∈ ob1, q := by
    cases hran : r.ran with
    | true => obtain ⟨out, _, he⟩ := hrun hran; intro q hq; exact hob q (by rw [he]; simp [hq])
    | false => intro q hq; exact hob q (by rw [hskip hran]; exact hq)
  have hwant := wanted_of hw hob1 (μ := μ) hTr
  unfold wpOp
  simp only [ho]
  have hi0 : recs[i - 0]? = some r := by simpa using hr
  have ePlusT : foldT (plus D i) 0 recs (tget T0) = tupd (foldT D 0 recs (tget T0)) r.o.dst r.out.v :=
    foldT_plus hD recs 0 _ r hi0 (Nat.zero_le _) fun j r' hj hlt hd x hx => (hind j r' hj (.inl ⟨by simpa using hd, by omega⟩)).dst x hx
  have ePlusH : foldH (plus D i) 0 recs (lk H0) = app r.out.eff (foldH D 0 recs (lk H0)) :=
    foldH_plus hD recs 0 _ r hi0 (Nat.zero_le _) fun j r' hj hlt hd x hx y hy => (hind j r' hj (.inl ⟨by simpa using hd, by omega⟩)).eff x hx y hy
  have hfreshP : ∀ μ' : Mu, (∀ k, k ∉ r.out.new → μ' k = μ k) → ∀ j r', recs[j]? = some r' → plus D i j = false → ∀ k ∈ r'.out.new, μ' k = none := by
    intro μ' hoth j r' hj hpj k hk
    simp only [plus, Bool.or_eq_false_iff] at hpj
    have hji := beq_ff hpj.2
    have hkn : k ∉ r.out.new := by
      intro hkr
      rcases Nat.lt_or_gt_of_ne hji with h | h
      · have := hnew j i r' r h hj hr k hk k hkr; omega
      · have := hnew i j r r' h hr hj k hkr k hk; omega
    rw [hoth k hkn]
    exact inv.fresh j r' hj hpj.1 k hk
  cases hran : r.ran with
  | false =>
    have hout := hskip hran
    rw [hran] at hwant
    rw [hwant]
    simp only [Bool.false_eq_true, if_false]
    refine hK μ _ w ⟨inv.gl, ?_, ?_, by rw [put_defers]; exact inv.defers, hfreshP μ (fun _ _ => rfl), inv.le, ?_, inv.other⟩
    · rw [ePlusT, hout]
      exact inv.tm.put hok.dst .und
    · rw [ePlusH, hout]; exact inv.rep
    · rw [ePlusH, hout]; exact inv.keeps
  | true =>
    obtain ⟨out, hx, hout⟩ := hrun hran
    rw [hran] at hwant
    rw [hwant]
    simp only [if_true]
    refine .inl ?_
    have hobo : ∀ q ∈ out.ob, q := fun q hq => hob q (by rw [hout]; simp [hq])
    have hspec := xop_ok hG hx hobo (foldH D 0 recs (lk H0))
      (fun k hk => by
        rw [eH]
        exact foldH_agree k recs 0 _ _ rfl fun j r' hj hne y hy hyk => (hdiff j r' hj hne).rd y hy (by rw [hout, hyk]; exact hk))
      (fun k hk => by
        rw [eH]
        exact sameShape_of (foldH_shape k recs 0 _ _ rfl fun j r' hj hne y hy hyk => (hdiff j r' hj hne).sh y hy (by rw [hout, hyk]; exact hk)))
    refine hspec μ a w inv.gl (fun x hx => ?_) inv.rep (fun k hk => inv.fresh i r hr hD k (by rw [hout]; exact hk)) K Q ?_
    · cases x with
      | tmp t =>
        exact hTr t (by unfold looks; simp only [List.mem_append]; exact .inl (mem_tmpsOf (by simpa using hx)))
      | const v =>
        simp only [ev, Act.eval]
        cases h : flat v
        · exact .junk _
        · exact .of_flat h
      | global g =>
        simp only [ev, Act.eval]
        cases h : Nat.blt g P.globals.size
        · exact .junk _
        · exact .ptr (inv.gl g (blt_tt h)) 0
      | func f => exact .func _ .nil .nil
    · intro μ' w' rv hle hoth hrep hv hkeep
      refine hK μ' _ w' ⟨inv.gl.le hle, ?_, ?_, by rw [put_defers]; exact inv.defers, hfreshP μ' (fun k hk => hoth k (by rw [hout] at hk; exact hk)), Mu.le_trans inv.le hle, ?_, ?_⟩
      · rw [ePlusT, hout]
        exact (inv.tm.mono hle).put hok.dst hv
      · rw [ePlusH, hout]; exact hrep
      · rw [ePlusH, hout]; exact inv.keeps.trans hkeep
      · intro k hk
        rw [hoth k (by have := hk r (List.mem_of_getElem? hr); rw [hout] at this; exact this)]
        exact inv.other k hk
end Go.Proofs.YtgpcfjokmonlgaaDoor.VX
namespace Go.Proofs.YtgpcfjokmonlgaaDoor.VX
open Go
set_option linter.unusedSimpArgs false
set_option linter.unusedVariables false
def maskOf (acc : List Nat) : List Edge → Nat → Nat
  | [], s => s
  | e :: r, s => maskOf acc r (bif Region.binds .any e then Nat.lor (Nat.lor s (2 ^ e.on)) (acc.getD e.on 0) else s)
def masksGo : List Oper → List Nat → List Nat
  | [], acc => acc
  | o :: r, acc => masksGo r (acc ++ [maskOf acc o.after.toList 0])
def edgesOk : Nat → List Oper → Bool
  | _, [] => true
  | i, o :: r => (o.after.toList.all fun e => !Region.binds .any e || Nat.blt e.on i) && edgesOk (i + 1) r
theorem edgesOk_spec : ∀ {l : List Oper} {k : Nat}, edgesOk k l = true → ∀ i o, l[i]? = some o → ∀ e ∈ o.after, Region.binds .any e = true → e.on < k + i
  | [], k, _, i, o, h, _, _, _ => by simp at h
  | x :: r, k, h, i, o, hi, e, he, hb => by
    simp only [edgesOk, Bool.and_eq_true, List.all_eq_true, Bool.or_eq_true, Bool.not_eq_true'] at h
    cases i with
    | zero =>
      simp only [List.getElem?_cons_zero, Option.some.injEq] at hi
      subst hi
      rcases h.1 e (by simpa using he) with h1 | h1
      · rw [hb] at h1; cases h1
      · have := blt_tt h1; omega
    | succ i =>
      simp only [List.getElem?_cons_succ] at hi
      have := edgesOk_spec h.2 i o hi e he hb
      omega
def Closed (ops : Array Oper) (D : Nat → Bool) : Prop := ∀ j o, ops[j]? = some o → D j = true → ∀ e ∈ o.after, Region.binds .any e = true → D e.on = true
theorem maskOf_spec {D : Nat → Bool} {acc : List Nat} (hacc : ∀ p m, acc[p]? = some m → D p = true → ∀ k, m.testBit k = true → D k = true) : ∀ (l : List Edge) (s : Nat), (∀ k, s.testBit k = true → D k = true) →
    (∀ e ∈ l, Region.binds .any e = true → D e.on = true) → ∀ k, (maskOf acc l s).testBit k = true → D k = true
  | [], s, hs, _, k, hk => hs k hk
  | e :: r, s, hs, hl, k, hk => by
    simp only [maskOf] at hk
    refine maskOf_spec hacc r _ ?_ (fun e' he' => hl e' (by simp [he'])) k hk
    intro k hk
    cases hb : Region.binds .any e <;> rw [hb] at hk
    · exact hs k (by simpa using hk)
    · have hD := hl e (by simp) hb
      simp only [cond_true] at hk
      have hk' : ((s ||| 2 ^ e.on) ||| acc.getD e.on 0).testBit k = true := hk
      rw [Nat.testBit_or, Nat.testBit_or, Bool.or_eq_true, Bool.or_eq_true] at hk'
      rcases hk' with (h | h) | h
      · exact hs k h
      · rw [Nat.testBit_two_pow] at h
        have : e.on = k := by simpa using h
        rw [← this]; exact hD
      · cases ha : acc[e.on]? with
        | none => simp [List.getD_eq_getElem?_getD, ha] at h
        | some m => simp [List.getD_eq_getElem?_getD, ha] at h; exact hacc e.on m ha hD k h
theorem masksGo_spec {D : Nat → Bool} : ∀ (l : List Oper) (acc : List Nat), (∀ p m, acc[p]? = some m → D p = true → ∀ k, m.testBit k = true → D k = true) →
    (∀ i o, l[i]? = some o → D (acc.length + i) = true → ∀ e ∈ o.after, Region.binds .any e = true → D e.on = true) → ∀ p m, (masksGo l acc)[p]? = some m → D p = true → ∀ k, m.testBit k = true → D k = true
  | [], acc, hacc, _ => hacc
  | o :: r, acc, hacc, hl => by
    simp only [masksGo]
    refine masksGo_spec r _ ?_ ?_
    · intro p m hm hp k hk
      rcases Nat.lt_trichotomy p acc.length with h | h | h
      · rw [List.getElem?_append_left h] at hm
        exact hacc p m hm hp k hk
      · subst h
        simp only [List.getElem?_append_right (Nat.le_refl _), Nat.sub_self, List.getElem?_cons_zero, Option.some.injEq] at hm
        subst hm
        refine maskOf_spec hacc _ 0 (by simp) (fun e he hb => hl 0 o (by simp) (by simpa using hp) e (by simpa using he) hb) k hk
      · rw [List.getElem?_append_right (by omega)] at hm
        simp only [List.getElem?_cons] at hm
        rw [if_neg (by omega)] at hm
        simp at hm
    · intro i o' hi hp e he hb
      refine hl (i + 1) o' (by simpa using hi) ?_ e he hb
      rw [show acc.length + (i + 1) = (acc ++ [maskOf acc o.after.toList 0]).length + i by simp; omega]
      exact hp
def pairsRow (ops : Array Oper) (r' : Rec) (m : Nat) : Nat → List Rec → Bool
  | _, [] => true
  | i, r :: l => (Nat.testBit m i || (indepB ops r r' && indepB ops r' r)) && pairsRow ops r' m (i + 1) l
def pairsGo (ops : Array Oper) (ms : List Nat) : Nat → List Rec → List Rec → Bool
  | _, _, [] => true
  | j, done, r :: l => pairsRow ops r (ms.getD j 0) 0 done && pairsGo ops ms (j + 1) (done ++ [r]) l
def orderOk (ops : Array Oper) (recs : List Rec) : Bool :=
  edgesOk 0 ops.toList && pairsGo ops (masksGo ops.toList []) 0 [] recs
theorem pairsRow_spec {ops : Array Oper} {r' : Rec} {m : Nat} : ∀ {l : List Rec} {k : Nat}, pairsRow ops r' m k l = true → ∀ i r, l[i]? = some r → m.testBit (k + i) = true ∨ (Indep ops r r' ∧ Indep ops r' r)
  | [], k, _, i, r, h => by simp at h
  | x :: l, k, h, i, r, hi => by
    simp only [pairsRow, Bool.and_eq_true, Bool.or_eq_true] at h
    cases i with
    | zero =>
      simp only [List.getElem?_cons_zero, Option.some.injEq] at hi
      subst hi
      rcases h.1 with h1 | h1
      · exact .inl h1
      · exact .inr ⟨indepB_spec h1.1, indepB_spec h1.2⟩
    | succ i =>
      simp only [List.getElem?_cons_succ] at hi
      have := pairsRow_spec h.2 i r hi
      rw [show k + (i + 1) = k + 1 + i by omega]
      exact this
theorem pairsGo_spec {ops : Array Oper} {ms : List Nat} : ∀ {l done : List Rec}, pairsGo ops ms done.length done l = true → ∀ i j r r', i < j → (done ++ l)[i]? = some r → (done ++ l)[j]? = some r' → done.length ≤ j →
    (ms.getD j 0).testBit i = true ∨ (Indep ops r r' ∧ Indep ops r' r)
  | [], done, _, i, j, r, r', hij, hi, hj, hle => by
    simp only [List.append_nil] at hj
    have := (List.getElem?_eq_some_iff.1 hj).1
    omega
  | x :: l, done, h, i, j, r, r', hij, hi, hj, hle => by
    simp only [pairsGo, Bool.and_eq_true] at h
    by_cases hjd : j = done.length
    · subst hjd
      rw [List.getElem?_append_right (Nat.le_refl _)] at hj
      simp only [Nat.sub_self, List.getElem?_cons_zero, Option.some.injEq] at hj
      subst hj
      rw [List.getElem?_append_left hij] at hi
      simpa using pairsRow_spec h.1 i r hi
    · have e : done ++ x :: l = (done ++ [x]) ++ l := by simp
      rw [e] at hi hj
      refine pairsGo_spec (done := done ++ [x]) ?_ i j r r' hij hi hj (by simp; omega)
      simpa using h.2
theorem orderOk_indep {ops : Array Oper} {recs : List Rec} (h : orderOk ops recs = true) {D : Nat → Bool} (hc : Closed ops D) {i : Nat} {r : Rec} (hr : recs[i]? = some r) (hDi : D i = false)
    (hpre : ∀ o, ops[i]? = some o → ∀ e ∈ o.after, Region.binds .any e = true → D e.on = true) :
    ∀ j r', recs[j]? = some r' → ((D j = true ∧ i < j) ∨ (D j = false ∧ j < i)) → Indep ops r r' := by
  simp only [orderOk, Bool.and_eq_true] at h
  intro j r' hj hcase
  have hspec := pairsGo_spec (done := []) (l := recs) h.2
  simp only [List.nil_append] at hspec
  have hmask : ∀ (D : Nat → Bool), Closed ops D → ∀ p m, (masksGo ops.toList [])[p]? = some m → D p = true → ∀ k, m.testBit k = true → D k = true := by
    intro D hc
    refine masksGo_spec ops.toList [] (by simp) ?_
    intro q o ho hq e he hb
    exact hc q o (by simpa using ho) (by simpa using hq) e he hb
  rcases hcase with ⟨hD, hlt⟩ | ⟨hD, hlt⟩
  · rcases hspec i j r r' hlt hr hj (Nat.zero_le _) with hb | hb
    · exfalso
      cases hm : (masksGo ops.toList [])[j]? with
      | none => simp [List.getD_eq_getElem?_getD, hm] at hb
      | some m =>
        simp [List.getD_eq_getElem?_getD, hm] at hb
        have := hmask D hc j m hm hD i hb
        rw [hDi] at this; cases this
    · exact hb.1
  · rcases hspec j i r' r hlt hj hr (Nat.zero_le _) with hb | hb
    · exfalso
      have hc' : Closed ops (plus D i) := by
        intro q o ho hq e he hb'
        simp only [plus, Bool.or_eq_true] at hq ⊢
        rcases hq with hq | hq
        · exact .inl (hc q o ho hq e he hb')
        · have := beq_tt hq
          subst this
          exact .inl (hpre o ho e he hb')
      cases hm : (masksGo ops.toList [])[i]? with
      | none => simp [List.getD_eq_getElem?_getD, hm] at hb
      | some m =>
        simp [List.getD_eq_getElem?_getD, hm] at hb
        have := hmask (plus D i) hc' i m hm (by simp [plus, beq_self]) j hb
        simp only [plus, hD, Bool.false_or] at this
        have := beq_tt this
        omega
    · exact hb.2
def obsOf : List Rec → List Prop
  | [] => []
  | r :: l => r.out.ob ++ obsOf l
theorem obsOf_mem {recs : List Rec} (h : ∀ q ∈ obsOf recs, q) {i : Nat} {r : Rec} (hr : recs[i]? = some r) : ∀ q ∈ r.out.ob, q := by
  induction recs generalizing i with
  | nil => simp at hr
  | cons x l ih =>
    cases i with
    | zero =>
      simp only [List.getElem?_cons_zero, Option.some.injEq] at hr
      subst hr
      exact fun q hq => h q (by simp [obsOf, hq])
    | succ i =>
      simp only [List.getElem?_cons_succ] at hr
      exact ih (fun q hq => h q (by simp [obsOf, hq])) hr
theorem foldT_ext {D D' : Nat → Bool} (l : List Rec) (k : Nat) (T : Nat → Value) (h : ∀ j, j < k + l.length → D j = D' j) : foldT D k l T = foldT D' k l T := by
  funext t
  exact foldT_agree t l k T T rfl fun j r hj hne => absurd (h (k + j) (by have := (List.getElem?_eq_some_iff.1 hj).1; omega)) hne
theorem foldH_ext {D D' : Nat → Bool} (l : List Rec) (k : Nat) (H : HF) (h : ∀ j, j < k + l.length → D j = D' j) : foldH D k l H = foldH D' k l H := by
  funext i
  exact foldH_agree i l k H H rfl fun j r hj hne => absurd (h (k + j) (by have := (List.getElem?_eq_some_iff.1 hj).1; omega)) hne
theorem Inv.ext {P : Program} {N : Nat} {recs : List Rec} {T0 : Nat → Value} {H0 : HF} {μ0 : Mu} {w0 : World} {D D' : Nat → Bool} {μ : Mu} {a : Act} {w : World} (inv : Inv P N recs T0 H0 μ0 w0 D μ a w) (h : ∀ j, j < recs.length → D j = D' j) :
    Inv P N recs T0 H0 μ0 w0 D' μ a w := by
  have e1 := foldT_ext recs 0 T0 (D := D) (D' := D') (by simpa using h)
  have e2 := foldH_ext recs 0 H0 (D := D) (D' := D') (by simpa using h)
  exact ⟨inv.gl, by rw [← e1]; exact inv.tm, by rw [← e2]; exact inv.rep, inv.defers, fun j r hj hd => inv.fresh j r hj (by rw [h j (List.getElem?_eq_some_iff.1 hj).1]; exact hd), inv.le, by rw [← e2]; exact inv.keeps, inv.other⟩
def Runs (P : Program) (N : Nat) (c : Code) (T : Tm) (H : Heap) (n : Nat) (e : Ex) (T' : Tm) (H' : Heap) (n' : Nat) : Prop :=
  n ≤ n' ∧ ∀ (μ : Mu) (a : Act) (w : World), Gl P μ → TRel N μ (tget T) a.tmps → Rep μ (lk H) w → a.defers = [] → (∀ i, n ≤ i → μ i = none) →
    ∀ Q : Exit → Act → World → Prop, (∀ μ' a' w', μ.le μ' → (∀ i, i < n → μ' i = μ i) → (∀ i, n' ≤ i → μ' i = none) → TRel N μ' (tget T') a'.tmps → Rep μ' (lk H') w' → a'.defers = [] → Keeps μ (lk H) w μ' (lk H') w' →
      Q (match e with | .normal => .normal | .exit id => .exit id | .ret => .ret) a' w') → c.wp P Q a w
theorem cnt_set {l : Array Bool} {i : Nat} (h : l.getD i true = false) : (l.setIfInBounds i true).toList.count false + 1 = l.toList.count false := by
  have hlt : i < l.size := by
    rcases Nat.lt_or_ge i l.size with hh | hh
    · exact hh
    · rw [Array.getD_eq_getD_getElem?, Array.getElem?_eq_none hh] at h; simp at h
  have hi : l.toList[i]? = some false := by
    rw [Array.getD_eq_getD_getElem?] at h
    rw [Array.getElem?_toList]
    cases hx : l[i]? with
    | none => rw [hx] at h; simp at h
    | some b => rw [hx] at h; simp at h; rw [h]
  rw [Array.toList_setIfInBounds]
  generalize l.toList = m at hi
  clear h hlt
  induction m generalizing i with
  | nil => simp at hi
  | cons b m ih =>
    cases i with
    | zero =>
      simp only [List.getElem?_cons_zero, Option.some.injEq] at hi
      subst hi
      simp
    | succ i =>
      simp only [List.getElem?_cons_succ] at hi
      have := ih hi
      simp only [List.set_cons_succ, List.count_cons]
      omega
theorem replicate_getD (m j : Nat) : (Array.replicate m false).getD j false = false := by
  rw [Array.getD_eq_getD_getElem?]
  simp only [Array.getElem?_replicate]
  split <;> rfl
theorem region_ok {P : Program} {N : Nat} {ops : Array Oper} {id : Nat} {draw : Bool} {T T' : Tm} {H H' : Heap} {n n' : Nat} {hs hs' : List Hint} {recs : List Rec} (hG : P.globals.size ≤ 1000) (hM : P.follows .mixedOrders = true)
    (hx : xreg P N ops ops.toList T H n hs = some (recs, T', H', n', hs')) (hord : draw = true → orderOk ops recs = true) (hob : ∀ q ∈ obsOf recs, q) : Runs P N (.region id ops draw) T H n .normal T' H' n' := by
  obtain ⟨h1, h2, h3, h4, h5⟩ := xreg_spec hx
  refine ⟨h2, ?_⟩
  intro μ a w hg ht hr hdf hfr Q hQ
  obtain ⟨eT', eH', hrecs⟩ := h5 0
  have hlen : recs.length = ops.size := by rw [← List.length_map (f := (·.o)), h1]; simp
  have hops : ∀ (i : Nat) (r : Rec), recs[i]? = some r → ops[i]? = some r.o := by
    intro i r hr
    have : (recs.map (·.o))[i]? = some r.o := by simp [hr]
    rw [h1] at this
    simpa using this
  have hT0 : foldT (fun _ => false) 0 recs (tget T) = tget T := by
    have : ∀ (l : List Rec) (k : Nat) (T : Nat → Value), foldT (fun _ => false) k l T = T := by
      intro l; induction l with
      | nil => intro k T; rfl
      | cons a l ih => intro k T; simp [foldT, ih]
    exact this _ _ _
  have hH0 : foldH (fun _ => false) 0 recs (lk H) = lk H := by
    have : ∀ (l : List Rec) (k : Nat) (h : HF), foldH (fun _ => false) k l h = h := by
      intro l; induction l with
      | nil => intro k T; rfl
      | cons a l ih => intro k T; simp [foldH, ih]
    exact this _ _ _
  have start : ∀ w1 : World, w1.heap = w.heap → w1.os = w.os → w1.tape = w.tape → w1.output = w.output → Inv P N recs (tget T) (lk H) μ w (fun _ => false) μ a w1 := by
    intro w1 e1 e2 e3 e4
    refine ⟨hg, by rw [hT0]; exact ht, by rw [hH0]; exact hr.heap_eq e1, hdf, ?_, Mu.le_refl μ, ?_, fun _ _ => rfl⟩
    · intro j r hj _ i hi
      exact hfr i (h3 r (List.mem_of_getElem? hj) i hi).1
    · rw [hH0]
      exact ⟨e2, e3, e4, by rw [e1]; exact Nat.le_refl _, fun b _ _ => by rw [e1], fun i B b e m _ => ⟨i, B, e, m, fun h => h⟩, fun _ _ => rfl, fun _ _ h => h, fun _ _ h => .inl h⟩
  have finish : ∀ (D : Nat → Bool) (μ' : Mu) (a' : Act) (w' : World), (∀ j, j < recs.length → D j = true) → Inv P N recs (tget T) (lk H) μ w D μ' a' w' → Q .normal a' w' := by
    intro D μ' a' w' hD inv
    have inv := inv.ext (D' := fun _ => true) hD
    refine hQ μ' a' w' inv.le ?_ ?_ (by rw [eT']; exact inv.tm) (by rw [eH']; exact inv.rep) inv.defers (by rw [eH']; exact inv.keeps)
    · intro i hi
      exact inv.other i fun r hr hin => by have := (h3 r hr i hin).1; omega
    · intro i hi
      rw [inv.other i fun r hr hin => by have := (h3 r hr i hin).2; omega]
      exact hfr i (by omega)
  cases draw with
  | false =>
    refine wp_region ?_
    have go : ∀ (m k : Nat), k + m = ops.size → ∀ (μ' : Mu) (a' : Act) (w' : World), Inv P N recs (tget T) (lk H) μ w (fun j => Nat.blt j k) μ' a' w' → wpOps P ops Q (List.range' k m) a' w' := by
      intro m
      induction m with
      | zero =>
        intro k hk μ' a' w' inv
        exact finish _ μ' a' w' (fun j hj => Nat.ble_eq_true_of_le (by omega)) inv
      | succ m ih =>
        intro k hk μ' a' w' inv
        rw [List.range'_succ, wpOps_cons]
        have hkl : k < recs.length := by omega
        have hr : recs[k]? = some recs[k] := by simp [hkl]
        obtain ⟨Ti, Hi, e1, e2, e3⟩ := hrecs k _ hr
        have hself : Nat.blt k k = false := by
          cases e : Nat.blt k k with
          | false => rfl
          | true => have := blt_tt e; omega
        refine inv.step hG hr (hops k _ hr) hself (by simpa using e1) (by simpa using e2) e3 (obsOf_mem hob hr) h4 ?_ ?_
        · intro j r' hj hc
          rcases hc with ⟨hc, hlt⟩ | ⟨hc, hlt⟩
          · have := blt_tt hc; omega
          · have := blt_ff hc; omega
        · intro μ2 a2 w2 inv2
          refine ih (k + 1) (by omega) μ2 a2 w2 (inv2.ext fun j hj => ?_)
          simp only [plus]
          cases e : Nat.blt j k with
          | true =>
            have := blt_tt e
            simp only [Bool.true_or]
            exact (Nat.ble_eq_true_of_le (by omega) : Nat.blt j (k + 1) = true).symm
          | false =>
            have := blt_ff e
            simp only [Bool.false_or]
            by_cases hjk : j = k
            · subst hjk; rw [beq_self]; exact (Nat.ble_eq_true_of_le (by omega) : Nat.blt j (j + 1) = true).symm
            · rw [beq_ne hjk]
              cases e2 : Nat.blt j (k + 1) with
              | false => rfl
              | true => have := blt_tt e2; omega
    have := go ops.size 0 (by omega) μ a w ((start w rfl rfl rfl rfl).ext fun j hj => by
      cases e : Nat.blt j 0 with
      | false => rfl
      | true => have := blt_tt e; omega)
    rw [← List.range_eq_range'] at this
    exact this
  | true =>
    refine wp_region_any hM ?_
    have hO := hord rfl
    have hedges : edgesOk 0 ops.toList = true := by
      simp only [orderOk, Bool.and_eq_true] at hO
      exact hO.1
    have hedge := edgesOk_spec hedges
    have go : ∀ (fuel : Nat) (listed : Array Bool) (μ' : Mu) (a' : Act) (w' : World), listed.size = ops.size → listed.toList.count false ≤ fuel → Closed ops (fun j => listed.getD j false) →
        Inv P N recs (tget T) (lk H) μ w (fun j => listed.getD j false) μ' a' w' → wpAny P .any ops Q fuel listed a' w' := by
      intro fuel
      have done : ∀ (listed : Array Bool) (μ' : Mu) (a' : Act) (w' : World), listed.size = ops.size → Region.ready .any ops listed = [] → Inv P N recs (tget T) (lk H) μ w (fun j => listed.getD j false) μ' a' w' → Q .normal a' w' := by
        intro listed μ' a' w' hsz hready inv
        refine finish _ μ' a' w' ?_ inv
        intro j hj
        induction j using Nat.strongRecOn with
        | _ j ih =>
          cases hc : listed.getD j false with
          | true => rfl
          | false =>
            exfalso
            have hjs : j < listed.size := by omega
            have hj2 : listed.getD j true = false := by
              rw [Array.getD_eq_getD_getElem?] at hc ⊢
              simp [hjs] at hc ⊢; exact hc
            have hm : j ∈ Region.ready .any ops listed := by
              rw [mem_ready]
              refine ⟨hj2, ops[j]'(by omega), by simp [show j < ops.size by omega], ?_⟩
              intro e he hb
              have hlt := hedge j _ (by simp [show j < ops.size by omega]) e he hb
              exact ih e.on (by omega) (by omega)
            rw [hready] at hm
            simp at hm
      induction fuel with
      | zero =>
        intro listed μ' a' w' hsz hcnt hcl inv
        have hready : Region.ready .any ops listed = [] := by
          cases hrd : Region.ready .any ops listed with
          | nil => rfl
          | cons i l =>
            have hm : i ∈ Region.ready .any ops listed := by rw [hrd]; simp
            have := cnt_set (mem_ready.1 hm).1
            omega
        exact ⟨hready, done listed μ' a' w' hsz hready inv⟩
      | succ fuel ih =>
        intro listed μ' a' w' hsz hcnt hcl inv
        refine ⟨fun hready => done listed μ' a' w' hsz hready inv, ?_⟩
        intro i hi
        obtain ⟨hi1, o, ho, hpre⟩ := mem_ready.1 hi
        have hil : i < recs.length := by rw [hlen]; exact (Array.getElem?_eq_some_iff.1 ho).1
        have hr : recs[i]? = some recs[i] := by simp [hil]
        have hDi : listed.getD i false = false := by
          rw [Array.getD_eq_getD_getElem?] at hi1 ⊢
          simp [show i < listed.size by omega] at hi1 ⊢; exact hi1
        obtain ⟨Ti, Hi, e1, e2, e3⟩ := hrecs i _ hr
        refine inv.step hG hr (hops i _ hr) hDi (by simpa using e1) (by simpa using e2) e3 (obsOf_mem hob hr) h4 ?_ ?_
        · refine orderOk_indep hO hcl hr hDi ?_
          intro o' ho' e he hb
          rw [ho] at ho'
          obtain rfl : o = o' := by simpa using ho'
          exact hpre e he hb
        · intro μ2 a2 w2 inv2
          have hset : ∀ j, (listed.setIfInBounds i true).getD j false = plus (fun j => listed.getD j false) i j := by
            intro j
            simp only [plus]
            by_cases hji : j = i
            · subst hji
              rw [beq_self, Bool.or_true, Array.getD_eq_getD_getElem?]
              simp [show j < listed.size by omega]
            · rw [beq_ne hji, Bool.or_false, Array.getD_eq_getD_getElem?, Array.getD_eq_getD_getElem?, Array.getElem?_setIfInBounds_ne (fun h => hji h.symm)]
          refine ih _ μ2 a2 w2 (by simpa using hsz) ?_ ?_ (inv2.ext fun j _ => (hset j).symm)
          · have := cnt_set hi1; omega
          · intro j o' ho' hj e he hb
            show (listed.setIfInBounds i true).getD e.on false = true
            have hj : (listed.setIfInBounds i true).getD j false = true := hj
            rw [hset] at hj ⊢
            simp only [plus, Bool.or_eq_true] at hj ⊢
            rcases hj with hj | hj
            · exact .inl (hcl j o' ho' hj e he hb)
            · have := beq_tt hj
              subst this
              rw [ho] at ho'
              obtain rfl : o = o' := by simpa using ho'
              exact .inl (hpre e he hb)
    refine go ops.size _ μ a _ (by simp) ?_ ?_ ((start { w with drawn := w.drawn + 1 } rfl rfl rfl rfl).ext ?_)
    · simp
    · intro j o ho hj
      have hj : (Array.replicate ops.size false).getD j false = true := hj
      rw [replicate_getD] at hj
      cases hj
    · intro j _
      exact (replicate_getD _ _).symm
end Go.Proofs.YtgpcfjokmonlgaaDoor.VX
namespace Go.Proofs.YtgpcfjokmonlgaaDoor.VX
open Go
set_option linter.unusedSimpArgs false
set_option linter.unusedVariables false
def Ex.to : Ex → Exit
  | .normal => .normal
  | .exit id => .exit id
  | .ret => .ret
theorem Runs.elim {P : Program} {N : Nat} {c : Code} {T T' : Tm} {H H' : Heap} {n n' : Nat} {e : Ex} (r : Runs P N c T H n e T' H' n') {μ : Mu} {a : Act} {w : World} (hg : Gl P μ) (ht : TRel N μ (tget T) a.tmps) (hr : Rep μ (lk H) w)
    (hd : a.defers = []) (hf : ∀ i, n ≤ i → μ i = none) {Q : Exit → Act → World → Prop}
    (hQ : ∀ μ' a' w', μ.le μ' → (∀ i, i < n → μ' i = μ i) → (∀ i, n' ≤ i → μ' i = none) → TRel N μ' (tget T') a'.tmps → Rep μ' (lk H') w' → a'.defers = [] → Keeps μ (lk H) w μ' (lk H') w' → Q e.to a' w') : c.wp P Q a w := by
  refine r.2 μ a w hg ht hr hd hf Q ?_
  intro μ' a' w' h1 h2 h3 h4 h5 h6 h7
  have := hQ μ' a' w' h1 h2 h3 h4 h5 h6 h7
  cases e <;> exact this
theorem Runs.intro {P : Program} {N : Nat} {c : Code} {T T' : Tm} {H H' : Heap} {n n' : Nat} {e : Ex} (hn : n ≤ n')
    (h : ∀ (μ : Mu) (a : Act) (w : World), Gl P μ → TRel N μ (tget T) a.tmps → Rep μ (lk H) w → a.defers = [] → (∀ i, n ≤ i → μ i = none) →
      ∀ Q : Exit → Act → World → Prop, (∀ μ' a' w', μ.le μ' → (∀ i, i < n → μ' i = μ i) → (∀ i, n' ≤ i → μ' i = none) → TRel N μ' (tget T') a'.tmps → Rep μ' (lk H') w' → a'.defers = [] → Keeps μ (lk H) w μ' (lk H') w' → Q e.to a' w') → c.wp P Q a w) :
    Runs P N c T H n e T' H' n' := by
  refine ⟨hn, fun μ a w hg ht hr hd hf Q hQ => h μ a w hg ht hr hd hf Q ?_⟩
  intro μ' a' w' h1 h2 h3 h4 h5 h6 h7
  have := hQ μ' a' w' h1 h2 h3 h4 h5 h6 h7
  cases e <;> exact this
theorem Runs.seq {P : Program} {N : Nat} {c d : Code} {T T1 T2 : Tm} {H H1 H2 : Heap} {n n1 n2 : Nat} {e : Ex} (a : Runs P N c T H n .normal T1 H1 n1) (b : Runs P N d T1 H1 n1 e T2 H2 n2) : Runs P N (.seq c d) T H n e T2 H2 n2 := by
  have hn1 := a.1
  have hn2 := b.1
  refine .intro (Nat.le_trans hn1 hn2) fun μ ac w hg ht hr hd hf Q hQ => ?_
  refine wp_seq (a.elim hg ht hr hd hf ?_)
  intro μ1 a1 w1 hle1 hsame1 hf1 ht1 hr1 hd1 hk1
  show d.wp P Q a1 w1
  refine b.elim (hg.le hle1) ht1 hr1 hd1 hf1 ?_
  intro μ2 a2 w2 hle2 hsame2 hf2 ht2 hr2 hd2 hk2
  exact hQ μ2 a2 w2 (Mu.le_trans hle1 hle2) (fun i hi => by rw [hsame2 i (by omega), hsame1 i hi]) hf2 ht2 hr2 hd2 (hk1.trans hk2)
theorem Runs.seq_out {P : Program} {N : Nat} {c d : Code} {T T1 : Tm} {H H1 : Heap} {n n1 : Nat} {e : Ex} (he : e ≠ .normal) (a : Runs P N c T H n e T1 H1 n1) : Runs P N (.seq c d) T H n e T1 H1 n1 := by
  refine .intro a.1 fun μ ac w hg ht hr hd hf Q hQ => ?_
  refine wp_seq (a.elim hg ht hr hd hf ?_)
  intro μ1 a1 w1 h1 h2 h3 h4 h5 h6 h7
  have := hQ μ1 a1 w1 h1 h2 h3 h4 h5 h6 h7
  cases e with
  | normal => exact absurd rfl he
  | exit id => exact this
  | ret => exact this
def outOf (id : Nat) : Ex → Ex
  | .exit i => bif Nat.beq i id then .normal else .exit i
  | e => e
theorem Runs.block {P : Program} {N : Nat} {id : Nat} {c : Code} {T T1 : Tm} {H H1 : Heap} {n n1 : Nat} {e : Ex} (a : Runs P N c T H n e T1 H1 n1) :
    Runs P N (.block id c) T H n (outOf id e) T1 H1 n1 := by
  refine .intro a.1 fun μ ac w hg ht hr hd hf Q hQ => ?_
  refine wp_block (a.elim hg ht hr hd hf ?_)
  intro μ1 a1 w1 h1 h2 h3 h4 h5 h6 h7
  have := hQ μ1 a1 w1 h1 h2 h3 h4 h5 h6 h7
  cases e with
  | normal => exact this
  | ret => exact this
  | exit i =>
    simp only [Ex.to, Exit.inBlock, outOf] at this ⊢
    cases hb : Nat.beq i id
    · rw [hb] at this
      rw [if_neg (beq_ff hb)]
      exact this
    · rw [hb] at this
      rw [if_pos (beq_tt hb)]
      exact this
theorem Runs.skip {P : Program} {N : Nat} (T : Tm) (H : Heap) (n : Nat) : Runs P N .skip T H n .normal T H n :=
  .intro (Nat.le_refl _) fun μ a w hg ht hr hd hf Q hQ => wp_skip (hQ μ a w (Mu.le_refl _) (fun _ _ => rfl) hf ht hr hd (Keeps.refl _ _ _))
theorem Runs.exit {P : Program} {N : Nat} (id : Nat) (T : Tm) (H : Heap) (n : Nat) : Runs P N (.exit id) T H n (.exit id) T H n :=
  .intro (Nat.le_refl _) fun μ a w hg ht hr hd hf Q hQ => wp_exit (hQ μ a w (Mu.le_refl _) (fun _ _ => rfl) hf ht hr hd (Keeps.refl _ _ _))
theorem Runs.ret {P : Program} {N : Nat} (T : Tm) (H : Heap) (n : Nat) : Runs P N .ret T H n .ret T H n :=
  .intro (Nat.le_refl _) fun μ a w hg ht hr hd hf Q hQ => wp_ret (hQ μ a w (Mu.le_refl _) (fun _ _ => rfl) hf ht hr hd (Keeps.refl _ _ _))
theorem Runs.cond {P : Program} {N : Nat} {x : Operand} {c d : Code} {T T1 : Tm} {H H1 : Heap} {n n1 : Nat} {e : Ex} {t : Bool} (hx : ev P T x = .bool t) (a : Runs P N (bif t then c else d) T H n e T1 H1 n1) : Runs P N (.cond x c d) T H n e T1 H1 n1 := by
  refine .intro a.1 fun μ ac w hg ht hr hd hf Q hQ => ?_
  have hv := ev_rel hg ht x
  rw [hx] at hv
  have he : ac.eval x = .bool t := by
    revert hv; generalize ac.eval x = X; intro hv; cases hv; rfl
  refine wp_cond he ?_
  have := a.elim hg ht hr hd hf hQ
  cases t <;> exact this
def LRuns (P : Program) (N : Nat) (c : Code) (m : Nat) (T : Tm) (H : Heap) (n : Nat) (e : Ex) (T' : Tm) (H' : Heap) (n' : Nat) : Prop :=
  n ≤ n' ∧ ∀ (μ : Mu) (a : Act) (w : World), Gl P μ → TRel N μ (tget T) a.tmps → Rep μ (lk H) w → a.defers = [] → (∀ i, n ≤ i → μ i = none) →
    ∀ Q : Exit → Act → World → Prop, (∀ μ' a' w', μ.le μ' → (∀ i, i < n → μ' i = μ i) → (∀ i, n' ≤ i → μ' i = none) → TRel N μ' (tget T') a'.tmps → Rep μ' (lk H') w' → a'.defers = [] → Keeps μ (lk H) w μ' (lk H') w' → Q e.to a' w') →
      Code.rounds P c Q m a w
theorem LRuns.last {P : Program} {N : Nat} {c : Code} {T T1 : Tm} {H H1 : Heap} {n n1 : Nat} {e : Ex} (he : e ≠ .normal) (a : Runs P N c T H n e T1 H1 n1) (m : Nat) : LRuns P N c (m + 1) T H n e T1 H1 n1 := by
  refine ⟨a.1, fun μ ac w hg ht hr hd hf Q hQ => ?_⟩
  rw [rounds_succ]
  refine a.elim hg ht hr hd hf ?_
  intro μ1 a1 w1 h1 h2 h3 h4 h5 h6 h7
  have := hQ μ1 a1 w1 h1 h2 h3 h4 h5 h6 h7
  cases e with
  | normal => exact absurd rfl he
  | exit id => exact this
  | ret => exact this
theorem LRuns.more {P : Program} {N : Nat} {c : Code} {T T1 T2 : Tm} {H H1 H2 : Heap} {n n1 n2 m : Nat} {e : Ex} (a : Runs P N c T H n .normal T1 H1 n1) (b : LRuns P N c m T1 H1 n1 e T2 H2 n2) : LRuns P N c (m + 1) T H n e T2 H2 n2 := by
  have hn1 := a.1
  refine ⟨Nat.le_trans hn1 b.1, fun μ ac w hg ht hr hd hf Q hQ => ?_⟩
  rw [rounds_succ]
  refine a.elim hg ht hr hd hf ?_
  intro μ1 a1 w1 hle1 hsame1 hf1 ht1 hr1 hd1 hk1
  show Code.rounds P c Q m a1 w1
  refine b.2 μ1 a1 w1 (hg.le hle1) ht1 hr1 hd1 hf1 Q ?_
  intro μ2 a2 w2 hle2 hsame2 hf2 ht2 hr2 hd2 hk2
  exact hQ μ2 a2 w2 (Mu.le_trans hle1 hle2) (fun i hi => by rw [hsame2 i (by omega), hsame1 i hi]) hf2 ht2 hr2 hd2 (hk1.trans hk2)
theorem LRuns.loop {P : Program} {N : Nat} {c : Code} {T T1 : Tm} {H H1 : Heap} {n n1 m : Nat} {e : Ex} (a : LRuns P N c m T H n e T1 H1 n1) : Runs P N (.loop c) T H n e T1 H1 n1 :=
  .intro a.1 fun μ ac w hg ht hr hd hf Q hQ => wp_loop_rounds m (a.2 μ ac w hg ht hr hd hf Q hQ)
theorem tget_live (T : Tm) : ∀ (live : List Nat) (t : Nat), tget (live.map fun t => (t, tget T t)) t = tget T t ∨ tget (live.map fun t => (t, tget T t)) t = .tuple ⟨[]⟩
  | [], t => .inr rfl
  | x :: r, t => by
    simp only [List.map_cons, tget]
    cases e : Nat.beq t x
    · simpa using tget_live T r t
    · rw [beq_tt e]; simp
theorem TRel.live {N : Nat} {μ : Mu} {T : Tm} {tmps : Array Value} (r : TRel N μ (tget T) tmps) (live : List Nat) : TRel N μ (tget (live.map fun t => (t, tget T t))) tmps := by
  refine ⟨r.1, fun t => ?_⟩
  rcases tget_live T live t with h | h <;> rw [h]
  · exact r.2 t
  · exact .junk _
def pickH (H : HF) : List Nat → Option Heap
  | [] => some []
  | i :: r => match H i, pickH H r with
    | some B, some h => some ((i, B) :: h)
    | _, _ => none
theorem pickH_lk {H : HF} : ∀ {ids : List Nat} {h : Heap}, pickH H ids = some h → ∀ i, lk h i = bif memB i ids then H i else none
  | [], h, hp, i => by simp [pickH] at hp; subst hp; rfl
  | x :: r, h, hp, i => by
    simp only [pickH] at hp
    cases hx : H x with
    | none => simp [hx] at hp
    | some B =>
      cases hr : pickH H r with
      | none => simp [hx, hr] at hp
      | some h1 =>
        simp [hx, hr] at hp; subst hp
        simp only [lk, memB]
        cases e : Nat.beq i x
        · simpa using pickH_lk hr i
        · simp [beq_tt e, hx]
def dropH (ids : List Nat) : Heap → Heap
  | [] => []
  | (i, B) :: r => bif memB i ids then dropH ids r else (i, B) :: dropH ids r
theorem dropH_lk {ids : List Nat} : ∀ (h : Heap) (i : Nat), lk (dropH ids h) i = bif memB i ids then none else lk h i
  | [], i => by simp only [dropH, lk]; cases memB i ids <;> rfl
  | (j, B) :: r, i => by
    simp only [dropH]
    cases hm : memB j ids
    · simp only [cond_false, lk]
      cases e : Nat.beq i j
      · simpa using dropH_lk r i
      · rw [beq_tt e, hm]; rfl
    · simp only [cond_true]
      rw [dropH_lk r i]
      cases hi : memB i ids
      · simp only [cond_false, lk]
        cases e : Nat.beq i j
        · rfl
        · rw [beq_tt e, hm] at hi; cases hi
      · rfl
theorem lk_append (a b : Heap) (i : Nat) : lk (a ++ b) i = match lk a i with | some B => some B | none => lk b i := by
  induction a with
  | nil => rfl
  | cons x r ih =>
    obtain ⟨j, B⟩ := x
    simp only [List.cons_append, lk]
    cases Nat.beq i j
    · simpa using ih
    · simp
theorem Rep.framed {μ μ' : Mu} {h h0 h1 h2 : HF} {w w' : World} (r : Rep μ h w) (h0le : ∀ i B, h0 i = some B → h i = some B) (hle : μ.le μ') (r1 : Rep μ' h1 w') (k : Keeps μ h0 w μ' h1 w')
    (e2 : ∀ i B, h2 i = some B → h1 i = some B ∨ (h1 i = none ∧ h0 i = none ∧ h i = some B)) : Rep μ' h2 w' ∧ Keeps μ h w μ' h2 w' := by
  have untouched : ∀ i B b, h i = some B → h0 i = none → μ i = some b → ¬ Own μ h0 b := by
    rintro i B b hB hno hb ⟨j, A, hA, hAro, hj⟩
    have hij : i ≠ j := by rintro rfl; rw [hno] at hA; cases hA
    have := (r.apart i j B A b hB (h0le j A hA) hb hj hij).2
    rw [hAro] at this; cases this
  have mixed : ∀ i B b j C, h i = some B → h0 i = none → μ i = some b → h1 j = some C → μ' j = some b → C.ro = true ∧ B.ro = true := by
    intro i B b j C hB hno hb hC hj
    obtain ⟨j0, A0, hA0, hm0, hr0⟩ := k.old j C b hC hj (r.bound i b hb)
    have hij : i ≠ j0 := by rintro rfl; rw [hno] at hA0; cases hA0
    have := r.apart i j0 B A0 b hB (h0le j0 A0 hA0) hb hm0 hij
    refine ⟨?_, this.1⟩
    cases hc : C.ro with
    | true => rfl
    | false => rw [hr0 hc] at this; cases this.2
  constructor
  · refine ⟨?_, ?_, r1.bound, ?_, r1.frz, ?_⟩
    · intro i B hB
      rcases e2 i B hB with h | ⟨_, hno, h⟩
      · exact r1.blk i B h
      · obtain ⟨b, hb, hrel⟩ := r.blk i B h
        refine ⟨b, hle i b hb, ?_⟩
        rw [k.same b (r.bound i b hb) (untouched i B b h hno hb)]
        exact hrel.mono hle
    · intro i j A B b hA hB hi hj hne
      rcases e2 i A hA with h1' | ⟨_, hno, h1'⟩ <;> rcases e2 j B hB with h2' | ⟨_, hno', h2'⟩
      · exact r1.apart i j A B b h1' h2' hi hj hne
      · obtain ⟨b', hb', _⟩ := r.blk j B h2'
        have := hle j b' hb'
        rw [this] at hj
        obtain rfl : b' = b := by simpa using hj
        exact mixed j B b' i A h2' hno' hb' h1' hi
      · obtain ⟨b', hb', _⟩ := r.blk i A h1'
        have := hle i b' hb'
        rw [this] at hi
        obtain rfl : b' = b := by simpa using hi
        exact (mixed i A b' j B h1' hno hb' h2' hj).symm
      · obtain ⟨b', hb', _⟩ := r.blk i A h1'
        have h3 := hle i b' hb'
        rw [h3] at hi
        obtain rfl : b' = b := by simpa using hi
        obtain ⟨b'', hb'', _⟩ := r.blk j B h2'
        have h4 := hle j b'' hb''
        rw [h4] at hj
        obtain rfl : b'' = b' := by simpa using hj
        exact r.apart i j A B b'' h1' h2' hb' hb'' hne
    · intro i B b hB hro hi
      rcases e2 i B hB with h1' | ⟨_, hno, h1'⟩
      · exact r1.size i B b h1' hro hi
      · obtain ⟨b', hb', _⟩ := r.blk i B h1'
        have h3 := hle i b' hb'
        rw [h3] at hi
        obtain rfl : b' = b := by simpa using hi
        obtain ⟨cs, t, fr, he, hs⟩ := r.size i B b' h1' hro hb'
        have hlt := r.bound i b' hb'
        exact ⟨cs, t, fr, by rw [k.same b' hlt (untouched i B b' h1' hno hb')]; exact he, hs.trans (k.ksz b' hlt).symm⟩
    · intro i B b hB hro hi
      rcases e2 i B hB with h1' | ⟨_, hno, h1'⟩
      · exact r1.nofz i B b h1' hro hi
      · obtain ⟨b', hb', _⟩ := r.blk i B h1'
        have h3 := hle i b' hb'
        rw [h3] at hi
        obtain rfl : b' = b := by simpa using hi
        cases hf : μ'.fz b' with
        | none => rfl
        | some cs =>
          rcases k.nfz b' cs hf with h4 | h4 | h4
          · rw [r.nofz i B b' h1' hro hb'] at h4; cases h4
          · exact (untouched i B b' h1' hno hb' h4).elim
          · have := r.bound i b' hb'; omega
  · refine ⟨k.os, k.tape, k.output, k.size, ?_, ?_, k.ksz, k.kfz, ?_⟩
    · intro b hb hno
      exact k.same b hb fun ⟨i, B, e, ro, m⟩ => hno ⟨i, B, h0le i B e, ro, m⟩
    · intro i B b hB hm hb
      rcases e2 i B hB with h | ⟨_, hno, h⟩
      · obtain ⟨i0, B0, h0', m0, r0⟩ := k.old i B b h hm hb
        exact ⟨i0, B0, h0le i0 B0 h0', m0, r0⟩
      · obtain ⟨b', hb', _⟩ := r.blk i B h
        have := hle i b' hb'
        rw [this] at hm
        obtain rfl : b' = b := by simpa using hm
        exact ⟨i, B, h, hb', fun h => h⟩
    · intro b cs hf
      rcases k.nfz b cs hf with h4 | ⟨i, B, e, ro, m⟩ | h4
      · exact .inl h4
      · exact .inr (.inl ⟨i, B, h0le i B e, ro, m⟩)
      · exact .inr (.inr h4)
theorem Runs.framed {P : Program} {N : Nat} {c : Code} {T T1 : Tm} {H H0 H1 : Heap} {n n1 : Nat} {e : Ex} {live ids : List Nat} (hp : pickH (lk H) ids = some H0) (a : Runs P N c (live.map fun t => (t, tget T t)) H0 n e T1 H1 n1) :
    Runs P N c T H n e T1 (H1 ++ dropH ids H) n1 := by
  have hlk := pickH_lk hp
  have h0le : ∀ i B, lk H0 i = some B → lk H i = some B := by
    intro i B hB
    rw [hlk] at hB
    cases hm : memB i ids <;> rw [hm] at hB
    · simp at hB
    · simpa using hB
  refine .intro a.1 fun μ ac w hg ht hr hd hf Q hQ => ?_
  refine a.elim hg (ht.live live) (hr.sub h0le) hd hf ?_
  intro μ1 a1 w1 hle1 hsame1 hf1 ht1 hr1 hd1 hk1
  obtain ⟨r2, k2⟩ := hr.framed h0le hle1 hr1 hk1 (h2 := lk (H1 ++ dropH ids H)) (by
    intro i B hB
    rw [lk_append] at hB
    cases h1 : lk H1 i with
    | some C => simp [h1] at hB; exact .inl (by rw [hB])
    | none =>
      simp only [h1] at hB
      rw [dropH_lk] at hB
      refine .inr ⟨rfl, ?_, ?_⟩
      · rw [hlk]
        cases hm : memB i ids
        · rfl
        · rw [hm] at hB; simp at hB
      · cases hm : memB i ids <;> rw [hm] at hB
        · simpa using hB
        · simp at hB)
  exact hQ μ1 a1 w1 hle1 hsame1 hf1 ht1 r2 hd1 k2
structure St where
  T : Tm
  H : Heap
  n : Nat
  hs : List Hint
  ob : List Prop
def xseg (P : Program) (N : Nat) (c : Code) (s : St) : List Hint → Option (Ex × St)
  | .seg live ids e T1 H1 n1 :: hs =>
    match pickH (lk s.H) ids with
    | some H0 => some (e, { T := T1, H := H1 ++ dropH ids s.H, n := n1, hs, ob := s.ob ++ [Runs P N c (live.map fun t => (t, tget s.T t)) H0 s.n e T1 H1 n1] })
    | none => none
  | _ => none
def xsegk (P : Program) (N : Nat) (k i : Nat) (c : Code) (s : St) : List Hint → Option (Ex × St)
  | .segk k' id live ids e T1 H1 n1 :: hs => bif Nat.beq k k' && Nat.beq i id then xseg P N c s (.seg live ids e T1 H1 n1 :: hs) else none
  | _ => none
def xcode (P : Program) (N : Nat) : Nat → Code → St → Option (Ex × St)
  | 0, _, _ => none
  | f + 1, c, s =>
    match c with
    | .skip => some (.normal, s)
    | .exit id => some (.exit id, s)
    | .ret => some (.ret, s)
    | .region id ops draw =>
      match xsegk P N 0 id (.region id ops draw) s s.hs with
      | some r => some r
      | none =>
      match xreg P N ops ops.toList s.T s.H s.n s.hs with
      | some (recs, T', H', n', hs') => bif !draw || orderOk ops recs then some (.normal, { T := T', H := H', n := n', hs := hs', ob := s.ob ++ obsOf recs }) else none
      | none => none
    | .seq a b =>
      match xcode P N f a s with
      | some (.normal, s') => xcode P N f b s'
      | r => r
    | .cond x a b =>
      match xsegk P N 2 0 (.cond x a b) s s.hs with
      | some r => some r
      | none =>
        match ev P s.T x with
        | .bool t =>
          match takeB t s.hs with
          | some (d, hs, ob) => xcode P N f (bif d then a else b) { s with hs := hs, ob := s.ob ++ ob }
          | none => none
        | _ => none
    | .block id b =>
      match xseg P N (.block id b) s s.hs with
      | some r => some r
      | none =>
      match xsegk P N 1 id (.block id b) s s.hs with
      | some r => some r
      | none =>
        match xcode P N f b s with
        | some (.exit i, s') => some (bif Nat.beq i id then .normal else .exit i, s')
        | r => r
    | .loop b =>
      match s.hs with
      | .unroll :: hs =>
        match xcode P N f b { s with hs := hs } with
        | some (.normal, s') => xcode P N f (.loop b) s'
        | r => r
      | _ => none
    | _ => none
theorem xseg_ok {P : Program} {N : Nat} {c : Code} {s s' : St} {hs : List Hint} {e : Ex} (h : xseg P N c s hs = some (e, s')) : (∀ q ∈ s.ob, q ∈ s'.ob) ∧ ((∀ q ∈ s'.ob, q) → Runs P N c s.T s.H s.n e s'.T s'.H s'.n) := by
  unfold xseg at h
  split at h
  · rename_i live ids e1 T1 H1 n1 hs'
    cases hp : pickH (lk s.H) ids with
    | none => simp [hp] at h
    | some H0 =>
      simp only [hp, Option.some.injEq, Prod.mk.injEq] at h
      obtain ⟨rfl, rfl⟩ := h
      exact ⟨fun q hq => by simp [hq], fun hob => Runs.framed (live := live) hp (hob _ (by simp))⟩
  · simp at h
theorem xsegk_ok {P : Program} {N k i : Nat} {c : Code} {s s' : St} {hs : List Hint} {e : Ex} (h : xsegk P N k i c s hs = some (e, s')) : (∀ q ∈ s.ob, q ∈ s'.ob) ∧ ((∀ q ∈ s'.ob, q) → Runs P N c s.T s.H s.n e s'.T s'.H s'.n) := by
  unfold xsegk at h
  split at h
  · rename_i k' id live ids e1 T1 H1 n1 hs'
    cases hb : (Nat.beq k k' && Nat.beq i id) <;> rw [hb] at h
    · cases h
    · simp only [cond_true] at h; exact xseg_ok h
  · cases h
theorem xcode_ok {P : Program} {N : Nat} (hG : P.globals.size ≤ 1000) (hM : P.follows .mixedOrders = true) : ∀ (f : Nat) (c : Code) (s s' : St) (e : Ex), xcode P N f c s = some (e, s') →
    (∀ q ∈ s.ob, q ∈ s'.ob) ∧ ((∀ q ∈ s'.ob, q) → Runs P N c s.T s.H s.n e s'.T s'.H s'.n ∧ ∀ b, c = .loop b → ∃ m, LRuns P N b m s.T s.H s.n e s'.T s'.H s'.n)
  | 0, c, s, s', e, h => by simp [xcode] at h
  | f + 1, c, s, s', e, h => by
    have nl : ∀ {R : Prop}, R → (∀ b, c ≠ .loop b) → R ∧ ∀ b, c = .loop b → ∃ m, LRuns P N b m s.T s.H s.n e s'.T s'.H s'.n := fun r hn => ⟨r, fun b hb => absurd hb (hn b)⟩
    simp only [xcode] at h
    split at h
    case h_1 =>
      simp only [Option.some.injEq, Prod.mk.injEq] at h
      obtain ⟨rfl, rfl⟩ := h
      exact ⟨fun q hq => hq, fun _ => nl (Runs.skip _ _ _) (by simp)⟩
    case h_2 id =>
      simp only [Option.some.injEq, Prod.mk.injEq] at h
      obtain ⟨rfl, rfl⟩ := h
      exact ⟨fun q hq => hq, fun _ => nl (Runs.exit _ _ _ _) (by simp)⟩
    case h_3 =>
      simp only [Option.some.injEq, Prod.mk.injEq] at h
      obtain ⟨rfl, rfl⟩ := h
      exact ⟨fun q hq => hq, fun _ => nl (Runs.ret _ _ _) (by simp)⟩
    case h_4 id ops draw =>
      split at h
      · rename_i r hs
        simp only [Option.some.injEq] at h
        subst h
        obtain ⟨m1, r1⟩ := xsegk_ok hs
        exact ⟨m1, fun hob => nl (r1 hob) (by simp)⟩
      split at h
      · rename_i recs T' H' n' hs' hx
        cases hc : (!draw || orderOk ops recs) <;> rw [hc] at h
        · simp at h
        · simp only [cond_true, Option.some.injEq, Prod.mk.injEq] at h
          obtain ⟨rfl, rfl⟩ := h
          refine ⟨fun q hq => by simp [hq], fun hob => nl (region_ok hG hM hx ?_ fun q hq => hob q (by simp [hq])) (by simp)⟩
          intro hd
          simpa [hd] using hc
      · simp at h
    case h_5 a b =>
      split at h
      · rename_i s1 ha
        obtain ⟨m1, r1⟩ := xcode_ok hG hM f a s s1 .normal ha
        obtain ⟨m2, r2⟩ := xcode_ok hG hM f b s1 s' e h
        refine ⟨fun q hq => m2 q (m1 q hq), fun hob => nl ?_ (by simp)⟩
        exact Runs.seq (r1 fun q hq => hob q (m2 q hq)).1 (r2 hob).1
      · rename_i r hne
        obtain ⟨m1, r1⟩ := xcode_ok hG hM f a s s' e h
        refine ⟨m1, fun hob => nl (Runs.seq_out ?_ (r1 hob).1) (by simp)⟩
        rintro rfl
        exact hne _ h
    case h_6 x a b =>
      split at h
      · rename_i r hs
        simp only [Option.some.injEq] at h
        subst h
        obtain ⟨m1, r1⟩ := xsegk_ok hs
        exact ⟨m1, fun hob => nl (r1 hob) (by simp)⟩
      · split at h
        · rename_i t ht
          split at h
          · rename_i d hs ob htk
            obtain ⟨m1, r1⟩ := xcode_ok hG hM f _ _ s' e h
            refine ⟨fun q hq => m1 q (by simp [hq]), fun hob => nl ?_ (by simp)⟩
            have hd : t = d := takeB_spec htk fun q hq => hob q (m1 q (by simp [hq]))
            subst hd
            exact Runs.cond ht (r1 hob).1
          · simp at h
        · simp at h
    case h_7 id b =>
      split at h
      · rename_i r hs
        simp only [Option.some.injEq] at h
        subst h
        obtain ⟨m1, r1⟩ := xseg_ok hs
        exact ⟨m1, fun hob => nl (r1 hob) (by simp)⟩
      split at h
      · rename_i r hs
        simp only [Option.some.injEq] at h
        subst h
        obtain ⟨m1, r1⟩ := xsegk_ok hs
        exact ⟨m1, fun hob => nl (r1 hob) (by simp)⟩
      · split at h
        · rename_i i s1 hb
          simp only [Option.some.injEq, Prod.mk.injEq] at h
          obtain ⟨rfl, rfl⟩ := h
          obtain ⟨m1, r1⟩ := xcode_ok hG hM f b s s1 _ hb
          exact ⟨m1, fun hob => nl (Runs.block (r1 hob).1) (by simp)⟩
        · rename_i r hne
          obtain ⟨m1, r1⟩ := xcode_ok hG hM f b s s' e h
          refine ⟨m1, fun hob => nl ?_ (by simp)⟩
          have := Runs.block (id := id) (r1 hob).1
          cases e with
          | normal => exact this
          | ret => exact this
          | exit i => exact absurd h (hne i s')
    case h_8 b =>
      split at h
      · rename_i hs hhs
        split at h
        · rename_i s1 hb
          obtain ⟨m1, r1⟩ := xcode_ok hG hM f b _ s1 .normal hb
          obtain ⟨m2, r2⟩ := xcode_ok hG hM f (.loop b) s1 s' e h
          refine ⟨fun q hq => m2 q (m1 q hq), fun hob => ?_⟩
          obtain ⟨m, hm⟩ := (r2 hob).2 b rfl
          have := LRuns.more (r1 fun q hq => hob q (m2 q hq)).1 hm
          exact ⟨this.loop, fun b' hb' => by injection hb' with hb'; subst hb'; exact ⟨_, this⟩⟩
        · rename_i r hne
          obtain ⟨m1, r1⟩ := xcode_ok hG hM f b _ s' e h
          refine ⟨m1, fun hob => ?_⟩
          have he : e ≠ .normal := by rintro rfl; exact hne _ h
          have := LRuns.last he (r1 hob).1 0
          exact ⟨this.loop, fun b' hb' => by injection hb' with hb'; subst hb'; exact ⟨_, this⟩⟩
      · simp at h
    case h_9 => simp at h
def xresL (P : Program) (H : HF) (T : Tm) : List ResultVar → Option (List Value × List Prop)
  | [] => some ([], [])
  | .tmp t :: r => match xresL P H T r with
    | some (vs, ob) => some (tget T t :: vs, ob)
    | none => none
  | .cell a t :: r => match xload P H t (tget T a), xresL P H T r with
    | some (v, _, ob1), some (vs, ob) => some (v :: vs, ob1 ++ ob)
    | _, _ => none
def tupleOf : List Value → Value
  | [v] => v
  | vs => .tuple ⟨vs⟩
def argsT : Nat → List Value → Tm
  | _, [] => []
  | i, v :: r => (i, v) :: argsT (i + 1) r
def xfun (P : Program) (fn : Func) (fuel : Nat) (A : List Value) (H : Heap) (n0 : Nat) (hs : List Hint) : Option (Value × Heap × List Prop) :=
  match fn.body with
  | some c =>
    bif Nat.ble A.length fn.ntmps then
      match xcode P fn.ntmps fuel c { T := argsT 0 A, H, n := n0, hs, ob := [] } with
      | some (.exit _, _) => none
      | some (_, s) =>
        match xresL P (lk s.H) s.T fn.results.toList with
        | some (vs, ob) => some (tupleOf vs, s.H, s.ob ++ ob)
        | none => none
      | none => none
    else none
  | none => none
def conjP : List Prop → Prop → Prop
  | [], q => q
  | p :: r, q => p ∧ conjP r q
theorem conjP_spec : ∀ {l : List Prop} {q : Prop}, conjP l q → (∀ p ∈ l, p) ∧ q
  | [], q, h => ⟨by simp, h⟩
  | p :: r, q, h => by
    obtain ⟨a, b⟩ := conjP_spec h.2
    refine ⟨fun x hx => ?_, b⟩
    simp only [List.mem_cons] at hx
    rcases hx with rfl | hx
    · exact h.1
    · exact a x hx
def subP (H : HF) : Heap → Prop
  | [] => True
  | (i, B) :: r => H i = some B ∧ subP H r
theorem subP_spec {H : HF} : ∀ {h : Heap}, subP H h → ∀ i B, lk h i = some B → H i = some B
  | [], _, i, B, hl => by simp [lk] at hl
  | (j, C) :: r, h, i, B, hl => by
    simp only [lk] at hl
    cases e : Nat.beq i j <;> rw [e] at hl
    · exact subP_spec h.2 i B (by simpa using hl)
    · simp at hl; subst hl; rw [beq_tt e]; exact h.1
def xok (P : Program) (fn : Func) (fuel : Nat) (A : List Value) (H : Heap) (n0 : Nat) (hs : List Hint) (v : Value) (H' : Heap) : Prop :=
  match xfun P fn fuel A H n0 hs with
  | some (v', Hend, ob) => conjP ob (v' = v ∧ subP (lk Hend) H')
  | none => False
def resOne (tmps : Array Value) : ResultVar → Sem Value
  | .tmp t => pure (tmps.getD t undef)
  | .cell a t => do loadVar t (← asAddr (tmps.getD a undef))
theorem results_eq (fn : Func) (tmps : Array Value) : results fn tmps = (do
    let vs ← fn.results.mapM (resOne tmps)
    pure (if h : vs.size = 1 then vs[0] else .tuple vs)) := by
  unfold results
  congr 1
theorem xresL_ok {P : Program} {h : HF} {T : Tm} {N : Nat} {μ : Mu} {tmps : Array Value} {w : World} (ht : TRel N μ (tget T) tmps) (hr : Rep μ h w) : ∀ {l : List ResultVar} {vs : List Value} {ob : List Prop}, xresL P h T l = some (vs, ob) → (∀ q ∈ ob, q) →
    ∃ rvs, VRels μ vs rvs ∧ (l.mapM (resOne tmps)).run P w = .ok rvs w
  | [], vs, ob, h, _ => by
    simp only [xresL, Option.some.injEq, Prod.mk.injEq] at h
    obtain ⟨rfl, rfl⟩ := h
    exact ⟨[], .nil, rfl⟩
  | .tmp t :: r, vs, ob, h, hob => by
    simp only [xresL] at h
    split at h
    · rename_i vs1 ob1 h1
      simp only [Option.some.injEq, Prod.mk.injEq] at h
      obtain ⟨rfl, rfl⟩ := h
      obtain ⟨rvs, a, b⟩ := xresL_ok ht hr h1 hob
      refine ⟨_, .cons (ht.2 t) a, ?_⟩
      simp only [List.mapM_cons, resOne, Sem.run_bind, Sem.run_pure, Result.andThen_ok, b]
    · simp at h
  | .cell p t :: r, vs, ob, h, hob => by
    simp only [xresL] at h
    split at h
    · rename_i v i ob0 vs1 ob1 hl h1
      simp only [Option.some.injEq, Prod.mk.injEq] at h
      obtain ⟨rfl, rfl⟩ := h
      obtain ⟨rvs, a, b⟩ := xresL_ok ht hr h1 (fun q hq => hob q (by simp [hq]))
      obtain ⟨rv, hrun, hv⟩ := xload_ok hl (fun q hq => hob q (by simp [hq])) rfl hr (ht.2 p)
      refine ⟨_, .cons hv a, ?_⟩
      have hone : (resOne tmps (.cell p t)).run P w = .ok rv w := by
        show ((do loadVar t (← asAddr (tmps.getD p undef)) : Sem Value)).run P w = .ok rv w
        revert hrun
        generalize tmps.getD p undef = X
        intro hrun
        cases X with
        | pointer q => cases q with
          | some ad => exact hrun
          | none => simp [Instr.loadAt, Instr.sureAddr, stuck, Sem.run] at hrun
        | _ => simp [Instr.loadAt, Instr.sureAddr, stuck, Sem.run] at hrun
      simp only [List.mapM_cons, Sem.run_bind, hone, Result.andThen_ok, b, Sem.run_pure]
    · simp at h
theorem tget_argsT : ∀ (A : List Value) (i t : Nat), tget (argsT i A) t = if i ≤ t then (A[t - i]?).getD (.tuple ⟨[]⟩) else .tuple ⟨[]⟩
  | [], i, t => by simp [argsT, tget]
  | v :: r, i, t => by
    simp only [argsT, tget]
    cases e : Nat.beq t i
    · simp only [cond_false]
      have hne := beq_ff e
      rw [tget_argsT r (i + 1) t]
      by_cases h : i ≤ t
      · rw [if_pos h, if_pos (by omega), show t - i = (t - (i + 1)) + 1 by omega]
        simp
      · rw [if_neg h, if_neg (by omega)]
    · rw [beq_tt e]; simp
theorem args_tmps {μ : Mu} {A rargs : List Value} {N : Nat} (hA : VRels μ A rargs) (hle : A.length ≤ N) : TRel N μ (tget (argsT 0 A)) (⟨rargs⟩ ++ Array.replicate (N - rargs.length) undef) := by
  have hl := hA.length
  refine ⟨by simp; omega, fun t => ?_⟩
  rw [tget_argsT]
  simp only [Nat.zero_le, if_true, Nat.sub_zero]
  cases h : A[t]? with
  | none => simp; exact .junk _
  | some v =>
    obtain ⟨y, hy, hv⟩ := hA.get t v h
    have hlt : t < rargs.length := (List.getElem?_eq_some_iff.1 hy).1
    rw [Array.getD_eq_getD_getElem?, Array.getElem?_append_left (by simpa using hlt)]
    simp [hy]
    exact hv
theorem fn_of_xokE {P : Program} (hG : P.globals.size ≤ 1000) (hM : P.follows .mixedOrders = true) {g : FuncId} {fn : Func} (hf : P.funcs[g]? = some fn) (hb : fn.body.isSome = true) (hn : (fn.name == "runtime.NumGoroutine") = false) {fuel : Nat} {A : List Value} {H : Heap} {n0 : Nat}
    {hs : List Hint} {v' : Value} {Hend : Heap} {ob : List Prop} (hx : xfun P fn fuel A H n0 hs = some (v', Hend, ob)) (hob : ∀ q ∈ ob, q) : FnSpec P g n0 A H v' Hend := by
  unfold xfun at hx
  obtain ⟨c, hc⟩ := Option.isSome_iff_exists.1 hb
  simp only [hc] at hx
  cases hle : Nat.ble A.length fn.ntmps <;> rw [hle] at hx
  · simp at hx
  simp only [cond_true] at hx
  constructor
  · intro args w
    unfold callFunc program
    simp only [Sem.run_bind, Sem.run, Result.andThen_ok, hf]
    rw [if_neg (by simp [hn]), if_neg (by simp [hc])]
    rfl
  · intro μ w rargs hg hfr hA hr
    refine calls_of_wp hf hc ?_
    have htm := args_tmps hA (ble_tt hle)
    have key : ∀ (e : Ex) (s : St), xcode P fn.ntmps fuel c { T := argsT 0 A, H, n := n0, hs, ob := [] } = some (e, s) → (∀ i, e ≠ .exit i) → (match xresL P (lk s.H) s.T fn.results.toList with
        | some (vs, ob) => some (tupleOf vs, s.H, s.ob ++ ob)
        | none => none) = some (v', Hend, ob) → c.wp P (bodyPost P fn fun e w' => ∃ μ' rv, μ.le μ' ∧ Rep μ' (lk Hend) w' ∧ VRel μ' v' rv ∧ e = .returned rv ∧ Keeps μ (lk H) w μ' (lk Hend) w') { tmps := ⟨rargs⟩ ++ Array.replicate (fn.ntmps - (⟨rargs⟩ : Array Value).size) undef, defers := [] } w := by
      intro e s hxc he hres
      split at hres
      · rename_i vs ob1 hxr
        simp only [Option.some.injEq, Prod.mk.injEq] at hres
        obtain ⟨rfl, rfl, rfl⟩ := hres
        have hruns := ((xcode_ok hG hM fuel c _ s e hxc).2 fun q hq => hob q (by simp [hq])).1
        refine hruns.elim hg htm hr rfl hfr ?_
        intro μ1 a1 w1 hle1 hsame1 hf1 ht1 hr1 hd1 hk1
        obtain ⟨rvs, hrv, hrun⟩ := xresL_ok (P := P) ht1 hr1 hxr (fun q hq => hob q (by simp [hq]))
        have hres : (results fn a1.tmps).run P w1 = .ok (if h : (⟨rvs⟩ : Array Value).size = 1 then (⟨rvs⟩ : Array Value)[0] else .tuple ⟨rvs⟩) w1 := by
          rw [results_eq]
          simp only [Sem.run_bind, Array.mapM_eq_mapM_toList, Sem.run_map, hrun, Result.andThen_ok, Sem.run_pure]
        have hfin : ∃ rv, (results fn a1.tmps).run P w1 = .ok rv w1 ∧ VRel μ1 (tupleOf vs) rv := by
          refine ⟨_, hres, ?_⟩
          have hlen := hrv.length
          match vs, rvs, hrv with
          | [], [], _ => simp [tupleOf]; exact .junk _
          | [x], [y], hh => cases hh with | cons a b => simpa [tupleOf] using a
          | x :: x' :: r, y :: y' :: r', hh => simp [tupleOf]; exact .tup hh
          | [], _ :: _, hh => nomatch hh
          | _ :: _, [], hh => nomatch hh
          | [_], _ :: _ :: _, hh => exact absurd hh.length (by simp)
          | _ :: _ :: _, [_], hh => exact absurd hh.length (by simp)
        obtain ⟨rv, hrun1, hv⟩ := hfin
        have post : a1.defers = [] ∧ ∃ v, (results fn a1.tmps).run P w1 = .ok v w1 ∧ ∃ μ' rv, μ.le μ' ∧ Rep μ' (lk s.H) w1 ∧ VRel μ' (tupleOf vs) rv ∧ Ending.returned v = .returned rv ∧ Keeps μ (lk H) w μ' (lk s.H) w1 :=
          ⟨hd1, rv, hrun1, μ1, rv, hle1, hr1, hv, rfl, hk1⟩
        cases e with
        | normal => exact post
        | ret => exact post
        | exit i => exact absurd rfl (he i)
      · simp at hres
    split at hx
    · simp at hx
    · rename_i e s hne hxc
      refine key e s hxc ?_ hx
      rintro i rfl
      exact hne i rfl
    · simp at hx
theorem FnSpec.sub {P : Program} {g : FuncId} {A : List Value} {H : Heap} {n0 : Nat} {v : Value} {Hend H' : Heap} (f : FnSpec P g n0 A H v Hend) (hs : subP (lk Hend) H') : FnSpec P g n0 A H v H' :=
  ⟨f.enters, fun μ w rargs hg hfr hA hr => (f.runs μ w rargs hg hfr hA hr).mono fun e w' ⟨μ', rv, h1, h2, h3, h4, h5⟩ => ⟨μ', rv, h1, h2.sub (subP_spec hs), h3, h4, h5.sub (subP_spec hs)⟩⟩
theorem fn_of_xok {P : Program} (hG : P.globals.size ≤ 1000) (hM : P.follows .mixedOrders = true) {g : FuncId} {fn : Func} (hf : P.funcs[g]? = some fn) (hb : fn.body.isSome = true) (hn : (fn.name == "runtime.NumGoroutine") = false) {fuel : Nat} {A : List Value} {H : Heap} {n0 : Nat}
    {hs : List Hint} {v : Value} {H' : Heap} (h : xok P fn fuel A H n0 hs v H') : FnSpec P g n0 A H v H' := by
  unfold xok at h
  split at h
  case h_2 => exact h.elim
  case h_1 v' Hend ob hx =>
  obtain ⟨hob, rfl, hsub⟩ := conjP_spec h
  exact (fn_of_xokE hG hM hf hb hn hx hob).sub hsub
def allP : List Prop → Prop
  | [] => True
  | p :: r => p ∧ allP r
theorem allP_spec : ∀ {l : List Prop}, allP l → ∀ p ∈ l, p
  | [], _, p, hp => by simp at hp
  | q :: r, h, p, hp => by
    simp only [List.mem_cons] at hp
    rcases hp with rfl | hp
    · exact h.1
    · exact allP_spec h.2 p hp
theorem conjP_of : ∀ {l : List Prop} {q : Prop}, (∀ p ∈ l, p) → q → conjP l q
  | [], _, _, h => h
  | _ :: _, _, h, hq => ⟨h _ (by simp), conjP_of (fun p hp => h p (by simp [hp])) hq⟩
def xok2 (P : Program) (fn : Func) (fuel : Nat) (A : List Value) (H : Heap) (n0 : Nat) (hs : List Hint) (v : Value) (H' : Heap) : Prop :=
  match xfun P fn fuel A H n0 hs with
  | some (v', Hend, ob) => allP ob ∧ (v' = v ∧ subP (lk Hend) H')
  | none => False
def subT : Heap → Prop
  | [] => True
  | (_, B) :: r => some B = some B ∧ subT r
theorem subT_all : ∀ h : Heap, subT h
  | [] => trivial
  | (_, _) :: r => ⟨rfl, subT_all r⟩
theorem fn_of_x {P : Program} (hG : P.globals.size ≤ 1000) (hM : P.follows .mixedOrders = true) {g : FuncId} {fn : Func} (hf : P.funcs[g]? = some fn) (hb : fn.body.isSome = true) (hn : (fn.name == "runtime.NumGoroutine") = false) (fuel : Nat) (hs : List Hint)
    {A : List Value} {H : Heap} {n0 : Nat} {v : Value} {H' : Heap} {O : Prop} (o : O) (h : (O ∧ (v = v ∧ subT H')) = xok2 P fn fuel A H n0 hs v H') : FnSpec P g n0 A H v H' := by
  have h2 : xok2 P fn fuel A H n0 hs v H' := h ▸ ⟨o, rfl, subT_all H'⟩
  refine fn_of_xok hG hM hf hb hn (fuel := fuel) (hs := hs) ?_
  unfold xok2 at h2
  unfold xok
  split at h2
  · exact conjP_of (allP_spec h2.1) h2.2
  · exact h2.elim
theorem J {a b : Prop} (h : a) (k : b) : a ∧ b := ⟨h, k⟩
def rowsS : List Seg → Prop → Prop
  | [], k => k
  | .rows _ _ g :: r, k => (∀ j, (g j).all scalar = true) ∧ rowsS r k
  | _ :: r, k => rowsS r k
def rowsP : Heap → Prop
  | [] => True
  | (_, B) :: r => rowsS B.segs (rowsP r)
def xrun2 (P : Program) (N : Nat) (c : Code) (fuel : Nat) (T : Tm) (H : Heap) (n : Nat) (hs : List Hint) (e : Ex) (live : Tm) (H' : Heap) (n' : Nat) : Prop :=
  match xcode P N fuel c { T, H, n, hs, ob := [] } with
  | some (e', s) => allP s.ob ∧ (e' = e ∧ (tmP s.T live ∧ (subP (lk s.H) H' ∧ (freshP n' n s.n H' live ∧ rowsP H'))))
  | none => False
  where
  tmP (T : Tm) : Tm → Prop
    | [] => True
    | (t, v) :: r => tget T t = v ∧ tmP T r
  freshP (n' n m : Nat) (H' : Heap) (live : Tm) : Prop := (Nat.ble n n' && (Nat.ble m n' || (below n' H' && belowT n' live))) = true
  below (n' : Nat) : Heap → Bool
    | [] => true
    | (i, B) :: r => Nat.blt i n' && belowS n' B.segs && below n' r
  belowS (n' : Nat) : List Seg → Bool
    | [] => true
    | .one v :: r => belowV n' 6 v && belowS n' r
    | _ :: r => belowS n' r
  belowT (n' : Nat) : Tm → Bool
    | [] => true
    | (_, v) :: r => belowV n' 6 v && belowT n' r
  belowV (n' : Nat) : Nat → Value → Bool
    | _, .pointer (some a) => Nat.blt a.block n'
    | _, .slice (some a) _ _ => Nat.blt a.block n'
    | d + 1, .agg ⟨cs⟩ => cs.all (belowV n' d)
    | d + 1, .tuple ⟨cs⟩ => cs.all (belowV n' d)
    | d + 1, .func _ ⟨fs⟩ ⟨cs⟩ => fs.all (belowV n' d) && cs.all (belowV n' d)
    | d + 1, .iface _ v => belowV n' d v
    | 0, .agg _ => false
    | 0, .tuple _ => false
    | 0, .func .. => false
    | 0, .iface .. => false
    | _, _ => true
end Go.Proofs.YtgpcfjokmonlgaaDoor.VX
namespace Go.Proofs.YtgpcfjokmonlgaaDoor.VX
open Go
set_option linter.unusedSimpArgs false
set_option linter.unusedVariables false
theorem belowVs {n d : Nat} {μ μ' : Mu} (ih : ∀ v r, xrun2.belowV n d v = true → VRel μ v r → VRel μ' v r) : ∀ {l m : List Value}, l.all (xrun2.belowV n d) = true → VRels μ l m → VRels μ' l m
  | [], [], _, _ => .nil
  | x :: l, y :: m, h, hv => by
    simp only [List.all_cons, Bool.and_eq_true] at h
    cases hv with
    | cons a b => exact .cons (ih x y h.1 a) (belowVs ih h.2 b)
  | [], _ :: _, _, hv => nomatch hv
  | _ :: _, [], _, hv => nomatch hv
theorem belowV_rel {n : Nat} {μ μ' : Mu} (hμ : ∀ i b, i < n → μ i = some b → μ' i = some b) (hs' : ∀ b, μ'.sz b = μ.sz b) (hf' : ∀ b cs, μ.fz b = some cs → μ'.fz b = some cs) : ∀ (d : Nat) (v r : Value), xrun2.belowV n d v = true → VRel μ v r → VRel μ' v r := by
  intro d
  induction d with
  | zero =>
    intro v r hb h
    cases h with
    | ptr e off => exact .ptr (hμ _ _ (blt_tt (by simpa [xrun2.belowV] using hb)) e) _
    | ptrS e s off => exact .ptrS (hμ _ _ (blt_tt (by simpa [xrun2.belowV] using hb)) e) _ _
    | slice e off l c c' hc hz => exact .slice (hμ _ _ (blt_tt (by simpa [xrun2.belowV] using hb)) e) _ _ _ _ hc (by rw [hs']; exact hz)
    | lst z l f hs hr k => exact .lst z l f hs hr fun e => (k e).fmono hf'
    | fptr l hs hf k => exact .fptr l hs (hf' _ _ hf) k
    | sliceS e s off l c c' hc => exact .sliceS (hμ _ _ (blt_tt (by simpa [xrun2.belowV] using hb)) e) _ _ _ _ _ hc
    | sliceE i s off c a c' => exact .sliceE _ _ _ _ _ _
    | junk r => exact .junk _
    | und => exact .und
    | bool b => exact .bool b
    | int k n => exact .int k n
    | float k n => exact .float k n
    | string s => exact .string s
    | ptrNil => exact .ptrNil
    | sliceNil => exact .sliceNil
    | mapNil => exact .mapNil
    | nilFunc => exact .nilFunc
    | nilIface => exact .nilIface
    | func fn a b => simp [xrun2.belowV] at hb
    | iface t a => simp [xrun2.belowV] at hb
    | agg a => simp [xrun2.belowV] at hb
    | tup a => simp [xrun2.belowV] at hb
  | succ d ih =>
    intro v r hb h
    cases h with
    | ptr e off => exact .ptr (hμ _ _ (blt_tt (by simpa [xrun2.belowV] using hb)) e) _
    | ptrS e s off => exact .ptrS (hμ _ _ (blt_tt (by simpa [xrun2.belowV] using hb)) e) _ _
    | slice e off l c c' hc hz => exact .slice (hμ _ _ (blt_tt (by simpa [xrun2.belowV] using hb)) e) _ _ _ _ hc (by rw [hs']; exact hz)
    | lst z l f hs hr k => exact .lst z l f hs hr fun e => (k e).fmono hf'
    | fptr l hs hf k => exact .fptr l hs (hf' _ _ hf) k
    | sliceS e s off l c c' hc => exact .sliceS (hμ _ _ (blt_tt (by simpa [xrun2.belowV] using hb)) e) _ _ _ _ _ hc
    | sliceE i s off c a c' => exact .sliceE _ _ _ _ _ _
    | junk r => exact .junk _
    | und => exact .und
    | bool b => exact .bool b
    | int k n => exact .int k n
    | float k n => exact .float k n
    | string s => exact .string s
    | ptrNil => exact .ptrNil
    | sliceNil => exact .sliceNil
    | mapNil => exact .mapNil
    | nilFunc => exact .nilFunc
    | nilIface => exact .nilIface
    | func fn a b =>
      simp only [xrun2.belowV, Bool.and_eq_true] at hb
      exact .func fn (belowVs ih hb.1 a) (belowVs ih hb.2 b)
    | iface t a => exact .iface t (ih _ _ (by simpa [xrun2.belowV] using hb) a)
    | agg a => exact .agg (belowVs ih (by simpa [xrun2.belowV] using hb) a)
    | tup a => exact .tup (belowVs ih (by simpa [xrun2.belowV] using hb) a)
theorem scalar_below {n : Nat} {v : Value} (h : scalar v = true) : xrun2.belowV n 6 v = true := by
  cases v with
  | pointer a => cases a <;> simp_all [scalar, xrun2.belowV]
  | slice a l c => cases a <;> simp_all [scalar, xrun2.belowV]
  | map a => cases a <;> simp_all [scalar, xrun2.belowV]
  | func a b c => simp [scalar] at h
  | iface a b => simp [scalar] at h
  | agg a => simp [scalar] at h
  | tuple a => simp [scalar] at h
  | _ => simp_all [scalar, xrun2.belowV]
theorem rowsS_skip : ∀ {l : List Seg} {k : Prop}, rowsS l k → k
  | [], _, h => h
  | s :: r, k, h => by
    cases s with
    | rows m z g => exact rowsS_skip (l := r) h.2
    | one x => exact rowsS_skip (l := r) h
    | ints a b c => exact rowsS_skip (l := r) h
    | bools a b => exact rowsS_skip (l := r) h
    | gap m => exact rowsS_skip (l := r) h
theorem rowsP_lk : ∀ {H : Heap}, rowsP H → ∀ i B, lk H i = some B → rowsS B.segs True
  | [], _, i, B, h => by simp [lk] at h
  | (j, C) :: r, hb, i, B, h => by
    have tr : ∀ {l : List Seg} {k : Prop}, rowsS l k → rowsS l True := by
      intro l
      induction l with
      | nil => intro k _; trivial
      | cons s r ih =>
        intro k h
        cases s with
        | rows m z g => exact ⟨h.1, ih h.2⟩
        | one x => exact ih (k := k) h
        | ints a b c => exact ih (k := k) h
        | bools a b => exact ih (k := k) h
        | gap m => exact ih (k := k) h
    simp only [rowsP] at hb
    simp only [lk] at h
    cases e : Nat.beq i j <;> rw [e] at h
    · exact rowsP_lk (rowsS_skip hb) i B (by simpa using h)
    · simp at h; subst h; exact tr hb
theorem rowsS_tail {s : Seg} {r : List Seg} {k : Prop} (h : rowsS (s :: r) k) : rowsS r k := by
  cases s with
  | rows m z g => exact h.2
  | one x => exact h
  | ints a b c => exact h
  | bools a b => exact h
  | gap m => exact h
theorem belowS_get {n : Nat} : ∀ {l : List Seg} {o : Nat} {v : Value}, xrun2.belowS n l = true → rowsS l True → segsGet? l o = some v → xrun2.belowV n 6 v = true
  | [], o, v, _, _, h => by simp [segsGet?] at h
  | s :: r, o, v, hb, hw, h => by
    simp only [segsGet?] at h
    cases e : Nat.blt o s.size <;> rw [e] at h
    · refine belowS_get (l := r) ?_ (rowsS_tail hw) (by simpa using h)
      cases s <;> simp_all [xrun2.belowS]
    · simp only [cond_true] at h
      cases s with
      | one x =>
        simp only [xrun2.belowS, Bool.and_eq_true] at hb
        simp only [Seg.get?] at h
        cases e2 : Nat.beq o 0 <;> rw [e2] at h <;> simp at h
        subst h; exact hb.1
      | ints k m a =>
        simp only [Seg.get?] at h
        cases e2 : Nat.blt o m <;> rw [e2] at h <;> simp at h
        subst h; rfl
      | bools m a =>
        simp only [Seg.get?] at h
        cases e2 : Nat.blt o m <;> rw [e2] at h <;> simp at h
        subst h; rfl
      | rows m sz g =>
        simp only [Seg.get?] at h
        cases e2 : Nat.blt o (m * sz) <;> rw [e2] at h <;> simp at h
        exact scalar_below (List.all_eq_true.1 (hw.1 _) v (List.mem_of_getElem? h))
      | gap m => simp [Seg.get?] at h
theorem below_lk {n : Nat} : ∀ {H : Heap}, xrun2.below n H = true → ∀ i B, lk H i = some B → i < n ∧ xrun2.belowS n B.segs = true
  | [], _, i, B, h => by simp [lk] at h
  | (j, C) :: r, hb, i, B, h => by
    simp only [xrun2.below, Bool.and_eq_true] at hb
    simp only [lk] at h
    cases e : Nat.beq i j <;> rw [e] at h
    · exact below_lk hb.2 i B (by simpa using h)
    · simp at h; subst h; rw [beq_tt e]; exact ⟨blt_tt hb.1.1, hb.1.2⟩
theorem belowT_get {n : Nat} : ∀ {T : Tm}, xrun2.belowT n T = true → ∀ t, xrun2.belowV n 6 (tget T t) = true
  | [], _, t => rfl
  | (d, v) :: r, hb, t => by
    simp only [xrun2.belowT, Bool.and_eq_true] at hb
    simp only [tget]
    cases e : Nat.beq t d
    · simpa using belowT_get hb.2 t
    · simpa using hb.1
theorem tmP_get {T : Tm} : ∀ {live : Tm}, xrun2.tmP T live → ∀ t, tget live t = tget T t ∨ tget live t = .tuple ⟨[]⟩
  | [], _, t => .inr rfl
  | (d, v) :: r, h, t => by
    simp only [tget]
    cases e : Nat.beq t d
    · simpa using tmP_get h.2 t
    · rw [beq_tt e]; exact .inl (by simpa using h.1.symm)
theorem Runs.weaken {P : Program} {N : Nat} {c : Code} {T T1 live : Tm} {H H1 H' : Heap} {n n1 n' : Nat} {e : Ex} (a : Runs P N c T H n e T1 H1 n1) (hT : xrun2.tmP T1 live) (hH : subP (lk H1) H') (hF : xrun2.freshP n' n n1 H' live) (hW : rowsP H') :
    Runs P N c T H n e live H' n' := by
  simp only [xrun2.freshP, Bool.and_eq_true, Bool.or_eq_true] at hF
  obtain ⟨hn, hF⟩ := hF
  have hn := ble_tt hn
  have hsub := subP_spec hH
  refine .intro hn fun μ ac w hg ht hr hd hf Q hQ => ?_
  refine a.elim hg ht hr hd hf ?_
  intro μ1 a1 w1 hle1 hsame1 hf1 ht1 hr1 hd1 hk1
  have htm : TRel N μ1 (tget live) a1.tmps := by
    refine ⟨ht1.1, fun t => ?_⟩
    rcases tmP_get hT t with h | h <;> rw [h]
    · exact ht1.2 t
    · exact .junk _
  rcases hF with h | ⟨hb, hbt⟩
  · have h := ble_tt h
    exact hQ μ1 a1 w1 hle1 hsame1 (fun i hi => hf1 i (by omega)) htm (hr1.sub hsub) hd1 (hk1.sub hsub)
  · let μ2 : Mu := ⟨fun i => if i < n' then μ1 i else none, μ1.sz, μ1.fz⟩
    have h2 : ∀ i b, i < n' → μ1 i = some b → μ2 i = some b := fun i b hi hb => by simp only [μ2, if_pos hi, hb]
    have h3 : ∀ i b, μ2 i = some b → i < n' ∧ μ1 i = some b := by
      intro i b hb
      simp only [μ2] at hb
      split at hb
      · exact ⟨‹_›, hb⟩
      · cases hb
    have hbl := below_lk hb
    refine hQ μ2 a1 w1 ⟨?_, hle1.szs, hle1.fzs⟩ ?_ ?_ ?_ ?_ hd1 ?_
    · intro i b hi
      have hin : i < n := by
        rcases Nat.lt_or_ge i n with h | h
        · exact h
        · rw [hf i h] at hi; cases hi
      exact h2 i b (by omega) (hle1 i b hi)
    · intro i hi
      simp only [μ2, if_pos (show i < n' by omega)]
      exact hsame1 i hi
    · intro i hi
      simp only [μ2, if_neg (show ¬ i < n' by omega)]
    · exact ⟨htm.1, fun t => belowV_rel h2 (fun _ => rfl) (fun _ _ h => h) 6 _ _ (belowT_get hbt t) (htm.2 t)⟩
    · have r' := hr1.sub hsub
      refine ⟨?_, ?_, ?_, fun i B b hB hro hi => r'.size i B b hB hro (h3 i b hi).2, r'.frz, fun i B b hB hro hi => r'.nofz i B b hB hro (h3 i b hi).2⟩
      · intro i B hB
        obtain ⟨hi, hs⟩ := hbl i B hB
        obtain ⟨b, hb', cs, t, fr, e1, e2, e3⟩ := r'.blk i B hB
        exact ⟨b, h2 i b hi hb', cs, t, fr, e1, e2, fun off v hv => let ⟨x, hx, hvx⟩ := e3 off v hv; ⟨x, hx, belowV_rel h2 (fun _ => rfl) (fun _ _ h => h) 6 _ _ (belowS_get hs (rowsP_lk hW i B hB) hv) hvx⟩⟩
      · intro i j A B b hA hB hi hj hne
        exact r'.apart i j A B b hA hB (h3 i b hi).2 (h3 j b hj).2 hne
      · intro i b hi
        exact r'.bound i b (h3 i b hi).2
    · have k' := hk1.sub hsub
      exact { k' with old := fun i B b e m hb => k'.old i B b e (h3 i b m).2 hb }
def tmT : Tm → Prop
  | [] => True
  | (_, v) :: r => v = v ∧ tmT r
theorem tmT_all : ∀ l : Tm, tmT l
  | [] => trivial
  | (_, _) :: r => ⟨rfl, tmT_all r⟩
def rowsTS : List Seg → Prop → Prop
  | [], k => k
  | .rows _ _ _ :: r, k => (∀ _ : Nat, true = true) ∧ rowsTS r k
  | _ :: r, k => rowsTS r k
def rowsT : Heap → Prop
  | [] => True
  | (_, B) :: r => rowsTS B.segs (rowsT r)
theorem rowsTS_all : ∀ (l : List Seg) (k : Prop), k → rowsTS l k
  | [], _, h => h
  | s :: r, k, h => by
    cases s with
    | rows m z g => exact ⟨fun _ => rfl, rowsTS_all r k h⟩
    | one x => exact rowsTS_all r k h
    | ints a b c => exact rowsTS_all r k h
    | bools a b => exact rowsTS_all r k h
    | gap m => exact rowsTS_all r k h
theorem rowsT_all : ∀ H : Heap, rowsT H
  | [] => trivial
  | (_, B) :: r => rowsTS_all B.segs _ (rowsT_all r)
theorem runs_of_x {P : Program} (hG : P.globals.size ≤ 1000) (hM : P.follows .mixedOrders = true) {N : Nat} {c : Code} (fuel : Nat) (hs : List Hint) {T : Tm} {H : Heap} {n : Nat} {e : Ex} {live : Tm} {H' : Heap} {n' : Nat} {O : Prop} (o : O)
    (h : (O ∧ (e = e ∧ (tmT live ∧ (subT H' ∧ (true = true ∧ rowsT H'))))) = xrun2 P N c fuel T H n hs e live H' n') : Runs P N c T H n e live H' n' := by
  have h2 : xrun2 P N c fuel T H n hs e live H' n' := h ▸ ⟨o, rfl, tmT_all live, subT_all H', rfl, rowsT_all H'⟩
  unfold xrun2 at h2
  split at h2
  · rename_i e' s hx
    obtain ⟨ho, rfl, ht, hh, hf, hw⟩ := h2
    exact ((xcode_ok hG hM fuel c _ s e' hx).2 (allP_spec ho)).1.weaken ht hh hf hw
  · exact h2.elim
def iter {S R : Type} (step : S → S ⊕ R) : Nat → S → Option R
  | 0, _ => none
  | m + 1, s => match step s with
    | .inl s' => iter step m s'
    | .inr r => some r
theorem block_iter {P : Program} {N id n : Nat} {body : Code} {S R : Type} (step : S → S ⊕ R) (T0 : S → Tm) (H0 : S → Heap) (ex : R → Ex) (T1 : R → Tm) (H1 : R → Heap) (hex : ∀ r, ex r ≠ .normal)
    (hgo : ∀ s s', step s = .inl s' → Runs P N body (T0 s) (H0 s) n .normal (T0 s') (H0 s') n) (hout : ∀ s r, step s = .inr r → Runs P N body (T0 s) (H0 s) n (ex r) (T1 r) (H1 r) n)
    (m : Nat) (s : S) (r : R) (h : iter step m s = some r) : Runs P N (.block id (.loop body)) (T0 s) (H0 s) n (outOf id (ex r)) (T1 r) (H1 r) n := by
  have key : ∀ (m : Nat) (s : S), iter step m s = some r → ∃ k, LRuns P N body k (T0 s) (H0 s) n (ex r) (T1 r) (H1 r) n := by
    intro m
    induction m with
    | zero => intro s h; simp [iter] at h
    | succ m ih =>
      intro s h
      simp only [iter] at h
      cases hs : step s with
      | inl s' =>
        simp only [hs] at h
        obtain ⟨k, hk⟩ := ih s' h
        exact ⟨k + 1, LRuns.more (hgo s s' hs) hk⟩
      | inr r' =>
        simp only [hs, Option.some.injEq] at h
        subst h
        exact ⟨1, LRuns.last (hex _) (hout s _ hs) 0⟩
  obtain ⟨k, hk⟩ := key m s h
  exact Runs.block (id := id) hk.loop
def subCode : Code → List Nat → Code
  | c, [] => c
  | .seq a _, 0 :: r => subCode a r
  | .seq _ b, _ :: r => subCode b r
  | .cond _ a _, 0 :: r => subCode a r
  | .cond _ _ b, _ :: r => subCode b r
  | .block _ a, _ :: r => subCode a r
  | .loop a, _ :: r => subCode a r
  | c, _ => c
def bodyOf (f : Func) (p : List Nat) : Code := match f.body with
  | some c => subCode c p
  | none => .skip
end Go.Proofs.YtgpcfjokmonlgaaDoor.VX
namespace Go.Proofs.YtgpcfjokmonlgaaDoor.VX
open Go
set_option linter.unusedSimpArgs false
set_option linter.unusedVariables false
def frzAt (H : HF) (F : List Nat) (i : Nat) : Option (List Value) :=
  bif memB i F then
    match H i with
    | some B => bif B.ro then none else match gets B 0 B.size with
      | some l => bif l.all solid then some l else none
      | none => none
    | none => none
  else none
def rnF (G : Nat → Option (List Value)) : Nat → Value → Value
  | _, .func (.yield z) l c => .func (.yield z) l c
  | _, .func (.method s) l c => .func (.method s) l c
  | _, .pointer (some a) => match G a.block with
    | some _ => .tuple ⟨[]⟩
    | none => .pointer (some a)
  | _, .slice (some a) len z => match G a.block with
    | some l => bif a.spot.isNone && Nat.blt 0 z && Nat.beq ((l.drop a.off).take (len * z)).length (len * z) then .func (.yield z) ⟨(l.drop a.off).take (len * z)⟩ ⟨[.bool true]⟩ else .tuple ⟨[]⟩
    | none => .slice (some a) len z
  | d + 1, .agg ⟨cs⟩ => .agg ⟨cs.map (rnF G d)⟩
  | d + 1, .tuple ⟨cs⟩ => .tuple ⟨cs.map (rnF G d)⟩
  | d + 1, .func fn ⟨fs⟩ ⟨cs⟩ => .func fn ⟨fs.map (rnF G d)⟩ ⟨cs.map (rnF G d)⟩
  | d + 1, .iface t v => .iface t (rnF G d v)
  | 0, .agg _ => .tuple ⟨[]⟩
  | 0, .tuple _ => .tuple ⟨[]⟩
  | 0, .func .. => .tuple ⟨[]⟩
  | 0, .iface .. => .tuple ⟨[]⟩
  | _, v => v
def rnFS (G : Nat → Option (List Value)) : Seg → Seg
  | .one v => .one (rnF G 6 v)
  | .rows n sz g => .rows n sz (fun i => (g i).map (rnF G 6))
  | s => s
def rnFB (G : Nat → Option (List Value)) (B : Blk) : Blk := { B with segs := B.segs.map (rnFS G) }
def Mu.freeze (μ : Mu) (w : World) (H : HF) (F : List Nat) : Mu :=
  ⟨μ.nm, μ.sz, fun b => if (F.any fun i => decide (μ i = some b) && (frzAt H F i).isSome) = true then (match w.heap[b]? with | some (.cells cs _ _) => some cs | _ => none) else μ.fz b⟩
theorem frz_spec {H : HF} {F : List Nat} {i : Nat} {l : List Value} (h : frzAt H F i = some l) : i ∈ F ∧ ∃ B, H i = some B ∧ B.ro = false ∧ gets B 0 B.size = some l ∧ l.all solid = true := by
  unfold frzAt at h
  cases hm : memB i F <;> rw [hm] at h
  · simp at h
  · simp only [cond_true] at h
    have hin : i ∈ F := by
      induction F with
      | nil => simp [memB] at hm
      | cons y r ih =>
        simp only [memB, Bool.or_eq_true] at hm
        rcases hm with hm | hm
        · rw [beq_tt hm]; simp
        · exact List.mem_cons_of_mem _ (ih hm)
    refine ⟨hin, ?_⟩
    split at h
    · rename_i B hB
      cases hr : B.ro <;> rw [hr] at h
      · simp only [cond_false] at h
        split at h
        · rename_i l' hg
          cases ha : l'.all solid <;> rw [ha] at h
          · simp at h
          · simp at h; subst h; exact ⟨B, hB, hr, hg, ha⟩
        · simp at h
      · simp at h
    · simp at h
section
variable {μ : Mu} {h : HF} {w : World} {F : List Nat}
theorem Rep.frozenCells (r : Rep μ h w) {i b : Nat} {l : List Value} (hf : frzAt h F i = some l) (hb : μ i = some b) :
    ∃ cs t fr, w.heap[b]? = some (.cells cs t fr) ∧ (∀ (j : Nat) (v : Value), l[j]? = some v → cs[j]? = some v) := by
  obtain ⟨_, B, hB, hro, hg, hs⟩ := frz_spec hf
  obtain ⟨b', hb', cs, t, fr, he, _, hcs⟩ := r.blk i B hB
  rw [hb] at hb'
  obtain rfl : b = b' := by simpa using hb'
  refine ⟨cs, t, fr, he, ?_⟩
  obtain ⟨rs, g1, g2, g3⟩ := gets_spec hcs _ _ _ hg
  have : rs = l := VRels.eq_of_solids hs g1
  subst this
  intro j v hj
  simpa using g3 j v hj
theorem Rep.freeze_fz (r : Rep μ h w) {i b : Nat} {l : List Value} (hf : frzAt h F i = some l) (hb : μ i = some b) :
    ∃ cs, (μ.freeze w h F).fz b = some cs ∧ (∀ (j : Nat) (v : Value), l[j]? = some v → cs[j]? = some v) := by
  obtain ⟨cs, t, fr, he, hl⟩ := r.frozenCells hf hb
  refine ⟨cs, ?_, hl⟩
  have hin := (frz_spec hf).1
  have : (F.any fun i => decide (μ i = some b) && (frzAt h F i).isSome) = true := by
    rw [List.any_eq_true]
    exact ⟨i, hin, by simp [hb, hf]⟩
  simp only [Mu.freeze, this, if_true, he]
theorem Rep.freeze_le (r : Rep μ h w) : μ.le (μ.freeze w h F) := by
  refine ⟨fun _ _ h => h, fun _ _ _ => rfl, fun b cs hf => ?_⟩
  simp only [Mu.freeze]
  split
  · rename_i hany
    rw [List.any_eq_true] at hany
    obtain ⟨i, _, hi⟩ := hany
    simp only [Bool.and_eq_true, decide_eq_true_eq] at hi
    obtain ⟨l, hl⟩ := Option.isSome_iff_exists.1 hi.2
    obtain ⟨_, B, hB, hro, _⟩ := frz_spec hl
    rw [r.nofz i B b hB hro hi.1] at hf
    cases hf
  · exact hf
theorem rnFs {μ' : Mu} {f : Value → Value} (hf : ∀ x y, VRel μ x y → VRel μ' (f x) y) : ∀ {l m : List Value}, VRels μ l m → VRels μ' (l.map f) m
  | [], [], _ => .nil
  | x :: l, y :: m, h => by cases h with | cons a b => exact .cons (hf x y a) (rnFs hf b)
  | [], _ :: _, h => nomatch h
  | _ :: _, [], h => nomatch h
theorem Rep.freeze_rel (r : Rep μ h w) : ∀ (d : Nat) (v rv : Value), VRel μ v rv → VRel (μ.freeze w h F) (rnF (frzAt h F) d v) rv := by
  have hle : μ.le (μ.freeze w h F) := r.freeze_le
  have hsl : ∀ {i b : Nat} (e : μ i = some b) (off len z c' : Nat) (hc : len ≤ c') (hz : z = 0 ∨ off + c' * z ≤ μ.sz b),
      VRel (μ.freeze w h F) (match frzAt h F i with
        | some l => bif (none : Option Nat).isNone && Nat.blt 0 z && Nat.beq ((l.drop off).take (len * z)).length (len * z) then .func (.yield z) ⟨(l.drop off).take (len * z)⟩ ⟨[.bool true]⟩ else .tuple ⟨[]⟩
        | none => .slice (some ⟨i, off, none⟩) len z) (.slice (some ⟨b, off, none⟩) len c') := by
    intro i b e off len z c' hc hz
    cases hf : frzAt h F i with
    | none => exact (VRel.slice e off len z c' hc hz).mono hle
    | some l =>
      simp only
      cases hcond : ((none : Option Nat).isNone && Nat.blt 0 z && Nat.beq ((l.drop off).take (len * z)).length (len * z))
      · exact .junk _
      · simp only [Bool.and_eq_true] at hcond
        obtain ⟨⟨_, h1⟩, h2⟩ := hcond
        have h1 := blt_tt h1
        obtain ⟨cs, hcs, hl⟩ := r.freeze_fz hf e
        obtain ⟨_, B, hB, hro, hg, hs⟩ := frz_spec hf
        have hsol : ((l.drop off).take (len * z)).all solid = true := by
          rw [List.all_eq_true] at hs ⊢
          exact fun x hx => hs x (List.mem_of_mem_drop (List.mem_of_mem_take hx))
        refine .lst z _ true hsol ⟨_, _, _, rfl⟩ fun _ => .inr (.inr ⟨by omega, b, off, len, c', cs, rfl, hc, (beq_tt h2).symm, hcs, ?_⟩)
        intro j v hj
        rw [List.getElem?_take] at hj
        split at hj
        · exact hl _ _ (by simpa using hj)
        · cases hj
  have hpt : ∀ {i b : Nat} (e : μ i = some b) (off : Nat), VRel (μ.freeze w h F) (match frzAt h F i with
        | some _ => .tuple ⟨[]⟩
        | none => .pointer (some ⟨i, off, none⟩)) (.pointer (some ⟨b, off, none⟩)) := by
    intro i b e off
    cases hf : frzAt h F i with
    | none => exact (VRel.ptr e off).mono hle
    | some l => exact .junk _
  have hptS : ∀ {i b : Nat} (e : μ i = some b) (s off : Nat), VRel (μ.freeze w h F) (match frzAt h F i with
        | some _ => .tuple ⟨[]⟩
        | none => .pointer (some ⟨i, off, some s⟩)) (.pointer (some ⟨b, s + off, none⟩)) := by
    intro i b e s off
    cases hf : frzAt h F i with
    | none => exact (VRel.ptrS e s off).mono hle
    | some l => exact .junk _
  have hslS : ∀ {i b : Nat} (e : μ i = some b) (s off len z c' : Nat) (hc : len ≤ c'),
      VRel (μ.freeze w h F) (match frzAt h F i with
        | some l => bif (some s : Option Nat).isNone && Nat.blt 0 z && Nat.beq ((l.drop off).take (len * z)).length (len * z) then .func (.yield z) ⟨(l.drop off).take (len * z)⟩ ⟨[.bool true]⟩ else .tuple ⟨[]⟩
        | none => .slice (some ⟨i, off, some s⟩) len z) (.slice (some ⟨b, s + off, none⟩) len c') := by
    intro i b e s off len z c' hc
    cases hf : frzAt h F i with
    | none => exact (VRel.sliceS e s off len z c' hc).mono hle
    | some l => exact .junk _
  have hslE : ∀ (i s off z : Nat) (a : Option Addr) (c' : Nat), VRel (μ.freeze w h F) (match frzAt h F i with
        | some l => bif (some s : Option Nat).isNone && Nat.blt 0 z && Nat.beq ((l.drop off).take (0 * z)).length (0 * z) then .func (.yield z) ⟨(l.drop off).take (0 * z)⟩ ⟨[.bool true]⟩ else .tuple ⟨[]⟩
        | none => .slice (some ⟨i, off, some s⟩) 0 z) (.slice a 0 c') := by
    intro i s off z a c'
    cases hf : frzAt h F i with
    | none => exact .sliceE i s off z a c'
    | some l => exact .junk _
  intro d
  induction d with
  | zero =>
    intro v rv hv
    cases hv with
    | ptr e off => exact hpt e off
    | ptrS e s off => exact hptS e s off
    | slice e off l c c' hc hz => exact hsl e off l c c' hc hz
    | sliceS e s off l c c' hc => exact hslS e s off l c c' hc
    | sliceE i s off c a c' => exact hslE i s off c a c'
    | lst z l f hs hr k => exact .lst z l f hs hr fun e => (k e).fmono hle.fzs
    | fptr l hs hf k => exact .fptr l hs (hle.fzs _ _ hf) k
    | junk r => exact .junk _
    | und => exact .und
    | bool b => exact .bool b
    | int k n => exact .int k n
    | float k n => exact .float k n
    | string s => exact .string s
    | ptrNil => exact .ptrNil
    | sliceNil => exact .sliceNil
    | mapNil => exact .mapNil
    | nilFunc => exact .nilFunc
    | nilIface => exact .nilIface
    | func fn a b => exact .junk _
    | iface t a => exact .junk _
    | agg a => exact .junk _
    | tup a => exact .junk _
  | succ d ih =>
    intro v rv hv
    cases hv with
    | ptr e off => exact hpt e off
    | ptrS e s off => exact hptS e s off
    | slice e off l c c' hc hz => exact hsl e off l c c' hc hz
    | sliceS e s off l c c' hc => exact hslS e s off l c c' hc
    | sliceE i s off c a c' => exact hslE i s off c a c'
    | lst z l f hs hr k => exact .lst z l f hs hr fun e => (k e).fmono hle.fzs
    | fptr l hs hf k => exact .fptr l hs (hle.fzs _ _ hf) k
    | junk r => exact .junk _
    | und => exact .und
    | bool b => exact .bool b
    | int k n => exact .int k n
    | float k n => exact .float k n
    | string s => exact .string s
    | ptrNil => exact .ptrNil
    | sliceNil => exact .sliceNil
    | mapNil => exact .mapNil
    | nilFunc => exact .nilFunc
    | nilIface => exact .nilIface
    | func fn a b => exact .func fn (rnFs (fun x y hx => ih x y hx) a) (rnFs (fun x y hx => ih x y hx) b)
    | iface t a => exact .iface t (ih _ _ a)
    | agg a => exact .agg (rnFs (fun x y hx => ih x y hx) a)
    | tup a => exact .tup (rnFs (fun x y hx => ih x y hx) a)
theorem rnFS_size (G : Nat → Option (List Value)) (s : Seg) : (rnFS G s).size = s.size := by cases s <;> rfl
theorem rnFB_size (G : Nat → Option (List Value)) (B : Blk) : (rnFB G B).size = B.size := by
  unfold rnFB Blk.size
  simp only
  generalize B.segs = l
  induction l with
  | nil => rfl
  | cons s l ih => simp only [List.map_cons, segsSize, rnFS_size, ih]
theorem rnFS_get {G : Nat → Option (List Value)} {s : Seg} {o : Nat} {v : Value} (h : (rnFS G s).get? o = some v) : ∃ u, s.get? o = some u ∧ (v = rnF G 6 u ∨ (v = u ∧ scalar u = true)) := by
  cases s with
  | one x =>
    simp only [rnFS, Seg.get?] at h ⊢
    cases e : Nat.beq o 0 <;> rw [e] at h <;> simp at h
    exact ⟨x, by simp, .inl h.symm⟩
  | ints k n a =>
    simp only [rnFS, Seg.get?] at h ⊢
    cases e : Nat.blt o n <;> rw [e] at h <;> simp at h
    exact ⟨_, rfl, .inr ⟨h.symm, rfl⟩⟩
  | bools n a =>
    simp only [rnFS, Seg.get?] at h ⊢
    cases e : Nat.blt o n <;> rw [e] at h <;> simp at h
    exact ⟨_, rfl, .inr ⟨h.symm, rfl⟩⟩
  | rows n sz g =>
    simp only [rnFS, Seg.get?] at h ⊢
    cases e : Nat.blt o (n * sz) <;> rw [e] at h <;> simp at h
    obtain ⟨u, hu, hv⟩ := h
    exact ⟨u, by simpa using hu, .inl hv.symm⟩
  | gap n => simp [rnFS, Seg.get?] at h
theorem rnFB_get {G : Nat → Option (List Value)} {B : Blk} {o : Nat} {v : Value} (h : (rnFB G B).get? o = some v) : ∃ u, B.get? o = some u ∧ (v = rnF G 6 u ∨ (v = u ∧ scalar u = true)) := by
  unfold rnFB Blk.get? at *
  simp only at h ⊢
  generalize B.segs = l at *
  induction l generalizing o with
  | nil => simp [segsGet?] at h
  | cons s l ih =>
    simp only [List.map_cons, segsGet?, rnFS_size] at h ⊢
    cases e : Nat.blt o s.size <;> rw [e] at h
    · simpa using ih (by simpa using h)
    · simpa using rnFS_get (by simpa using h)
def frzP (H : HF) (F : List Nat) : Heap → Prop
  | [] => True
  | (i, B) :: r => (memB i F = false ∧ (H i).map (rnFB (frzAt H F)) = some B) ∧ frzP H F r
theorem frzP_spec {H : HF} {F : List Nat} : ∀ {h : Heap}, frzP H F h → ∀ i B, lk h i = some B → memB i F = false ∧ ∃ A, H i = some A ∧ B = rnFB (frzAt H F) A
  | [], _, i, B, hl => by simp [lk] at hl
  | (j, C) :: r, h, i, B, hl => by
    simp only [lk] at hl
    cases e : Nat.beq i j <;> rw [e] at hl
    · exact frzP_spec h.2 i B (by simpa using hl)
    · simp at hl; subst hl; rw [beq_tt e]
      obtain ⟨h1, h2⟩ := h.1
      cases hA : H j with
      | none => simp [hA] at h2
      | some A => simp [hA] at h2; exact ⟨h1, A, rfl, h2.symm⟩
theorem memB_tt {x : Nat} : ∀ {l : List Nat}, x ∈ l → memB x l = true
  | [], h => by simp at h
  | y :: r, h => by
    simp only [List.mem_cons] at h
    simp only [memB, Bool.or_eq_true]
    rcases h with rfl | h
    · exact .inl (beq_self _)
    · exact .inr (memB_tt h)
theorem Rep.freeze (r : Rep μ h w) {H' : Heap} (hp : frzP h F H') : Rep (μ.freeze w h F) (lk H') w ∧ ∀ (μ0 : Mu) (h0 : HF) (w0 : World), Keeps μ0 h0 w0 μ h w → Keeps μ0 h0 w0 (μ.freeze w h F) (lk H') w := by
  have hs := frzP_spec hp
  have hfz : ∀ b cs, (μ.freeze w h F).fz b = some cs → μ.fz b = some cs ∨ ∃ i B l, i ∈ F ∧ h i = some B ∧ B.ro = false ∧ μ i = some b ∧ frzAt h F i = some l ∧ ∃ t fr, w.heap[b]? = some (.cells cs t fr) := by
    intro b cs hf
    simp only [Mu.freeze] at hf
    split at hf
    · rename_i hany
      rw [List.any_eq_true] at hany
      obtain ⟨i, hi, hh⟩ := hany
      simp only [Bool.and_eq_true, decide_eq_true_eq] at hh
      obtain ⟨l, hl⟩ := Option.isSome_iff_exists.1 hh.2
      obtain ⟨_, B, hB, hro, _⟩ := frz_spec hl
      split at hf
      · rename_i cs' t fr he
        obtain rfl : cs' = cs := by simpa using hf
        exact .inr ⟨i, B, l, hi, hB, hro, hh.1, hl, t, fr, he⟩
      · cases hf
    · exact .inl hf
  constructor
  · refine ⟨?_, ?_, r.bound, ?_, ?_, ?_⟩
    · intro i B hB
      obtain ⟨_, A, hA, rfl⟩ := hs i B hB
      obtain ⟨b, hb, cs, t, fr, he, h1, h2⟩ := r.blk i A hA
      refine ⟨b, hb, cs, t, fr, he, fun hro => ?_, fun off v hv => ?_⟩
      · obtain ⟨p, q, s⟩ := h1 hro
        exact ⟨p, q, by rw [rnFB_size]; exact s⟩
      · obtain ⟨u, hu, hv'⟩ := rnFB_get hv
        obtain ⟨rv, hr, hrel⟩ := h2 off u hu
        refine ⟨rv, hr, ?_⟩
        rcases hv' with rfl | ⟨rfl, hsc⟩
        · exact r.freeze_rel 6 u rv hrel
        · rw [VRel.eq_of_scalar hsc hrel]; exact .of_scalar hsc
    · intro i j A B b hA hB hi hj hne
      obtain ⟨_, A', hA', rfl⟩ := hs i A hA
      obtain ⟨_, B', hB', rfl⟩ := hs j B hB
      exact r.apart i j A' B' b hA' hB' hi hj hne
    · intro i B b hB hro hi
      obtain ⟨_, A, hA, rfl⟩ := hs i B hB
      exact r.size i A b hA hro hi
    · intro b cs hf
      rcases hfz b cs hf with h1 | ⟨i, B, l, _, _, _, _, _, t, fr, he⟩
      · exact r.frz b cs h1
      · exact ⟨t, fr, he⟩
    · intro i B b hB hro hi
      obtain ⟨hnm, A, hA, rfl⟩ := hs i B hB
      cases hf : (μ.freeze w h F).fz b with
      | none => rfl
      | some cs =>
        rcases hfz b cs hf with h1 | ⟨j, C, l, hj, hC, hCro, hjb, _⟩
        · rw [r.nofz i A b hA hro hi] at h1; cases h1
        · have hij : i ≠ j := by
            rintro rfl
            rw [memB_tt hj] at hnm; cases hnm
          have hAro : A.ro = false := hro
          have := (r.apart i j A C b hA hC hi hjb hij).1
          rw [hAro] at this; cases this
  · intro μ0 h0 w0 k
    refine ⟨k.os, k.tape, k.output, k.size, k.same, ?_, k.ksz, ?_, ?_⟩
    · intro i B b hB hb hlt
      obtain ⟨_, A, hA, rfl⟩ := hs i B hB
      exact k.old i A b hA hb hlt
    · intro b cs hf
      exact r.freeze_le.fzs b cs (k.kfz b cs hf)
    · intro b cs hf
      rcases hfz b cs hf with h1 | ⟨i, B, l, _, hB, hro, hib, _⟩
      · exact k.nfz b cs h1
      · rcases Nat.lt_or_ge b w0.heap.size with hlt | hge
        · exact .inr (.inl (k.own b hlt ⟨i, B, hB, hro, hib⟩))
        · exact .inr (.inr hge)
end
def xokF (P : Program) (fn : Func) (fuel : Nat) (A : List Value) (H : Heap) (n0 : Nat) (hs : List Hint) (F : List Nat) (v : Value) (H' : Heap) : Prop :=
  match xfun P fn fuel A H n0 hs with
  | some (v', Hend, ob) => allP ob ∧ (rnF (frzAt (lk Hend) F) 6 v' = v ∧ frzP (lk Hend) F H')
  | none => False
def frzT : Heap → Prop
  | [] => True
  | (_, B) :: r => (false = false ∧ some B = some B) ∧ frzT r
theorem frzT_all : ∀ h : Heap, frzT h
  | [] => trivial
  | (_, _) :: r => ⟨⟨rfl, rfl⟩, frzT_all r⟩
theorem fn_of_xokF {P : Program} (hG : P.globals.size ≤ 1000) (hM : P.follows .mixedOrders = true) {g : FuncId} {fn : Func} (hf : P.funcs[g]? = some fn) (hb : fn.body.isSome = true) (hn : (fn.name == "runtime.NumGoroutine") = false) {fuel : Nat} {A : List Value} {H : Heap} {n0 : Nat}
    {hs : List Hint} {F : List Nat} {v : Value} {H' : Heap} (h : xokF P fn fuel A H n0 hs F v H') : FnSpec P g n0 A H v H' := by
  unfold xokF at h
  split at h
  case h_2 => exact h.elim
  case h_1 v' Hend ob hx =>
  obtain ⟨hob, rfl, hfz⟩ := h
  have hs' := allP_spec hob
  have full : ∀ (μ : Mu) (w : World) (rargs : List Value), Gl P μ → (∀ i, n0 ≤ i → μ i = none) → VRels μ A rargs → Rep μ (lk H) w →
      Calls P g ⟨rargs⟩ w fun e w' => ∃ μ' rv, μ.le μ' ∧ Rep μ' (lk Hend) w' ∧ VRel μ' v' rv ∧ e = .returned rv ∧ Keeps μ (lk H) w μ' (lk Hend) w' :=
    (fn_of_xokE hG hM hf hb hn hx hs').runs
  have ent := (fn_of_xokE hG hM hf hb hn hx hs').enters
  refine ⟨ent, fun μ w rargs hg hfr hA hr => (full μ w rargs hg hfr hA hr).mono ?_⟩
  intro e w' hh
  obtain ⟨μ', rv, h1, h2, h3, h4, h5⟩ := hh
  obtain ⟨r2, k2⟩ := h2.freeze hfz
  exact ⟨μ'.freeze w' (lk Hend) F, rv, Mu.le_trans h1 h2.freeze_le, r2, h2.freeze_rel 6 _ _ h3, h4, k2 _ _ _ h5⟩
theorem fn_of_f {P : Program} (hG : P.globals.size ≤ 1000) (hM : P.follows .mixedOrders = true) {g : FuncId} {fn : Func} (hf : P.funcs[g]? = some fn) (hb : fn.body.isSome = true) (hn : (fn.name == "runtime.NumGoroutine") = false) (fuel : Nat) (hs : List Hint) (F : List Nat)
    {A : List Value} {H : Heap} {n0 : Nat} {v : Value} {H' : Heap} {O : Prop} (o : O) (h : (O ∧ (v = v ∧ frzT H')) = xokF P fn fuel A H n0 hs F v H') : FnSpec P g n0 A H v H' :=
  have h2 : xokF P fn fuel A H n0 hs F v H' := h ▸ ⟨o, rfl, frzT_all H'⟩
  fn_of_xokF hG hM hf hb hn h2
end Go.Proofs.YtgpcfjokmonlgaaDoor.VX
namespace Go.Proofs.YtgpcfjokmonlgaaDoor.VX
open Go Go.RowKit Go.WideShapes Go.ChangeShapes Go.WideElems
set_option linter.unusedSimpArgs false
set_option linter.unusedVariables false
section
variable {H : Type} {enc : TypeId × Value → H} {P : Program}
theorem post_of_below {f : Func} {s : ChangeSpec} {apart fresh handsOn again : Bool} {W W' : World} {args : Array Value} {v : Value} {ds gs : List (DataW H)} {before pa pv : List MemPlace}
    (hW : DataW.Whole enc P f.params.toList s.vars apart W args.toList ds gs before)
    (hres : ∀ (b : Nat) (sp : Nat → Bool) (hd : Bool), DataW.TrodAll enc P W' b sp hd f.resultTypes.toList (v.resultList f.resultTypes.size) (s.fn H (ds ++ gs)).results [])
    (hargs : ∀ sp : Nat → Bool, (∀ p ∈ before, sp p.block = true) → DataW.TrodAll enc P W' 0 sp true f.params.toList args.toList (s.fn H (ds ++ gs)).args pa)
    (hvars : ∀ sp : Nat → Bool, (∀ p ∈ before, sp p.block = true) → DataW.TrodVars enc P W' sp s.vars (s.fn H (ds ++ gs)).vars pv)
    (hps : before = pa ++ pv) (hb : Below W.heap.size W W')
    (hok : ∀ (j : Nat) (t : TypeId) (r : Value), f.resultTypes[j]? = some t → (v.resultList f.resultTypes.size)[j]? = some r → Value.okWide P W' .any 0 t r) :
    s.post enc P f apart fresh handsOn again W args v W' := by
  have hlt : ∀ p ∈ before, p.block < W.heap.size := fun p hp => hW.lt p hp
  have hold : ∀ p ∈ before, (fun b => decide (b < W.heap.size)) p.block = true := fun p hp => by simpa using hlt p hp
  refine ⟨ds, gs, before, [], pa, pv, hW, hres _ _ _, hargs _ hold, hvars _ hold, World.keptBut_mono (fun p hp => ⟨hp, ?_⟩) (hb.frame (· ∈ before)), fun _ => ?_⟩
  · rw [hps, List.mem_append] at hp
    exact Or.inr hp
  · obtain ⟨_, _, _, _, _, hz, hn⟩ := hW
    refine ⟨hok, _, _, ([] ++ pa) ++ pv, ⟨[] ++ pa, pv, trodAll_append (hargs _ (fun _ _ => rfl)) (hres _ _ _), hvars _ (fun _ _ => rfl), rfl, ?_, ?_⟩, ?_⟩
    · intro b off hp
      have hin : MemPlace.cell b off ∈ before := by rw [hps]; simpa using hp
      rw [hb.frozen (hlt _ hin)]
      exact hz b off hin
    · intro ha
      have := hn ha
      rw [hps] at this
      simpa using this
    · intro p hp _
      rw [hps]
      simpa using hp
theorem trodAll_stays (hl : laidOutB P = true) {W W' : World} {sp' : Nat → Bool} : ∀ {ts : List TypeId} {vs : List Value} {ds : List (DataW H)} {ps : List MemPlace},
    ts.all (fun t => P.readableRec t && decide (t < P.types.size)) = true → DataW.TrodAll enc P W 0 (fun _ => true) true ts vs ds ps → (∀ p ∈ ps, W.sameAt W' p) → (∀ p ∈ ps, sp' p.block = true) →
    DataW.TrodAll enc P W' 0 sp' true ts vs ds ps
  | [], [], [], _, _, h, _, _ => h
  | t :: ts, v :: vs, d :: ds, _, ht, ⟨p, q, h1, h2, rfl⟩, hsame, hs => by
    simp only [List.all_cons, Bool.and_eq_true, decide_eq_true_eq] at ht
    exact ⟨p, q, Trod_stays hl ht.1.1 ht.1.2 h1 (fun x hx => hsame x (List.mem_append_left _ hx)) (fun x hx => hs x (List.mem_append_left _ hx)),
      trodAll_stays hl (by simpa using ht.2) h2 (fun x hx => hsame x (List.mem_append_right _ hx)) (fun x hx => hs x (List.mem_append_right _ hx)), rfl⟩
  | [], [], _ :: _, _, _, h, _, _ => h.elim
  | [], _ :: _, _, _, _, h, _, _ => h.elim
  | _ :: _, [], _, _, _, h, _, _ => h.elim
  | _ :: _, _ :: _, [], _, _, h, _, _ => h.elim
theorem trodAll_length {W : World} {b : Nat} {sp : Nat → Bool} {hd : Bool} : ∀ {ts : List TypeId} {vs : List Value} {ds : List (DataW H)} {ps : List MemPlace}, DataW.TrodAll enc P W b sp hd ts vs ds ps → ds.length = ts.length
  | [], [], [], _, _ => rfl
  | t :: ts, v :: vs, d :: ds, _, ⟨p, q, h1, h2, rfl⟩ => by simp [trodAll_length h2]
  | [], [], _ :: _, _, h => h.elim
  | [], _ :: _, _, _, h => h.elim
  | _ :: _, [], _, _, h => h.elim
  | _ :: _, _ :: _, [], _, h => h.elim
theorem globals_there {W : World} (hW : W.ShapedOpen P) (hlow : decide (P.globals.size < (begin P (fun _ _ => 0) default).world.heap.size) = true) : P.globals.size ≤ W.heap.size := by
  obtain ⟨o, _, h, _⟩ := hW.2 P.globals.size (Nat.le_refl _) (of_decide_eq_true hlow)
  have := (Array.getElem?_eq_some_iff.1 h).1
  omega
theorem row_of {C : Checked} {os : Os} {f : FuncId} {fn : Func} {s : ChangeSpec} {conds : List PathCond} {apart fresh handsOn again : Bool} {tb : TypeId} {n : Nat}
    (own : ownKnob C.prog.godebug = none) (started : os.Started) (noInit : C.prog.inits.idxOf? f = none) (hfn : C.prog.funcs[f]? = some fn)
    (hvars : s.vars = []) (hrt : fn.resultTypes = #[tb]) (hb : C.prog.underlying tb = some .bool) (hl : laidOutB C.prog = true)
    (hp : fn.params.toList.all (fun t => C.prog.readableRec t && decide (t < C.prog.types.size)) = true) (hn : fn.params.toList.length = n)
    (hs : ∀ ds : List (DataW H), ds.length = n → s.fn H ds = { results := [.lit (.bool true)], args := ds })
    (hlow : decide (C.prog.globals.size < (begin C.prog (fun _ _ => 0) default).world.heap.size) = true)
    (witness : ∃ (w : World) (tape : Tape) (i : Input), w.os = os ∧ (w.forCall tape i).Shaped C.prog ∧ i.vars = [] ∧ Input.okWide C.prog (w.forCall tape i) .any w.heap.size f i ∧
      s.pre6 enc C.prog fn conds apart (w.forCall tape i).memory i.args ∧ ({} : Assume).holds C.prog (lone (Frame.enter C.prog f i.args .normal) [] (w.forCall tape i)))
    (walk : ∀ (W : World) (base : Nat) (args : Array Value) (ds : List (DataW H)) (ps : List MemPlace),
      (∀ (j : Nat) t v, fn.params[j]? = some t → args[j]? = some v → Value.okWide C.prog W .any base t v) →
      DataW.TrodAll enc C.prog W 0 (fun _ => true) true fn.params.toList args.toList ds ps →
      conds.all (PathCond.test C.prog ⟨fn.params.toList, ds, s.plain.varTypes C.prog, []⟩) = true →
      C.prog.globals.size ≤ W.heap.size → W.ShapedOpen C.prog →
      Calls C.prog f args W fun e W' => e = .returned (.bool true) ∧ Below W.heap.size W W') :
    ReturnsInHanded {} C os f .any (s.pre6 enc C.prog fn conds apart) (s.post enc C.prog fn apart fresh handsOn again) := by
  refine returnsInHanded_of_change_shaped own started noInit hfn witness ?_
  intro W base args ds gs before hval hW hcnd _ hsh _
  have hW' := hW
  obtain ⟨p, q, hA, hV, rfl, _, _⟩ := hW
  rw [hvars] at hV
  have hgs : gs = [] ∧ q = [] := by
    cases gs with
    | nil => exact ⟨rfl, hV⟩
    | cons _ _ => exact hV.elim
  obtain ⟨rfl, rfl⟩ := hgs
  have hlt : ∀ x ∈ p, x.block < W.heap.size := fun x hx => hW'.lt x (List.mem_append_left _ hx)
  refine (walk W base args ds p hval hA hcnd (globals_there hsh hlow) hsh).mono fun e W' ⟨he, hbw⟩ => ?_
  subst he
  have hsd : s.fn H (ds ++ []) = { results := [.lit (.bool true)], args := ds } := by
    rw [List.append_nil]; exact hs ds (by rw [← hn]; exact trodAll_length hA)
  refine ⟨_, rfl, post_of_below (pa := p) (pv := []) hW' ?_ ?_ ?_ rfl hbw ?_⟩
  · intro b sp hd
    rw [hsd, hrt]
    exact ⟨[], [], shut_bool hb true, rfl, rfl⟩
  · intro sp hsp
    rw [hsd]
    exact trodAll_stays hl hp hA (fun x hx => hbw.same (hlt x hx)) (fun x hx => hsp x (List.mem_append_left _ hx))
  · intro sp hsp
    rw [hvars, hsd]
    rfl
  · intro j t r hj hr
    rw [hrt] at hj hr
    match j, hj, hr with
    | 0, hj, hr =>
      simp [Value.resultList] at hj hr
      subst hj; subst hr
      simp [Value.okWide, hb, Cell.okWide, Cell.ok]
    | j + 1, hj, hr => simp at hj
def muG (P : Program) : Mu := ⟨fun i => if i < P.globals.size then some i else none, fun _ => 0, fun _ => none⟩
theorem muG_ok (P : Program) : Gl P (muG P) := fun g h => by simp [muG, h]
theorem rep_none {W : World} (h : P.globals.size ≤ W.heap.size) : Rep (muG P) (lk []) W := by
  refine ⟨fun i B e => by simp [lk] at e, fun i j A B b e => by simp [lk] at e, fun i b e => ?_, fun i B b e => by simp [lk] at e, (fun b cs e => nomatch e), fun i B b e => by simp [lk] at e⟩
  simp only [muG] at e
  split at e
  · simp at e; omega
  · cases e
theorem calls_of_spec {f : FuncId} {A : List Value} {H' : Heap} (hG : P.globals.size ≤ 1000) (sp : FnSpec P f 1000 A [] (.bool true) H') {W : World} {args : Array Value} (hg : P.globals.size ≤ W.heap.size) (ha : VRels (muG P) A args.toList) :
    Calls P f args W fun e W' => e = .returned (.bool true) ∧ Below W.heap.size W W' := by
  have := sp.runs (muG P) W args.toList (muG_ok P) (fun i hi => by simp [muG]; omega) ha (rep_none hg)
  refine this.mono fun e W' ⟨μ', rv, _, _, hv, he, k⟩ => ?_
  cases hv
  exact ⟨he, ⟨k.os, k.tape, k.output, k.size, fun b hb => k.same b hb (by rintro ⟨i, B, e, _⟩; simp [lk] at e)⟩⟩
end
end Go.Proofs.YtgpcfjokmonlgaaDoor.VX
namespace Go.Proofs.YtgpcfjokmonlgaaDoor.VX
open Go Go.RowKit Go.WideShapes Go.ChangeShapes Go.WideElems
set_option linter.unusedSimpArgs false
set_option linter.unusedVariables false
theorem laid_entry {P : Program} {w : World} {n : String} {d : DataW Unit} : ∀ {l : List (String × DataW Unit)} {ps : List MemPlace}, DataW.LaidVars P w l ps → (n, d) ∈ l →
    ∃ g t cs fuel p, P.globalNamed n = some g ∧ (P.globals[g]?).map (·.type) = some t ∧ w.var? P n = some cs ∧ DataW.trod (fun _ => ()) P w 0 (fun _ => true) false fuel t cs.toList = some (d, p)
  | [], ps, _, hm => by simp at hm
  | (n', d') :: r, ps, h, hm => by
    obtain ⟨g, t, cs, fuel, p, q, h1, h2, h3, h4, hr, rfl⟩ := h
    simp only [List.mem_cons, Prod.mk.injEq] at hm
    rcases hm with ⟨rfl, rfl⟩ | hm
    · exact ⟨g, t, cs, fuel, p, h1, h2, h3, h4⟩
    · exact laid_entry hr hm
theorem tbl_ints {P : Program} {W : World} {laid : List (String × DataW Unit)} (h : laidMet P laid W) {n : String} {d : DataW Unit} (hm : (n, d) ∈ laid) {L : List Int} {k : IntKind} (hd : d = .agg (L.map fun x => .lit (.int k x))) {g : Nat} (hg : P.globalNamed n = some g)
    {ta te : TypeId} (ht : (P.globals[g]?).map (·.type) = some ta) {len : Nat} (hu : P.underlying ta = some (.array len te)) (hue : P.underlying te = some (.int k)) (hc : P.cellsOf te = 1) (hl : L.length = len) (μ : Mu) (ty : TypeId) :
    BlkRel μ ⟨[.ints k len (fun r => L.getD r 0)], ty, true⟩ W.heap[g]? := by
  obtain ⟨ps, hv, _, _⟩ := h
  obtain ⟨g', t', cs, fuel, p, e1, e2, e3, e4⟩ := laid_entry hv hm
  obtain rfl := Option.some.inj (hg.symm.trans e1)
  obtain rfl := Option.some.inj (ht.symm.trans e2)
  obtain ⟨xs, m, _, ex, _, hxl, hel⟩ := DataW.trod_array hu e4
  have hcell : ∀ r, r < len → cs[r]? = some (.int k (L.getD r 0)) := by
    intro r hr
    have hE := hel r hr
    rw [hc, Nat.mul_one, List.getElem?_eq_getElem (by omega)] at hE
    obtain ⟨z, q1, q2, _⟩ := DataW.trod_int hue hE
    have e3 : (xs.map (·.1)) = L.map fun n => .lit (.int k n) := by
      have := (Prod.mk.inj ex).1
      rw [hd] at this
      exact (DataW.agg.inj this).symm
    have e4 : (xs.map (·.1))[r]? = (L.map fun n => (DataW.lit (.int k n) : DataW Unit))[r]? := by rw [e3]
    rw [List.getElem?_map, List.getElem?_map, List.getElem?_eq_getElem (by omega : r < xs.length), List.getElem?_eq_getElem (by omega : r < L.length), q2] at e4
    have hz : z = L.getD r 0 := by
      simp only [Option.map_some, Option.some.injEq, DataW.lit.injEq, Lit.int.injEq, true_and] at e4
      rw [e4, List.getD, List.getElem?_eq_getElem (by omega : r < L.length)]; rfl
    rw [← hz]
    have h0 : ((cs.toList.drop r).take 1)[0]? = some (.int k z) := by rw [q1]; rfl
    simpa using h0
  have hheap : ∃ t fr, W.heap[g]? = some (.cells cs t fr) := by
    simp only [World.var?, hg, Option.bind_some] at e3
    split at e3
    · rename_i c t fr hh
      simp only [Option.some.injEq] at e3
      subst e3
      exact ⟨_, _, hh⟩
    · simp at e3
  obtain ⟨t, fr, hh⟩ := hheap
  refine ⟨cs, t, fr, hh, (fun hro => nomatch hro), fun off v hv => ?_⟩
  simp only [Blk.get?, segsGet?, Seg.size] at hv
  cases e : Nat.blt off len <;> rw [e] at hv
  · simp at hv
  · simp only [cond_true, Seg.get?, e, Option.some.injEq] at hv
    subst hv
    exact ⟨_, hcell off (blt_tt e), .int _ _⟩
theorem rep_tbls {P : Program} {W : World} {Hl : Heap} (h : P.globals.size ≤ W.heap.size) (hb : ∀ i B, lk Hl i = some B → i < P.globals.size ∧ B.ro = true ∧ BlkRel (muG P) B W.heap[i]?) : Rep (muG P) (lk Hl) W := by
  refine ⟨fun i B e => ?_, fun i j A B b e1 e2 _ _ _ => ⟨(hb i A e1).2.1, (hb j B e2).2.1⟩, fun i b e => ?_, fun i B b e hr => (by rw [(hb i B e).2.1] at hr; cases hr), (fun b cs e => nomatch e), fun i B b e hr => (by rw [(hb i B e).2.1] at hr; cases hr)⟩
  · obtain ⟨h1, _, h3⟩ := hb i B e
    exact ⟨i, by simp [muG, h1], h3⟩
  · simp only [muG] at e
    split at e
    · simp at e; omega
    · cases e
theorem calls_of_spec_tbls {P : Program} {f : FuncId} {A : List Value} {Hl H' : Heap} (hG : P.globals.size ≤ 1000) (sp : FnSpec P f 1000 A Hl (.bool true) H') {W : World} {args : Array Value} (hg : P.globals.size ≤ W.heap.size)
    (hb : ∀ i B, lk Hl i = some B → i < P.globals.size ∧ B.ro = true ∧ BlkRel (muG P) B W.heap[i]?) (ha : VRels (muG P) A args.toList) :
    Calls P f args W fun e W' => e = .returned (.bool true) ∧ Below W.heap.size W W' := by
  have := sp.runs (muG P) W args.toList (muG_ok P) (fun i hi => by simp [muG]; omega) ha (rep_tbls hg hb)
  refine this.mono fun e W' ⟨μ', rv, _, _, hv, he, k⟩ => ?_
  cases hv
  exact ⟨he, ⟨k.os, k.tape, k.output, k.size, fun b hb' => k.same b hb' (by rintro ⟨i, B, e, hr, _⟩; rw [(hb i B e).2.1] at hr; cases hr)⟩⟩
section
variable {H : Type} {enc : TypeId × Value → H} {P : Program}
theorem returnsInHanded_laid {a : Assume} {C : Checked} {os : Os} {f : FuncId} {fn : Func} {s : ChangeSpec} {conds : List PathCond} {apart fresh handsOn again : Bool} {laid : List (String × DataW Unit)}
    (own : ownKnob C.prog.godebug = none) (started : os.Started) (noInit : C.prog.inits.idxOf? f = none) (hfn : C.prog.funcs[f]? = some fn)
    (witness : ∃ (w : World) (tape : Tape) (i : Input), w.os = os ∧ (w.forCall tape i).Shaped C.prog ∧ i.vars = [] ∧ Input.okWide C.prog (w.forCall tape i) .any w.heap.size f i ∧
      ((s.pre enc C.prog fn conds apart (w.forCall tape i).memory i.args ∧ laidMetH C.prog laid (w.forCall tape i).memory) ∧ sizedMet enc C.prog fn (OpenSpec.ofChange s) apart (w.forCall tape i).memory i.args) ∧ a.holds C.prog (lone (Frame.enter C.prog f i.args .normal) [] (w.forCall tape i)))
    (contract : ∀ (W : World) (base : Nat) (args : Array Value) (ds gs : List (DataW H)) (before : List MemPlace),
      (∀ (j : Nat) t v, fn.params[j]? = some t → args[j]? = some v → Value.okWide C.prog W .any base t v) →
      DataW.Whole enc C.prog fn.params.toList s.vars apart W args.toList ds gs before →
      conds.all (PathCond.test C.prog ⟨fn.params.toList, ds, s.plain.varTypes C.prog, gs⟩) = true →
      laidMetH C.prog laid W → W.ShapedOpen C.prog →
      Calls C.prog f args W fun e W' => ∃ v, e = .returned v ∧ s.post enc C.prog fn apart fresh handsOn again W args v W') :
    ReturnsInHanded a C os f .any (fun w args => (s.pre enc C.prog fn conds apart w args ∧ laidMetH C.prog laid w) ∧ sizedMet enc C.prog fn (OpenSpec.ofChange s) apart w args) (s.post enc C.prog fn apart fresh handsOn again) := by
  refine returnsInHanded_of_calls own started noInit witness ?_
  intro w tape i _ hsh _ hok hpre hholds
  obtain ⟨_, _, _, fn', hfn', _, _, _, _, hval⟩ := hok
  have e : fn' = fn := Option.some.inj (hfn'.symm.trans hfn)
  subst e
  obtain ⟨⟨⟨ds, gs, before, hw, hc⟩, hx⟩, hz⟩ := hpre
  have hw' := DataW.Whole.of_heap (w' := w.forCall tape i) (by rfl) hw
  refine (contract (w.forCall tape i) w.heap.size i.args ds gs before hval hw' hc (hx.of_heap (by rfl)) hsh).mono fun e W' ⟨v, he, hp⟩ => ?_
  subst he
  exact ChangeSpec.post_blind hp
theorem row_of_laid {C : Checked} {os : Os} {f : FuncId} {fn : Func} {s : ChangeSpec} {conds : List PathCond} {apart fresh handsOn again : Bool} {tb : TypeId} {n : Nat} {laid : List (String × DataW Unit)}
    (own : ownKnob C.prog.godebug = none) (started : os.Started) (noInit : C.prog.inits.idxOf? f = none) (hfn : C.prog.funcs[f]? = some fn)
    (hvars : s.vars = []) (hrt : fn.resultTypes = #[tb]) (hb : C.prog.underlying tb = some .bool) (hl : laidOutB C.prog = true)
    (hp : fn.params.toList.all (fun t => C.prog.readableRec t && decide (t < C.prog.types.size)) = true) (hn : fn.params.toList.length = n)
    (hs : ∀ ds : List (DataW H), ds.length = n → s.fn H ds = { results := [.lit (.bool true)], args := ds })
    (hlow : decide (C.prog.globals.size < (begin C.prog (fun _ _ => 0) default).world.heap.size) = true)
    (hplain : (laid.all fun x => x.2.handleName?.isNone) = true)
    (witness : ∃ (w : World) (tape : Tape) (i : Input), w.os = os ∧ (w.forCall tape i).Shaped C.prog ∧ i.vars = [] ∧ Input.okWide C.prog (w.forCall tape i) .any w.heap.size f i ∧
      ((s.pre enc C.prog fn conds apart (w.forCall tape i).memory i.args ∧ laidMetH C.prog laid (w.forCall tape i).memory) ∧ sizedMet enc C.prog fn (OpenSpec.ofChange s) apart (w.forCall tape i).memory i.args) ∧ ({} : Assume).holds C.prog (lone (Frame.enter C.prog f i.args .normal) [] (w.forCall tape i)))
    (walk : ∀ (W : World) (base : Nat) (args : Array Value) (ds : List (DataW H)) (ps : List MemPlace),
      (∀ (j : Nat) t v, fn.params[j]? = some t → args[j]? = some v → Value.okWide C.prog W .any base t v) →
      DataW.TrodAll enc C.prog W 0 (fun _ => true) true fn.params.toList args.toList ds ps →
      conds.all (PathCond.test C.prog ⟨fn.params.toList, ds, s.plain.varTypes C.prog, []⟩) = true →
      C.prog.globals.size ≤ W.heap.size → W.ShapedOpen C.prog → laidMet C.prog laid W →
      Calls C.prog f args W fun e W' => e = .returned (.bool true) ∧ Below W.heap.size W W') :
    ReturnsInHanded {} C os f .any (fun w args => (s.pre enc C.prog fn conds apart w args ∧ laidMetH C.prog laid w) ∧ sizedMet enc C.prog fn (OpenSpec.ofChange s) apart w args) (s.post enc C.prog fn apart fresh handsOn again) := by
  refine returnsInHanded_laid own started noInit hfn witness ?_
  intro W base args ds gs before hval hW hcnd hlaid hsh
  have hW' := hW
  obtain ⟨p, q, hA, hV, rfl, _, _⟩ := hW
  rw [hvars] at hV
  have hgs : gs = [] ∧ q = [] := by
    cases gs with
    | nil => exact ⟨rfl, hV⟩
    | cons _ _ => exact hV.elim
  obtain ⟨rfl, rfl⟩ := hgs
  have hlm : laidMet C.prog laid W := by
    obtain ⟨h1, _⟩ := laidMetH_iff.1 hlaid
    have e : (laid.filter fun x => x.2.handleName?.isNone) = laid := List.filter_eq_self.2 (by simpa using hplain)
    rwa [e] at h1
  have hlt : ∀ x ∈ p, x.block < W.heap.size := fun x hx => hW'.lt x (List.mem_append_left _ hx)
  refine (walk W base args ds p hval hA hcnd (globals_there hsh hlow) hsh hlm).mono fun e W' ⟨he, hbw⟩ => ?_
  subst he
  have hsd : s.fn H (ds ++ []) = { results := [.lit (.bool true)], args := ds } := by
    rw [List.append_nil]; exact hs ds (by rw [← hn]; exact trodAll_length hA)
  refine ⟨_, rfl, post_of_below (pa := p) (pv := []) hW' ?_ ?_ ?_ rfl hbw ?_⟩
  · intro b sp hd
    rw [hsd, hrt]
    exact ⟨[], [], shut_bool hb true, rfl, rfl⟩
  · intro sp hsp
    rw [hsd]
    exact trodAll_stays hl hp hA (fun x hx => hbw.same (hlt x hx)) (fun x hx => hsp x (List.mem_append_left _ hx))
  · intro sp hsp
    rw [hvars, hsd]
    rfl
  · intro j t r hj hr
    rw [hrt] at hj hr
    match j, hj, hr with
    | 0, hj, hr =>
      simp [Value.resultList] at hj hr
      subst hj; subst hr
      simp [Value.okWide, hb, Cell.okWide, Cell.ok]
    | j + 1, hj, hr => simp at hj
end
end Go.Proofs.YtgpcfjokmonlgaaDoor.VX
namespace Go.Proofs.YtgpcfjokmonlgaaDoor.VX
open Go
inductive LoopR {S R : Type} (rel : S → S ⊕ R → Prop) : S → R → Prop
  | last {s : S} {r : R} (h : rel s (.inr r)) : LoopR rel s r
  | more {s s' : S} {r : R} (h : rel s (.inl s')) (t : LoopR rel s' r) : LoopR rel s r
theorem LoopR.of_iter {S R : Type} {step : S → S ⊕ R} : ∀ {m : Nat} {s : S} {r : R}, iter step m s = some r → LoopR (fun x y => step x = y) s r
  | 0, s, r, h => by simp [iter] at h
  | m + 1, s, r, h => by
    simp only [iter] at h
    cases hs : step s with
    | inl s' => rw [hs] at h; exact .more hs (LoopR.of_iter h)
    | inr r' => rw [hs] at h; simp at h; subst h; exact .last hs
theorem block_loop {P : Program} {N id n : Nat} {body : Code} {S R : Type} (rel : S → S ⊕ R → Prop) (T0 : S → Tm) (H0 : S → Heap) (ex : R → Ex) (T1 : R → Tm) (H1 : R → Heap) (hex : ∀ r, ex r ≠ .normal)
    (hgo : ∀ s s', rel s (.inl s') → Runs P N body (T0 s) (H0 s) n .normal (T0 s') (H0 s') n) (hout : ∀ s r, rel s (.inr r) → Runs P N body (T0 s) (H0 s) n (ex r) (T1 r) (H1 r) n)
    (s : S) (r : R) (h : LoopR rel s r) : Runs P N (.block id (.loop body)) (T0 s) (H0 s) n (outOf id (ex r)) (T1 r) (H1 r) n := by
  have key : ∃ k, LRuns P N body k (T0 s) (H0 s) n (ex r) (T1 r) (H1 r) n := by
    induction h with
    | last h => exact ⟨1, LRuns.last (hex _) (hout _ _ h) 0⟩
    | more h t ih =>
      obtain ⟨k, hk⟩ := ih
      exact ⟨k + 1, LRuns.more (hgo _ _ h) hk⟩
  obtain ⟨k, hk⟩ := key
  exact Runs.block (id := id) hk.loop
end Go.Proofs.YtgpcfjokmonlgaaDoor.VX
namespace Go.Proofs.YtgpcfjokmonlgaaDoor.VX
open Go
noncomputable def allN (f : Nat → Bool) (k : Nat) : Nat → Bool :=
  Nat.rec (motive := fun _ => Nat → Bool) f (fun _ ih b => Bool.rec false (ih (2 * b + 1)) (ih (2 * b))) k
theorem allN_spec {f : Nat → Bool} : ∀ {k b : Nat}, allN f k b = true → ∀ i, b * 2 ^ k ≤ i → i < (b + 1) * 2 ^ k → f i = true
  | 0, b, h, i, h1, h2 => by
    have : i = b := by simp at h1 h2; omega
    subst this; exact h
  | k + 1, b, h, i, h1, h2 => by
    have e : allN f (k + 1) b = Bool.rec false (allN f k (2 * b + 1)) (allN f k (2 * b)) := rfl
    rw [e] at h
    cases ha : allN f k (2 * b) with
    | false => rw [ha] at h; cases h
    | true =>
      rw [ha] at h
      have h : allN f k (2 * b + 1) = true := h
      rw [Nat.pow_succ] at h1 h2
      rcases Nat.lt_or_ge i ((2 * b + 1) * 2 ^ k) with h3 | h3
      · refine allN_spec ha i ?_ h3
        have : 2 * b * 2 ^ k = b * (2 ^ k * 2) := by rw [Nat.mul_comm 2 b, Nat.mul_assoc, Nat.mul_comm 2]
        omega
      · refine allN_spec h i h3 ?_
        have : (2 * b + 1 + 1) * 2 ^ k = (b + 1) * (2 ^ k * 2) := by
          rw [show 2 * b + 1 + 1 = (b + 1) * 2 by omega, Nat.mul_assoc, Nat.mul_comm 2]
        omega
theorem allN_nat {f : Nat → Bool} {k : Nat} (h : allN f k 0 = true) (i : Nat) (hi : i < 2 ^ k) : f i = true := allN_spec h i (by simp) (by simpa using hi)
theorem allN_int {f : Nat → Bool} {k : Nat} (h : allN f k 0 = true) (x : Int) (h0 : 0 ≤ x) (hx : x < 2 ^ k) : f x.toNat = true := by
  refine allN_nat h _ ?_
  have : (x.toNat : Int) < ((2 ^ k : Nat) : Int) := by rw [Int.toNat_of_nonneg h0]; simpa using hx
  exact_mod_cast this
theorem wf_u8 {n : Int} (h : (Lit.int .u8 n).wf = true) : 0 ≤ n ∧ n < 256 := by
  simp only [Lit.wf, Bool.and_eq_true, decide_eq_true_eq] at h; exact ⟨h.1, Int.lt_of_le_of_lt h.2 (by decide)⟩
theorem wf_u16 {n : Int} (h : (Lit.int .u16 n).wf = true) : 0 ≤ n ∧ n < 65536 := by
  simp only [Lit.wf, Bool.and_eq_true, decide_eq_true_eq] at h; exact ⟨h.1, Int.lt_of_le_of_lt h.2 (by decide)⟩
end Go.Proofs.YtgpcfjokmonlgaaDoor.VX
namespace Go.Proofs.YtgpcfjokmonlgaaDoor.VX
open Go
def small : IntKind → Bool
  | .u8 | .u16 => true
  | _ => false
theorem ofInt_nat {w a : Nat} (h : a < 2 ^ w) : (BitVec.ofInt w (a : Int)).toNat = a := by
  rw [BitVec.toNat_ofInt]
  have : ((a : Int) % ((2 ^ w : Nat) : Int)) = ((a % 2 ^ w : Nat) : Int) := by norm_cast
  rw [this, Int.toNat_natCast, Nat.mod_eq_of_lt h]
theorem wrap_nat {k : IntKind} (hk : small k = true) {a : Nat} (h : a < 2 ^ k.bits) : k.wrap (a : Int) = a := by
  cases k <;> simp [small] at hk
  · exact IntWalk.u8_in _ (by simp [IntKind.bits] at h; omega)
  · exact IntWalk.u16_in _ (by simp [IntKind.bits] at h; omega)
theorem and_nat {k : IntKind} (hk : small k = true) {a b : Nat} (ha : a < 2 ^ k.bits) (hb : b < 2 ^ k.bits) : bAnd k a b = ((a &&& b : Nat) : Int) := by
  unfold bAnd
  rw [BitVec.toNat_and, ofInt_nat ha, ofInt_nat hb]
  exact wrap_nat hk (Nat.lt_of_le_of_lt Nat.and_le_left ha)
theorem or_nat {k : IntKind} (hk : small k = true) {a b : Nat} (ha : a < 2 ^ k.bits) (hb : b < 2 ^ k.bits) : bOr k a b = ((a ||| b : Nat) : Int) := by
  unfold bOr
  rw [BitVec.toNat_or, ofInt_nat ha, ofInt_nat hb]
  exact wrap_nat hk (Nat.or_lt_two_pow ha hb)
theorem xor_nat {k : IntKind} (hk : small k = true) {a b : Nat} (ha : a < 2 ^ k.bits) (hb : b < 2 ^ k.bits) : bXor k a b = ((a ^^^ b : Nat) : Int) := by
  unfold bXor
  rw [BitVec.toNat_xor, ofInt_nat ha, ofInt_nat hb]
  exact wrap_nat hk (Nat.xor_lt_two_pow ha hb)
theorem or_add {x y : Nat} (h : x &&& y = 0) : x ||| y = x + y := by
  have hx : x < 2 ^ (x + y + 1) := Nat.lt_of_lt_of_le Nat.lt_two_pow_self (Nat.pow_le_pow_right (by omega) (by omega))
  have hy : y < 2 ^ (x + y + 1) := Nat.lt_of_lt_of_le Nat.lt_two_pow_self (Nat.pow_le_pow_right (by omega) (by omega))
  have hz : x + y < 2 ^ (x + y + 1) := Nat.lt_of_lt_of_le Nat.lt_two_pow_self (Nat.pow_le_pow_right (by omega) (by omega))
  have e := BitVec.add_eq_or_of_and_eq_zero (BitVec.ofNat (x + y + 1) x) (BitVec.ofNat (x + y + 1) y) (by
    apply BitVec.eq_of_toNat_eq
    rw [BitVec.toNat_and, BitVec.toNat_ofNat, BitVec.toNat_ofNat, Nat.mod_eq_of_lt hx, Nat.mod_eq_of_lt hy, h]; rfl)
  have e2 := congrArg BitVec.toNat e
  rw [BitVec.toNat_or, BitVec.toNat_add, BitVec.toNat_ofNat, BitVec.toNat_ofNat, Nat.mod_eq_of_lt hx, Nat.mod_eq_of_lt hy, Nat.mod_eq_of_lt hz] at e2
  exact e2.symm
theorem and_field (a p n : Nat) : a &&& (2 ^ p * (2 ^ n - 1)) = a / 2 ^ p % 2 ^ n * 2 ^ p := by
  apply Nat.eq_of_testBit_eq
  intro i
  rw [Nat.testBit_and, Nat.testBit_two_pow_mul, Nat.testBit_two_pow_sub_one, Nat.testBit_mul_two_pow, Nat.testBit_mod_two_pow, Nat.testBit_div_two_pow]
  by_cases h : p ≤ i
  · simp [h, show i - p + p = i by omega, Bool.and_comm]
  · simp [h]
theorem andnot_nat {k : IntKind} (hk : small k = true) {a b : Nat} (ha : a < 2 ^ k.bits) (hb : b < 2 ^ k.bits) : bAndNot k a b = ((a - (a &&& b) : Nat) : Int) := by
  unfold bAndNot
  have e : (BitVec.ofInt k.bits (a : Int) &&& ~~~BitVec.ofInt k.bits (b : Int)).toNat = a - (a &&& b) := by
    have h1 : ((BitVec.ofInt k.bits (a : Int) &&& ~~~BitVec.ofInt k.bits (b : Int)) ||| (BitVec.ofInt k.bits (a : Int) &&& BitVec.ofInt k.bits (b : Int))).toNat = a := by
      rw [← BitVec.and_or_distrib_left, BitVec.or_comm, BitVec.or_not_self, BitVec.and_allOnes, ofInt_nat ha]
    have h2 : (BitVec.ofInt k.bits (a : Int) &&& ~~~BitVec.ofInt k.bits (b : Int)).toNat &&& (BitVec.ofInt k.bits (a : Int) &&& BitVec.ofInt k.bits (b : Int)).toNat = 0 := by
      rw [← BitVec.toNat_and]
      have : (BitVec.ofInt k.bits (a : Int) &&& ~~~BitVec.ofInt k.bits (b : Int)) &&& (BitVec.ofInt k.bits (a : Int) &&& BitVec.ofInt k.bits (b : Int)) = 0#k.bits := by
        apply BitVec.eq_of_getLsbD_eq
        intro i hi
        simp only [BitVec.getLsbD_and, BitVec.getLsbD_not, BitVec.getLsbD_zero]
        cases (BitVec.ofInt k.bits (a : Int)).getLsbD i <;> cases (BitVec.ofInt k.bits (b : Int)).getLsbD i <;> simp
      rw [this]; rfl
    rw [BitVec.toNat_or, or_add h2, BitVec.toNat_and (BitVec.ofInt k.bits (a : Int)) (BitVec.ofInt k.bits (b : Int)), ofInt_nat ha, ofInt_nat hb] at h1
    omega
  rw [e]
  exact wrap_nat hk (by omega)
theorem and_split (a m : Nat) : (a - (a &&& m)) &&& m = 0 := by
  have : a - (a &&& m) = a &&& (a ^^^ (a &&& m)) := by
    have h1 : (a &&& (a ^^^ (a &&& m))) ||| (a &&& m) = a := by
      apply Nat.eq_of_testBit_eq
      intro i
      simp only [Nat.testBit_or, Nat.testBit_and, Nat.testBit_xor]
      cases a.testBit i <;> cases m.testBit i <;> rfl
    have h2 : (a &&& (a ^^^ (a &&& m))) &&& (a &&& m) = 0 := by
      apply Nat.eq_of_testBit_eq
      intro i
      simp only [Nat.testBit_and, Nat.testBit_xor, Nat.zero_testBit]
      cases a.testBit i <;> cases m.testBit i <;> rfl
    have := or_add h2
    omega
  rw [this]
  apply Nat.eq_of_testBit_eq
  intro i
  simp only [Nat.testBit_and, Nat.testBit_xor, Nat.zero_testBit]
  cases a.testBit i <;> cases m.testBit i <;> rfl
theorem and_put (a b m : Nat) : (a - (a &&& m)) &&& (b &&& m) = 0 := by
  have h : (a - (a &&& m)) &&& (b &&& m) = ((a - (a &&& m)) &&& m) &&& b := by
    rw [Nat.and_comm b m, Nat.and_assoc]
  rw [h, and_split, Nat.zero_and]
theorem xor_bit (a p : Nat) : a ^^^ 2 ^ p = a + 2 ^ p - 2 * (a / 2 ^ p % 2 * 2 ^ p) := by
  have hf := and_field a p 1
  simp only [show 2 ^ 1 - 1 = 1 from rfl, Nat.mul_one, show 2 ^ 1 = 2 from rfl] at hf
  have h1 : (a ^^^ 2 ^ p) = (a - (a &&& 2 ^ p)) ||| (2 ^ p - (2 ^ p &&& (a &&& 2 ^ p))) := by
    have e : ∀ x y : Nat, x - (x &&& y) = x &&& (x ^^^ y) := by
      intro x y
      have h1 : (x &&& (x ^^^ y)) ||| (x &&& y) = x := by
        apply Nat.eq_of_testBit_eq
        intro i
        simp only [Nat.testBit_or, Nat.testBit_and, Nat.testBit_xor]
        cases x.testBit i <;> cases y.testBit i <;> rfl
      have h2 : (x &&& (x ^^^ y)) &&& (x &&& y) = 0 := by
        apply Nat.eq_of_testBit_eq
        intro i
        simp only [Nat.testBit_and, Nat.testBit_xor, Nat.zero_testBit]
        cases x.testBit i <;> cases y.testBit i <;> rfl
      have := or_add h2
      omega
    rw [e, e]
    apply Nat.eq_of_testBit_eq
    intro i
    simp only [Nat.testBit_or, Nat.testBit_and, Nat.testBit_xor]
    cases a.testBit i <;> cases (2 ^ p).testBit i <;> rfl
  have h3 : (a - (a &&& 2 ^ p)) &&& (2 ^ p - (2 ^ p &&& (a &&& 2 ^ p))) = 0 := by
    have : 2 ^ p - (2 ^ p &&& (a &&& 2 ^ p)) = 2 ^ p - (2 ^ p &&& (a &&& 2 ^ p)) &&& 2 ^ p := by
      rw [hf]
      rcases Nat.mod_two_eq_zero_or_one (a / 2 ^ p) with h | h <;> rw [h] <;> simp
    rw [this]
    exact and_put a _ _
  rw [h1, or_add h3, hf]
  have hle : a / 2 ^ p % 2 * 2 ^ p ≤ a := by rw [← hf]; exact Nat.and_le_left
  rcases Nat.mod_two_eq_zero_or_one (a / 2 ^ p) with h | h <;> rw [h] at hle ⊢
  · simp
  · simp at hle ⊢; omega
theorem and_low {a b n : Nat} (h : b < 2 ^ n) : (a * 2 ^ n) &&& b = 0 := by
  have := Nat.two_pow_add_eq_or_of_lt h a
  apply Nat.eq_of_testBit_eq
  intro i
  rw [Nat.testBit_and, Nat.testBit_mul_two_pow, Nat.zero_testBit]
  by_cases hi : n ≤ i
  · rw [Nat.testBit_lt_two_pow (Nat.lt_of_lt_of_le h (Nat.pow_le_pow_right (by omega) hi))]; simp
  · simp [hi]
theorem bAnd_field {k : IntKind} (hk : small k = true) (p n : Nat) {a m : Int} (hm : m = ((2 ^ p * (2 ^ n - 1) : Nat) : Int)) (h0 : 0 ≤ a) (h1 : a < ((2 ^ k.bits : Nat) : Int)) (hb : 2 ^ p * (2 ^ n - 1) < 2 ^ k.bits) :
    bAnd k a m = a / ((2 ^ p : Nat) : Int) % ((2 ^ n : Nat) : Int) * ((2 ^ p : Nat) : Int) := by
  obtain ⟨x, rfl⟩ := Int.eq_ofNat_of_zero_le h0
  subst hm
  rw [and_nat hk (by exact_mod_cast h1) hb, and_field]
  norm_cast
theorem bAndNot_eq {k : IntKind} (hk : small k = true) {a m : Int} (h0 : 0 ≤ a) (h1 : a < ((2 ^ k.bits : Nat) : Int)) (hm0 : 0 ≤ m) (hm1 : m < ((2 ^ k.bits : Nat) : Int)) : bAndNot k a m = a - bAnd k a m := by
  obtain ⟨x, rfl⟩ := Int.eq_ofNat_of_zero_le h0
  obtain ⟨y, rfl⟩ := Int.eq_ofNat_of_zero_le hm0
  rw [andnot_nat hk (by exact_mod_cast h1) (by exact_mod_cast hm1), and_nat hk (by exact_mod_cast h1) (by exact_mod_cast hm1)]
  have : x &&& y ≤ x := Nat.and_le_left
  omega
theorem bOr_put {k : IntKind} (hk : small k = true) {a b m : Int} (h0 : 0 ≤ a) (h1 : a < ((2 ^ k.bits : Nat) : Int)) (hb0 : 0 ≤ b) (hb1 : b < ((2 ^ k.bits : Nat) : Int)) (hm0 : 0 ≤ m) (hm1 : m < ((2 ^ k.bits : Nat) : Int)) :
    bOr k (bAndNot k a m) (bAnd k b m) = a - bAnd k a m + bAnd k b m := by
  obtain ⟨x, rfl⟩ := Int.eq_ofNat_of_zero_le h0
  obtain ⟨y, rfl⟩ := Int.eq_ofNat_of_zero_le hm0
  obtain ⟨z, rfl⟩ := Int.eq_ofNat_of_zero_le hb0
  have hx : x < 2 ^ k.bits := by exact_mod_cast h1
  have hy : y < 2 ^ k.bits := by exact_mod_cast hm1
  have hz : z < 2 ^ k.bits := by exact_mod_cast hb1
  rw [andnot_nat hk hx hy, and_nat hk hx hy, and_nat hk hz hy, or_nat hk (by omega) (Nat.lt_of_le_of_lt Nat.and_le_left hz), or_add (and_put x z y)]
  have : x &&& y ≤ x := Nat.and_le_left
  omega
theorem bOr_low {k : IntKind} (hk : small k = true) (n : Nat) {a b : Int} (h0 : 0 ≤ a) (h1 : a < ((2 ^ k.bits : Nat) : Int)) (hb0 : 0 ≤ b) (hb1 : b < ((2 ^ n : Nat) : Int)) (hd : a % ((2 ^ n : Nat) : Int) = 0) (hn : 2 ^ n ≤ 2 ^ k.bits) :
    bOr k a b = a + b := by
  obtain ⟨x, rfl⟩ := Int.eq_ofNat_of_zero_le h0
  obtain ⟨y, rfl⟩ := Int.eq_ofNat_of_zero_le hb0
  have hx : x < 2 ^ k.bits := by exact_mod_cast h1
  have hy : y < 2 ^ n := by exact_mod_cast hb1
  have hd : x % 2 ^ n = 0 := by exact_mod_cast hd
  rw [or_nat hk hx (by omega), or_add ?_]
  · norm_cast
  · have e : x = x / 2 ^ n * 2 ^ n := by have := Nat.div_add_mod x (2 ^ n); rw [hd, Nat.add_zero, Nat.mul_comm] at this; exact this.symm
    rw [e]
    exact and_low hy
theorem bXor_bit {k : IntKind} (hk : small k = true) (p : Nat) {a m : Int} (hm : m = ((2 ^ p : Nat) : Int)) (h0 : 0 ≤ a) (h1 : a < ((2 ^ k.bits : Nat) : Int)) (hb : 2 ^ p < 2 ^ k.bits) :
    bXor k a m = a + m - 2 * (a / m % 2 * m) := by
  obtain ⟨x, rfl⟩ := Int.eq_ofNat_of_zero_le h0
  subst hm
  rw [xor_nat hk (by exact_mod_cast h1) hb, xor_bit]
  have hle : x / 2 ^ p % 2 * 2 ^ p ≤ x := by
    have := and_field x p 1
    simp only [show 2 ^ 1 - 1 = 1 from rfl, Nat.mul_one, show 2 ^ 1 = 2 from rfl] at this
    rw [← this]; exact Nat.and_le_left
  have h2 : x / 2 ^ p % 2 * 2 ^ p ≤ 2 ^ p := by
    rcases Nat.mod_two_eq_zero_or_one (x / 2 ^ p) with h | h <;> rw [h] <;> simp
  have : 2 * (x / 2 ^ p % 2 * 2 ^ p) ≤ x + 2 ^ p := by omega
  rw [Int.ofNat_sub this]
  norm_cast
end Go.Proofs.YtgpcfjokmonlgaaDoor.VX
namespace Go.Proofs.YtgpcfjokmonlgaaDoor.VX
open Go
def rng (n : Nat) (x : Int) : Prop := 0 ≤ x ∧ x < (n : Int)
instance (n : Nat) (x : Int) : Decidable (rng n x) := inferInstanceAs (Decidable (_ ∧ _))
theorem rng_le {m n : Nat} {x : Int} (h : rng m x) (hmn : m ≤ n) : rng n x := ⟨h.1, by have := h.2; omega⟩
theorem toNat_lt {n : Nat} {x : Int} (h : rng n x) : x.toNat < n := by obtain ⟨h1, h2⟩ := h; omega
theorem rng_wrap_u8 (e : Int) : rng 256 (IntKind.u8.wrap e) := by
  have h : IntKind.u8.wrap e = e % 256 := by simp [IntKind.wrap, IntKind.signed, IntKind.bits]
  rw [h]; exact ⟨by omega, by omega⟩
theorem rng_wrap_u16 (e : Int) : rng 65536 (IntKind.u16.wrap e) := by
  have h : IntKind.u16.wrap e = e % 65536 := by simp [IntKind.wrap, IntKind.signed, IntKind.bits]
  rw [h]; exact ⟨by omega, by omega⟩
theorem rng_bAnd_u8 (a b : Int) : rng 256 (bAnd .u8 a b) := rng_wrap_u8 _
theorem rng_bOr_u8 (a b : Int) : rng 256 (bOr .u8 a b) := rng_wrap_u8 _
theorem rng_bXor_u8 (a b : Int) : rng 256 (bXor .u8 a b) := rng_wrap_u8 _
theorem rng_bAndNot_u8 (a b : Int) : rng 256 (bAndNot .u8 a b) := rng_wrap_u8 _
theorem rng_bShl_u8 (a b : Int) : rng 256 (bShl .u8 a b) := rng_wrap_u8 _
theorem rng_bAnd_u16 (a b : Int) : rng 65536 (bAnd .u16 a b) := rng_wrap_u16 _
theorem rng_bOr_u16 (a b : Int) : rng 65536 (bOr .u16 a b) := rng_wrap_u16 _
theorem rng_bXor_u16 (a b : Int) : rng 65536 (bXor .u16 a b) := rng_wrap_u16 _
theorem rng_bAndNot_u16 (a b : Int) : rng 65536 (bAndNot .u16 a b) := rng_wrap_u16 _
theorem rng_bShl_u16 (a b : Int) : rng 65536 (bShl .u16 a b) := rng_wrap_u16 _
theorem rng_bShr {n : Nat} {a : Int} (h : rng n a) (k : IntKind) (b : Int) : rng n (bShr k a b) := by
  obtain ⟨h1, h2⟩ := h
  unfold bShr
  generalize min b.toNat k.bits = s
  have hp : (0 : Int) < 2 ^ s := Int.pow_pos (by decide)
  rw [Int.fdiv_eq_ediv_of_nonneg _ (Int.le_of_lt hp)]
  exact ⟨Int.ediv_nonneg h1 (Int.le_of_lt hp), Int.lt_of_le_of_lt (Int.ediv_le_self _ h1) h2⟩
theorem rng_shr_lit {m n : Nat} {a : Int} (h : rng m a) {k : IntKind} {b : Int} (hb : m ≤ n * 2 ^ b.toNat ∧ b.toNat ≤ k.bits) : rng n (bShr k a b) := by
  obtain ⟨h1, h2⟩ := h
  unfold bShr
  rw [Nat.min_eq_left hb.2]
  have hp : (0 : Int) < 2 ^ b.toNat := Int.pow_pos (by decide)
  rw [Int.fdiv_eq_ediv_of_nonneg _ (Int.le_of_lt hp)]
  refine ⟨Int.ediv_nonneg h1 (Int.le_of_lt hp), Int.ediv_lt_of_lt_mul hp ?_⟩
  have : ((m : Nat) : Int) ≤ ((n * 2 ^ b.toNat : Nat) : Int) := by exact_mod_cast hb.1
  rw [Int.natCast_mul, Int.natCast_pow] at this
  exact Int.lt_of_lt_of_le h2 this
theorem and_lit {k : IntKind} (hk : small k = true) {n : Nat} {m : Int} (a : Int) (h : 0 ≤ m ∧ m.toNat < 2 ^ k.bits ∧ m.toNat < n) : rng n (bAnd k a m) := by
  obtain ⟨h0, h1, h2⟩ := h
  obtain ⟨m, rfl⟩ : ∃ q : Nat, m = q := ⟨m.toNat, by omega⟩
  rw [Int.toNat_natCast] at h1 h2
  unfold bAnd
  rw [BitVec.toNat_and, ofInt_nat h1]
  have hle : (BitVec.ofInt k.bits a).toNat &&& m ≤ m := Nat.and_le_right
  rw [wrap_nat hk (Nat.lt_of_le_of_lt hle h1)]
  exact ⟨by omega, by omega⟩
theorem rng_and_lit_u8 {n : Nat} {m : Int} (a : Int) (h : 0 ≤ m ∧ m.toNat < 2 ^ IntKind.u8.bits ∧ m.toNat < n) : rng n (bAnd .u8 a m) := and_lit rfl a h
theorem rng_and_lit_u16 {n : Nat} {m : Int} (a : Int) (h : 0 ≤ m ∧ m.toNat < 2 ^ IntKind.u16.bits ∧ m.toNat < n) : rng n (bAnd .u16 a m) := and_lit rfl a h
theorem rng_tmod {n : Nat} {a : Int} (h : rng n a) (b : Int) : rng n (Int.tmod a b) := by
  obtain ⟨h1, h2⟩ := h
  refine ⟨Int.tmod_nonneg _ h1, ?_⟩
  rw [Int.tmod_eq_emod_of_nonneg h1]
  rcases Int.lt_trichotomy b 0 with hb | hb | hb
  · rw [← Int.emod_neg]
    have hb' : 0 < -b := by omega
    rcases Int.lt_or_le a (-b) with h | h
    · rw [Int.emod_eq_of_lt h1 h]; exact h2
    · have := Int.emod_lt_of_pos a hb'; omega
  · subst hb; simpa using h2
  · rcases Int.lt_or_le a b with h | h
    · rw [Int.emod_eq_of_lt h1 h]; exact h2
    · have := Int.emod_lt_of_pos a hb; omega
theorem rng_tmod_lit {m n : Nat} {a b : Int} (h : rng m a) (hb : 0 < b ∧ b.toNat ≤ n) : rng n (Int.tmod a b) := by
  obtain ⟨h1, h2⟩ := h
  refine ⟨Int.tmod_nonneg _ h1, ?_⟩
  have := Int.tmod_lt_of_pos a hb.1
  omega
theorem rng_ite {n : Nat} {c : Prop} [Decidable c] {a b : Int} (p : rng n a) (q : rng n b) : rng n (if c then a else b) := by split <;> assumption
theorem rng_upd {n : Nat} {f : Nat → Int} (p : ∀ j, rng n (f j)) (o : Nat) {x : Int} (q : rng n x) : ∀ j, rng n (upd f o x j) := by
  intro j
  unfold upd
  cases Nat.beq j o
  · exact p j
  · exact q
def allR (n : Nat) : List Int → Prop
  | [] => True
  | x :: r => rng n x ∧ allR n r
theorem rng_list {n : Nat} (h0 : 0 < n) : ∀ (l : List Int) (_ : allR n l) (j : Nat), rng n (l.getD j 0)
  | [], _, j => by simp; exact ⟨by omega, by omega⟩
  | x :: r, h, 0 => by simpa using h.1
  | x :: r, h, j + 1 => by simpa using rng_list h0 r h.2 j
theorem lit_e_e {x a b : Int} (h : (x == a) = true) (n : a ≠ b) : (x == b) = false := by simp at h ⊢; omega
theorem lit_e_n {x a b : Int} (h : (x == a) = true) (n : a ≠ b) : (x != b) = true := by simp at h ⊢; omega
theorem lit_n_e {x a b : Int} (h : (x != a) = false) (n : a ≠ b) : (x == b) = false := by simp at h ⊢; omega
theorem lit_n_n {x a b : Int} (h : (x != a) = false) (n : a ≠ b) : (x != b) = true := by simp at h ⊢; omega
end Go.Proofs.YtgpcfjokmonlgaaDoor.VX
