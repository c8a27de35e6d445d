/-
  Further operations: frozen slices, cuts, appends. No condition.
-/
import Derived.Test.YtgnhhnmpeklciaaVG
import Derived.Deep.AppendSrc
namespace Go.Proofs.Ytgnhhnmpeklciaa.VX
open Go
set_option linter.unusedSimpArgs false
set_option linter.unusedVariables false

theorem OpSpec.quiet {P : Program} {o : Oper} {ρ : Operand → Value} {h : HF} {out : Out} (he : out.eff = []) (hn : out.new = [])
    (hv : ∀ (μ : Mu) (a : Act) (w : World), Gl P μ → (∀ x ∈ o.op.operands, VRel μ (ρ x) (a.eval x)) → Rep μ h w → ∃ rv, (execOp a.eval o).run P w = .ok (.value rv) w ∧ VRel μ out.v rv) :
    OpSpec P o ρ h out := by
  intro μ a w hg hx hr hnn K Q hk
  obtain ⟨rv, hrun, hvr⟩ := hv μ a w hg hx hr
  rw [he, hn] at hk
  exact wp_of_value hrun (hk μ w rv ⟨fun _ _ h => h, fun _ _ _ => rfl, fun _ _ h => h⟩ (fun _ _ => rfl) hr hvr (Keeps.refl _ _ _))

theorem all_drop {l : List Value} (n : Nat) (h : l.all solid = true) : (l.drop n).all solid = true := by
  rw [List.all_eq_true] at h ⊢
  exact fun x hx => h x (List.mem_of_mem_drop hx)
theorem all_take {l : List Value} (n : Nat) (h : l.all solid = true) : (l.take n).all solid = true := by
  rw [List.all_eq_true] at h ⊢
  exact fun x hx => h x (List.mem_of_mem_take hx)

theorem VRel.fptr_inv {μ : Mu} {l : List Value} {r : Value} (h : VRel μ (.func (.method "") ⟨l⟩ ⟨[]⟩) r) : ∃ b off cs, r = .pointer (some ⟨b, off, none⟩) ∧ l.all solid = true ∧ μ.fz b = some cs ∧ ∀ j v, l[j]? = some v → cs[off + j]? = some v := by
  cases h with
  | fptr l hs hf k => exact ⟨_, _, _, rfl, hs, hf, k⟩

theorem VRel.lst_inv {μ : Mu} {z : Nat} {l : List Value} {f : Bool} {r : Value} (h : VRel μ (.func (.yield z) ⟨l⟩ ⟨[.bool f]⟩) r) (hf : f = true) : l.all solid = true ∧ Lst μ z l r := by
  cases h with
  | lst z l f hs hr k => exact ⟨hs, k hf⟩

theorem VRel.lst_true {μ : Mu} {z : Nat} {l : List Value} {r : Value} (hs : l.all solid = true) (k : Lst μ z l r) : VRel μ (.func (.yield z) ⟨l⟩ ⟨[.bool true]⟩) r := by
  refine .lst z l true hs ?_ fun _ => k
  rcases k with ⟨_, rfl⟩ | ⟨_, _, a, rfl⟩ | ⟨_, b, off, len, cap, cs, rfl, _⟩
  · exact ⟨_, _, _, rfl⟩
  · exact ⟨_, _, _, rfl⟩
  · exact ⟨_, _, _, rfl⟩

theorem xrow_ok {P : Program} {H h : HF} {t : TypeId} {j k : Nat} {p v : Value} {i : Nat} {ob : List Prop} (hx : xrow P H t j k p = some (v, i, ob)) (hob : ∀ q ∈ ob, q) (hH : h i = H i)
    {μ : Mu} {w : World} (r : Rep μ h w) {rp : Value} (hp : VRel μ p rp) : ∃ rv, (Instr.loadAt t rp).run P w = .ok rv w ∧ VRel μ v rv := by
  unfold xrow at hx
  split at hx
  · rename_i i' off s
    split at hx
    · rename_i B hB
      split at hx
      · rename_i n sz g hsg
        have hgp0 : ob = gapOb B.segs s ++ [off = j * sz + k, j < n] → ∀ q ∈ gapOb B.segs s, q := fun e q hq => hob q (by rw [e]; exact List.mem_append_left _ hq)
        have main : ∀ (hgp : ∀ q ∈ gapOb B.segs s, q) (hi : i = i') (hoff : off = j * sz + k) (hj : j < n) (m : Nat), k + m ≤ sz → (g j).length = sz → ∃ b o, rp = .pointer (some ⟨b, o, none⟩) ∧ ∃ rs, VRels μ (((g j).drop k).take m) rs ∧ rs.length = m ∧ ∀ q x, rs[q]? = some x → w.cell? ⟨b, o + q, none⟩ = some x := by
          intro hgp hi hoff hj m hm hlen
          subst hi
          rw [← hH] at hB
          obtain ⟨b, hb, cs, ty, fr, he, _, hcs⟩ := r.blk i B hB (.inr hp.ptr_ne)
          cases hp with
          | ptrS hb' _ _ =>
            rw [hb] at hb'
            obtain rfl : b = _ := by simpa using hb'
            refine ⟨b, s + off, rfl, ?_⟩
            have get : ∀ q v, q < m → ((g j).drop k)[q]? = some v → ∃ x, cs[s + off + q]? = some x ∧ VRel μ v x := by
              intro q v hq hv
              have hv' : (g j)[k + q]? = some v := by simpa using hv
              have hpos : 0 < sz := by omega
              have hget : (Seg.rows n sz g).get? (off + q) = some v := by
                have h1 : off + q < n * sz := by
                  have : (j + 1) * sz ≤ n * sz := Nat.mul_le_mul_right _ hj
                  rw [Nat.add_mul] at this; omega
                have h2 : (off + q) / sz = j := by
                  rw [hoff, Nat.add_assoc, Nat.mul_comm, Nat.mul_add_div hpos, Nat.div_eq_of_lt (by omega), Nat.add_zero]
                have h3 : (off + q) % sz = k + q := by
                  rw [hoff, Nat.add_assoc, Nat.mul_comm, Nat.mul_add_mod, Nat.mod_eq_of_lt (by omega)]
                simp only [Seg.get?]
                rw [show Nat.blt (off + q) (n * sz) = true from Nat.ble_eq_true_of_le h1, h2, h3]
                exact hv'
              have := segAtG_get hsg hgp (off + q) v hget
              rw [← Nat.add_assoc] at this
              exact hcs _ v this
            -- the cells, one behind the other
            have build : ∀ (l : List Value) (base : Nat), (∀ q v, l[q]? = some v → ∃ x, cs[base + q]? = some x ∧ VRel μ v x) → ∃ rs, VRels μ l rs ∧ rs.length = l.length ∧ ∀ q x, rs[q]? = some x → cs[base + q]? = some x := by
              intro l
              induction l with
              | nil => intro base _; exact ⟨[], .nil, rfl, by simp⟩
              | cons a l ih =>
                intro base hl
                obtain ⟨x, hx1, hx2⟩ := hl 0 a (by simp)
                obtain ⟨rs, h1, h2, h3⟩ := ih (base + 1) (fun q v hq => by
                  obtain ⟨y, hy1, hy2⟩ := hl (q + 1) v (by simpa using hq)
                  exact ⟨y, by rw [show base + 1 + q = base + (q + 1) by omega]; exact hy1, hy2⟩)
                refine ⟨x :: rs, .cons hx2 h1, by simp [h2], fun q y hq => ?_⟩
                cases q with
                | zero => simp at hq; subst hq; simpa using hx1
                | succ q => have := h3 q y (by simpa using hq); rw [show base + (q + 1) = base + 1 + q by omega]; exact this
            obtain ⟨rs, h1, h2, h3⟩ := build (((g j).drop k).take m) (s + off) (fun q v hq => by
              rw [List.getElem?_take] at hq
              split at hq
              · rename_i hlt; exact get q v hlt hq
              · cases hq)
            refine ⟨rs, h1, by rw [h2]; simp; omega, fun q x hq => cell_of he (h3 q x hq)⟩
        split at hx
        · rename_i m ha hs
          cases hc : (Nat.beq ((g j).drop k).length (sz - k) && Nat.ble (k + m) sz && Nat.beq (g j).length sz) <;> rw [hc] at hx
          · simp at hx
          · simp only [cond_true, Option.some.injEq, Prod.mk.injEq] at hx
            obtain ⟨rfl, rfl, rfl⟩ := hx
            simp only [Bool.and_eq_true] at hc
            obtain ⟨b, o, rfl, rs, h1, h2, h3⟩ := main (hgp0 rfl) rfl (hob _ (by simp)) (hob _ (by simp)) m (ble_tt hc.1.2) (beq_tt hc.2)
            exact ⟨.agg ⟨rs⟩, loadAt_run_agg ha hs h2 h3, .agg h1⟩
        · rename_i ha
          cases hc : Nat.blt k sz <;> rw [hc] at hx
          · simp at hx
          · simp only [cond_true] at hx
            cases hg : (g j)[k]? with
            | none => simp [hg] at hx
            | some u =>
              simp only [hg, Option.map_some, Option.some.injEq, Prod.mk.injEq] at hx
              obtain ⟨rfl, rfl, rfl⟩ := hx
              have hk := blt_tt hc
              rw [← hH] at hB
              have hoff : off = j * sz + k := hob _ (by simp)
              have hj : j < n := hob _ (by simp)
              have hgp := hgp0 rfl
              obtain ⟨b, hb, cs, ty, fr, he, _, hcs⟩ := r.blk i' B hB (.inr hp.ptr_ne)
              cases hp with
              | ptrS hb' _ _ =>
                rw [hb] at hb'
                obtain rfl : b = _ := by simpa using hb'
                have hpos : 0 < sz := by omega
                have hget : (Seg.rows n sz g).get? off = some u := by
                  have h1 : off < n * sz := by
                    have : (j + 1) * sz ≤ n * sz := Nat.mul_le_mul_right _ hj
                    rw [Nat.add_mul] at this; omega
                  have h2 : off / sz = j := by
                    rw [hoff, Nat.mul_comm, Nat.mul_add_div hpos, Nat.div_eq_of_lt hk, Nat.add_zero]
                  have h3 : off % sz = k := by
                    rw [hoff, Nat.mul_comm, Nat.mul_add_mod, Nat.mod_eq_of_lt hk]
                  simp only [Seg.get?]
                  rw [show Nat.blt off (n * sz) = true from Nat.ble_eq_true_of_le h1, h2, h3]
                  exact hg
                obtain ⟨rv, hr, hv⟩ := hcs (s + off) u (segAtG_get hsg hgp off u hget)
                exact ⟨rv, loadAt_run_one ha (cell_of he hr), hv⟩
        · simp at hx
      · simp at hx
    · simp at hx
  · simp at hx

theorem xloadE_ok {P : Program} {H h : HF} {n : Nat} {hs : List Hint} {t : TypeId} {v : Value} {out : Out} (hx : xloadE P H n hs t v = some out) (hob : ∀ q ∈ out.ob, q) (hrd : ∀ i ∈ out.rd, h i = H i) :
    out.eff = [] ∧ out.new = [] ∧ ∀ {μ : Mu} {w : World} {r : Value}, Rep μ h w → VRel μ v r → ∃ rv, (Instr.loadAt t r).run P w = .ok rv w ∧ VRel μ out.v rv := by
  unfold xloadE at hx
  split at hx
  · rename_i l
    split at hx
    · rename_i m ha hsz
      cases hc : Nat.ble m l.length <;> rw [hc] at hx
      · simp at hx
      · simp only [cond_true, Option.some.injEq] at hx; subst hx
        refine ⟨rfl, rfl, fun {μ w r} hr hv => ?_⟩
        obtain ⟨b, off, cs, rfl, hsol, hf, hg⟩ := hv.fptr_inv
        obtain ⟨ty, fr, he⟩ := hr.frz b cs hf
        refine ⟨.agg ⟨l.take m⟩, loadAt_run_agg ha hsz (by simp [ble_tt hc]) (fun j x hj => cell_of he (hg j x ?_)), .agg (.of_solids (all_take m hsol))⟩
        rw [List.getElem?_take] at hj
        split at hj
        · exact hj
        · cases hj
    · rename_i ha
      cases hl : l[0]? with
      | none => simp [hl] at hx
      | some u =>
        simp only [hl, Option.map_some, Option.some.injEq] at hx; subst hx
        refine ⟨rfl, rfl, fun {μ w r} hr hv => ?_⟩
        obtain ⟨b, off, cs, rfl, hsol, hf, hg⟩ := hv.fptr_inv
        obtain ⟨ty, fr, he⟩ := hr.frz b cs hf
        exact ⟨u, loadAt_run_one ha (cell_of he (by simpa using hg 0 u hl)), .of_solid (by rw [List.all_eq_true] at hsol; exact hsol u (List.mem_of_getElem? hl))⟩
    · simp at hx
  · rename_i j k hs'
    split at hx
    · rename_i u i ob hr
      simp only [Option.some.injEq] at hx; subst hx
      exact ⟨rfl, rfl, fun {μ w r} hrep hv => xrow_ok hr hob (hrd i (by simp)) hrep hv⟩
    · simp at hx
  · rename_i i off s m hs'
    split at hx
    · rename_i B hB
      split at hx
      · rename_i k a rr hg ha
        cases hns : intsOf k (.int k a :: rr) with
        | none => simp [hns] at hx
        | some ns =>
          simp only [hns, Option.map_some, Option.some.injEq] at hx; subst hx
          refine ⟨rfl, rfl, fun {μ w r} hrep hv => ?_⟩
          have hlt : off < m := hob _ (by simp)
          have hcs := intsOf_get hns
          rw [← hrd i (by simp)] at hB
          obtain ⟨b, hb, cs, ty, fr, he, _, hc⟩ := hrep.blk i B hB (.inr hv.ptr_ne)
          cases hv with
          | ptrS hb' _ _ =>
            rw [hb] at hb'
            obtain rfl : b = _ := by simpa using hb'
            obtain ⟨rs, h1, h2, h3⟩ := gets_spec hc _ _ _ hg
            rw [hcs] at h1 h2
            have hlen : off < ns.length := by rw [List.length_map] at h2; omega
            obtain ⟨y, hy, hyv⟩ := h1.get off (.int k (ns.getD off 0)) (by simp [hlen])
            exact ⟨y, loadAt_run_one ha (cell_of he (h3 off y hy)), hyv⟩
      · rename_i a rr hg ha
        cases hns : boolsOf (.bool a :: rr) with
        | none => simp [hns] at hx
        | some ns =>
          simp only [hns, Option.map_some, Option.some.injEq] at hx; subst hx
          refine ⟨rfl, rfl, fun {μ w r} hrep hv => ?_⟩
          have hlt : off < m := hob _ (by simp)
          have hcs := boolsOf_get hns
          rw [← hrd i (by simp)] at hB
          obtain ⟨b, hb, cs, ty, fr, he, _, hc⟩ := hrep.blk i B hB (.inr hv.ptr_ne)
          cases hv with
          | ptrS hb' _ _ =>
            rw [hb] at hb'
            obtain rfl : b = _ := by simpa using hb'
            obtain ⟨rs, h1, h2, h3⟩ := gets_spec hc _ _ _ hg
            rw [hcs] at h1 h2
            have hlen : off < ns.length := by rw [List.length_map] at h2; omega
            obtain ⟨y, hy, hyv⟩ := h1.get off (.bool (ns.getD off false)) (by simp [hlen])
            exact ⟨y, loadAt_run_one ha (cell_of he (h3 off y hy)), hyv⟩
      · simp at hx
    · simp at hx
  · simp at hx

theorem xfieldE_ok {P : Program} {n : Nat} {hs : List Hint} {s : TypeId} {f : Nat} {v : Value} {out : Out} (hx : xfieldE P n hs s f v = some out) :
    out.eff = [] ∧ out.new = [] ∧ ∀ {μ : Mu} {w : World} {r : Value}, VRel μ v r → ∃ rv, (Instr.fieldAt s r f).run P w = .ok rv w ∧ VRel μ out.v rv := by
  unfold xfieldE at hx
  split at hx
  · rename_i l fields hu
    split at hx
    · rename_i fd hfd
      split at hx
      · rename_i m hsz
        simp only [Option.some.injEq] at hx; subst hx
        refine ⟨rfl, rfl, fun {μ w r} hv => ?_⟩
        obtain ⟨b, off, cs, rfl, hsol, hf, hg⟩ := hv.fptr_inv
        refine ⟨.pointer (some ⟨b, off + fd.offset, none⟩), ?_, .fptr _ (all_drop _ hsol) hf fun j x hj => ?_⟩
        · simp only [Instr.fieldAt, Sem.run_bind, underlying_run hu, Result.andThen_ok, hfd, Instr.sureAddr, Sem.run_pure, fieldPlace_run hsz]
        · have := hg (fd.offset + j) x (by simpa using hj)
          rw [← Nat.add_assoc] at this; exact this
      · simp at hx
    · simp at hx
  · simp at hx

theorem xatE_ok {P : Program} {n : Nat} {hs : List Hint} {t : TypeId} {v ix : Value} {out : Out} (hx : xatE P n hs t v ix = some out) (hob : ∀ q ∈ out.ob, q) :
    out.eff = [] ∧ out.new = [] ∧ ∀ {μ : Mu} {w : World} {r rx : Value}, VRel μ v r → VRel μ ix rx → ∃ rv, (Instr.indexAt t r rx).run P w = .ok rv w ∧ VRel μ out.v rv := by
  unfold xatE at hx
  split at hx
  · rename_i k i e z l f hu
    split at hx
    · rename_i sz j hs' hsz
      cases hc : (Nat.beq z sz && Nat.ble 1 sz && Nat.ble ((j + 1) * z) l.length) <;> rw [hc] at hx
      · simp at hx
      · simp only [cond_true, Option.some.injEq] at hx; subst hx
        simp only [Bool.and_eq_true] at hc
        obtain ⟨⟨c1, c2⟩, c3⟩ := hc
        obtain rfl := beq_tt c1
        have c2 := ble_tt c2
        have c3 := ble_tt c3
        have h1 : f = true := hob _ (by simp [silent])
        have h2 : i = (j : Int) := hob _ (by simp [silent])
        subst h2
        refine ⟨rfl, rfl, fun {μ w r rx} hv hix => ?_⟩
        cases hix
        obtain ⟨hsol, hl⟩ := hv.lst_inv h1
        have hpos : z ≤ (j + 1) * z := by rw [Nat.add_mul]; omega
        rcases hl with ⟨rfl, _⟩ | ⟨h0, _⟩ | ⟨_, b, off, len, cap, cs, rfl, hcap, hlen, hf, hg⟩
        · simp at c3; omega
        · omega
        · have hj : j + 1 ≤ len := Nat.le_of_mul_le_mul_right (by rw [hlen]; exact c3) (by omega)
          refine ⟨_, indexAt_slice_run hu hsz ⟨by omega, by omega⟩ w, ?_⟩
          simp only [Int.toNat_natCast]
          refine .fptr _ (all_drop _ hsol) hf fun q x hq => ?_
          have := hg (j * z + q) x (by simpa using hq)
          rw [← Nat.add_assoc] at this; exact this
    · rename_i sz hs' hsz
      cases hc : (Nat.beq z 1 && Nat.beq sz 1) <;> rw [hc] at hx
      · simp at hx
      · simp only [cond_true] at hx
        simp only [Bool.and_eq_true] at hc
        obtain rfl := beq_tt hc.1
        obtain rfl := beq_tt hc.2
        split at hx
        · rename_i k' a rr
          cases hns : intsOf k' (.int k' a :: rr) with
          | none => simp [hns] at hx
          | some ns =>
            simp only [hns, Option.map_some, Option.some.injEq] at hx; subst hx
            have h1 : f = true := hob _ (by simp [silent])
            have h2 : 0 ≤ i ∧ i < (ns.length : Int) := hob _ (by simp [silent])
            have hcs := intsOf_get hns
            refine ⟨rfl, rfl, fun {μ w r rx} hv hix => ?_⟩
            cases hix
            obtain ⟨hsol, hl⟩ := hv.lst_inv h1
            rw [hcs] at hl
            rcases hl with ⟨h0, _⟩ | ⟨h0, _⟩ | ⟨_, b, off, len, cap, cs, rfl, hcap, hlen, hf, hg⟩
            · have : ns = [] := by simpa using h0
              rw [this] at h2; simp at h2; omega
            · omega
            · have hll : len = ns.length := by simpa using hlen
              refine ⟨_, indexAt_slice_run hu hsz ⟨h2.1, by rw [hll]; exact h2.2⟩ w, ?_⟩
              rw [Nat.mul_one]
              refine .fptr _ rfl hf fun q x hq => ?_
              cases q with
              | zero =>
                simp at hq; subst hq
                have hlt : i.toNat < ns.length := by omega
                have := hg i.toNat (.int k' (ns.getD i.toNat 0)) (by simp [hlt])
                simpa using this
              | succ q => simp at hq
        · rename_i a rr
          cases hns : strsOf (.string a :: rr) with
          | none => simp [hns] at hx
          | some ns =>
            simp only [hns, Option.map_some, Option.some.injEq] at hx; subst hx
            have h1 : f = true := hob _ (by simp [silent])
            have h2 : 0 ≤ i ∧ i < (ns.length : Int) := hob _ (by simp [silent])
            have hcs := strsOf_get hns
            refine ⟨rfl, rfl, fun {μ w r rx} hv hix => ?_⟩
            cases hix
            obtain ⟨hsol, hl⟩ := hv.lst_inv h1
            rw [hcs] at hl
            rcases hl with ⟨h0, _⟩ | ⟨h0, _⟩ | ⟨_, b, off, len, cap, cs, rfl, hcap, hlen, hf, hg⟩
            · have : ns = [] := by simpa using h0
              rw [this] at h2; simp at h2; omega
            · omega
            · have hll : len = ns.length := by simpa using hlen
              refine ⟨_, indexAt_slice_run hu hsz ⟨h2.1, by rw [hll]; exact h2.2⟩ w, ?_⟩
              rw [Nat.mul_one]
              refine .fptr _ rfl hf fun q x hq => ?_
              cases q with
              | zero =>
                simp at hq; subst hq
                have hlt : i.toNat < ns.length := by omega
                have := hg i.toNat (.string (ns.getD i.toNat ⟨#[]⟩)) (by simp [hlt])
                simpa using this
              | succ q => simp at hq
        · simp at hx
    · simp at hx
  · simp at hx

theorem xlenE_ok {P : Program} {n : Nat} {hs : List Hint} {t ty : TypeId} {v : Value} {out : Out} {ts : Array TypeId} (hx : xlenE P n hs t v = some out) (hob : ∀ q ∈ out.ob, q) (ht : ts[0]? = some t) :
    out.eff = [] ∧ out.new = [] ∧ ∀ {μ : Mu} {w : World} {r : Value} {args : Array Value}, VRel μ v r → args[0]? = some r → ∃ rv, (Builtin.len_ ts ty args).run P w = .ok rv w ∧ VRel μ out.v rv := by
  unfold xlenE at hx
  split at hx
  · rename_i z l f e hu
    split at hx
    · rename_i k hs'
      cases hc : Nat.ble 1 z <;> rw [hc] at hx
      · simp at hx
      · simp only [cond_true, Option.some.injEq] at hx; subst hx
        have c1 := ble_tt hc
        have h1 : f = true := hob _ (by simp [silent])
        have h2 : l.length = k * z := hob _ (by simp [silent])
        refine ⟨rfl, rfl, fun {μ w r args} hv ha => ?_⟩
        obtain ⟨_, hl⟩ := hv.lst_inv h1
        have hr : ∃ a c, r = .slice a k c := by
          rcases hl with ⟨rfl, rfl⟩ | ⟨h0, _⟩ | ⟨_, b, off, len, cap, cs, rfl, _, hlen, _⟩
          · have : k = 0 := by
              rcases Nat.eq_zero_or_pos k with h | h
              · exact h
              · have := Nat.mul_pos h (show 0 < z by omega)
                simp at h2; omega
            exact ⟨none, 0, by rw [this]⟩
          · omega
          · exact ⟨some ⟨b, off, none⟩, cap, by rw [show len = k from Nat.eq_of_mul_eq_mul_right (by omega) (hlen.trans h2)]⟩
        obtain ⟨a, c, rfl⟩ := hr
        refine ⟨.int .i64 (k : Int), ?_, .int _ _⟩
        unfold Builtin.len_
        simp [ht, ha, underlying_run hu, goInt]
    cases hc : (Nat.ble 1 z && Nat.beq (l.length / z * z) l.length) <;> rw [hc] at hx
    · simp at hx
    · simp only [cond_true, Option.some.injEq] at hx; subst hx
      simp only [Bool.and_eq_true] at hc
      have c1 := ble_tt hc.1
      have h1 : f = true := hob _ (by simp [silent])
      refine ⟨rfl, rfl, fun {μ w r args} hv ha => ?_⟩
      obtain ⟨_, hl⟩ := hv.lst_inv h1
      have hr : ∃ a c, r = .slice a (l.length / z) c := by
        rcases hl with ⟨rfl, rfl⟩ | ⟨h0, _⟩ | ⟨_, b, off, len, cap, cs, rfl, _, hlen, _⟩
        · exact ⟨none, 0, by simp⟩
        · omega
        · refine ⟨some ⟨b, off, none⟩, cap, ?_⟩
          rw [← hlen, Nat.mul_div_cancel _ (by omega)]
      obtain ⟨a, c, rfl⟩ := hr
      refine ⟨.int .i64 ((l.length / z : Nat) : Int), ?_, .int _ _⟩
      unfold Builtin.len_
      simp [ht, ha, underlying_run hu, goInt]
  · simp at hx

theorem xempty_ok {P : Program} {n : Nat} {hs : List Hint} {t : TypeId} {out : Out} {o : Oper} {ρ : Operand → Value} {h : HF} (hx : xempty P n hs t = some out) {parts : Array (Nat × Operand)} (ho : o.op = .buildSlice t 0 parts) (hp : parts.toList = []) : OpSpec P o ρ h out := by
  unfold xempty at hx
  split at hx
  · rename_i e hu
    split at hx
    · rename_i sz hsz
      simp only [Option.some.injEq] at hx; subst hx
      refine .newBlk fun μ a w hg hxs => ⟨[], .slice (some ⟨w.heap.size, 0, none⟩) 0 0, .nil, ?_, fun μ' hm hs => .slice hm 0 _ _ _ (Nat.le_refl _) (.inr (by simp))⟩
      have hp' : parts = #[] := by apply Array.ext'; simpa using hp
      subst hp'
      unfold execOp
      simp only [ho, Instr.buildSlice, Sem.run_bind, underlying_run hu, Result.andThen_ok, sizeOf_run hsz]
      have e0 : (Array.range 0).map (fun _ : Nat => (default : Value)) = #[] := by apply Array.ext'; simp
      simp [Instr.fill, newRow, newObj, Sem.run, e0]
    · simp at hx
  · simp at hx

theorem xnone_ok {P : Program} {n : Nat} {hs : List Hint} {t : TypeId} {out : Out} {o : Oper} {ρ : Operand → Value} {h : HF} (hx : xnone P n hs t = some out) {parts : Array (Nat × Operand)} (ho : o.op = .buildSlice t 0 parts) (hp : parts.toList = []) : OpSpec P o ρ h out := by
  unfold xnone at hx
  split at hx
  · rename_i e hu
    split at hx
    · rename_i sz hsz
      simp only [Option.some.injEq] at hx; subst hx
      intro μ a w hg hxs hr hn K Q hk
      obtain ⟨hle, hrep, hkeep⟩ := hr.born (cs := #[]) (t := e)
      have he : (execOp a.eval o).run P w = .ok (.value (.slice (some ⟨w.heap.size, 0, none⟩) 0 0)) (w.alloc (.cells #[] e)) := by
        have hp' : parts = #[] := by apply Array.ext'; simpa using hp
        subst hp'
        unfold execOp
        simp only [ho, Instr.buildSlice, Sem.run_bind, underlying_run hu, Result.andThen_ok, sizeOf_run hsz]
        have e0 : (Array.range 0).map (fun _ : Nat => (default : Value)) = #[] := by apply Array.ext'; simp
        simp [Instr.fill, newRow, newObj, Sem.run, e0]
      refine wp_of_value he (hk _ _ _ hle (fun _ _ => rfl) hrep ?_ hkeep)
      exact .lst _ _ _ rfl ⟨_, _, _, rfl⟩ fun _ => .inr (.inl ⟨rfl, rfl, _, rfl⟩)
    · simp at hx
  · simp at hx

theorem xeqNil_ok {P : Program} {ρ : Operand → Value} {n : Nat} {hs : List Hint} {t : TypeId} {x y : Operand} {out : Out} {o : Oper} {h : HF} {g : TypeId} (hx : xeqNil P ρ n hs t x y = some out) (hob : ∀ q ∈ out.ob, q) (ho : o.op = .binOp .eql t x y g) : OpSpec P o ρ h out := by
  unfold xeqNil at hx
  split at hx
  · rename_i z v l f hρx hρy
    cases he : eqv P 10000 t (.slice (some ⟨0, 0, none⟩) 0 0) (.slice none 0 0) with
    | none => rw [he] at hx; simp at hx
    | some c =>
      rw [he] at hx
      simp only [Option.map_some, Option.some.injEq] at hx; subst hx
      refine .quiet rfl rfl fun μ a w hg hxs hr => ⟨.bool c, ?_, .bool c⟩
      have hvx := hxs x (by rw [ho]; simp [Op.operands])
      have hvy := hxs y (by rw [ho]; simp [Op.operands])
      rw [hρx] at hvx
      rw [hρy] at hvy
      have hf : f = true := hob _ (by simp [VX.silent])
      unfold execOp
      simp only [ho, Sem.run_bind]
      generalize a.eval x = X at hvx ⊢
      generalize a.eval y = Y at hvy ⊢
      obtain ⟨_, hl⟩ := hvx.lst_inv hf
      cases hvy
      rcases hl with ⟨h0, _⟩ | ⟨_, h0, _⟩ | ⟨_, b, off, len, cap, cs, rfl, _⟩
      · cases h0
      · cases h0
      · have he' : eqv P 10000 t (.slice (some ⟨b, off, none⟩) len cap) (.slice none 0 0) = some c := by rw [← he]; exact eqv_slice rfl rfl
        simp [eqGuard, binOp, equal_run he']
  · simp at hx

-- ---------------------------------------------------------------- cuts

theorem bound_spec {ρ : Operand → Value} {μ : Mu} {a : Act} {x : Option Operand} {k : Nat} {ob : List Prop} (h : boundP ρ x k = some ob) (hob : ∀ q ∈ ob, q) (hx : ∀ y, x = some y → VRel μ (ρ y) (a.eval y)) :
    x = none ∨ ∃ kd, x.map a.eval = some (.int kd (k : Int)) := by
  unfold boundP at h
  split at h
  · exact .inl rfl
  · rename_i y
    split at h
    · rename_i kd i hi
      simp only [Option.some.injEq] at h; subst h
      have h1 : i = (k : Int) := hob _ (by simp)
      have := hx y rfl
      rw [hi, h1] at this
      refine .inr ⟨kd, ?_⟩
      simp only [Option.map_some]
      revert this
      generalize a.eval y = Y
      intro this
      cases this; rfl
    · simp at h

theorem sliceBounds_run {P : Program} {isSlice : Bool} {len cap lo hi : Nat} {L Hh : Option Value} (hL : (L = none ∧ lo = 0) ∨ ∃ k, L = some (.int k (lo : Int))) (hH : (Hh = none ∧ hi = len) ∨ ∃ k, Hh = some (.int k (hi : Int))) (h1 : lo ≤ hi) (h2 : hi ≤ cap) (w : World) :
    (Instr.sliceBounds isSlice len cap L Hh none).run P w = .ok (lo, hi, cap) w := by
  unfold Instr.sliceBounds
  rcases hH with ⟨rfl, rfl⟩ | ⟨k, rfl⟩ <;> rcases hL with ⟨rfl, rfl⟩ | ⟨k', rfl⟩ <;>
    simp [Instr.sliceBound, asIntOf, h1, h2]

theorem at_add (b off n : Nat) : (Addr.add ⟨b, off, none⟩ n) = ⟨b, off + n, none⟩ := add_off b off n

theorem xslice_ok {P : Program} {ρ : Operand → Value} {n : Nat} {t : TypeId} {x : Operand} {low high max : Option Operand} {hs : List Hint} {out : Out} {o : Oper} {h : HF} (hx : xslice P ρ n t x low high max hs = some out) (hob : ∀ q ∈ out.ob, q)
    (ho : o.op = .slice t x low high max) : OpSpec P o ρ h out := by
  unfold xslice at hx
  have opx : ∀ (μ : Mu) (a : Act), (∀ y ∈ o.op.operands, VRel μ (ρ y) (a.eval y)) → VRel μ (ρ x) (a.eval x) ∧ (∀ y, low = some y → VRel μ (ρ y) (a.eval y)) ∧ (∀ y, high = some y → VRel μ (ρ y) (a.eval y)) ∧ (∀ y, max = some y → VRel μ (ρ y) (a.eval y)) := by
    intro μ a hxs
    rw [ho] at hxs
    refine ⟨hxs x (by simp [Op.operands]), fun y hy => hxs y (by simp [Op.operands, hy]), fun y hy => hxs y (by simp [Op.operands, hy]), fun y hy => hxs y (by simp [Op.operands, hy])⟩
  have exop : ∀ (a : Act) (w : World) (rv : Value), (Instr.sliceAt t (a.eval x) (low.map a.eval) (high.map a.eval) (max.map a.eval)).run P w = .ok rv w → (execOp a.eval o).run P w = .ok (.value rv) w := by
    intro a w rv hrun
    unfold execOp
    simp only [ho, Sem.run_bind, hrun, Result.andThen_ok, Sem.run_pure]
  split at hx
  -- a frozen slice
  · rename_i e z l f lo hi hs' hu hρ
    split at hx
    · rename_i sz o1 o2 hsz hb1 hb2
      cases hc : (Nat.beq z sz && Nat.ble 1 sz && Nat.ble lo hi && Nat.ble (hi * z) l.length && (low.isSome || Nat.beq lo 0) && (high.isSome || Nat.beq (hi * z) l.length)) <;> rw [hc] at hx
      · simp at hx
      · simp only [cond_true, Option.some.injEq] at hx; subst hx
        simp only [Bool.and_eq_true, Bool.or_eq_true] at hc
        obtain ⟨⟨⟨⟨⟨c1, c2⟩, c3⟩, c4⟩, c5⟩, c6⟩ := hc
        obtain rfl := beq_tt c1
        have c2 := ble_tt c2; have c3 := ble_tt c3; have c4 := ble_tt c4
        have h1 : f = true := hob _ (by simp [silent])
        refine .quiet rfl rfl fun μ a w hg hxs hr => ?_
        obtain ⟨hv, hlo, hhi, _⟩ := opx μ a hxs
        have B1 := bound_spec (a := a) hb1 (fun q hq => hob q (by simp [silent, hq])) hlo
        have B2 := bound_spec (a := a) hb2 (fun q hq => hob q (by simp [silent, hq])) hhi
        rw [hρ] at hv
        obtain ⟨hsol, hl⟩ := hv.lst_inv h1
        have hL : (low.map a.eval = none ∧ lo = 0) ∨ ∃ k, low.map a.eval = some (.int k (lo : Int)) := by
          rcases B1 with rfl | hk
          · exact .inl ⟨rfl, by simpa using beq_tt (c5.resolve_left (by simp))⟩
          · exact .inr hk
        have hnew : ((l.drop (lo * z)).take ((hi - lo) * z)).all solid = true := all_take _ (all_drop _ hsol)
        have key : ∀ ad len cap, a.eval x = .slice ad len cap → hi ≤ cap → len * z = l.length → (Instr.sliceAt t (a.eval x) (low.map a.eval) (high.map a.eval) none).run P w = .ok (.slice (if cap = lo then ad else ad.map (·.add (lo * z))) (hi - lo) (cap - lo)) w := by
          intro ad len cap he hcap hlen
          have hH : (high.map a.eval = none ∧ hi = len) ∨ ∃ k, high.map a.eval = some (.int k (hi : Int)) := by
            rcases B2 with rfl | hk
            · refine .inl ⟨rfl, ?_⟩
              have := beq_tt (c6.resolve_left (by simp))
              rw [← hlen] at this
              exact Nat.eq_of_mul_eq_mul_right (by omega) this
            · exact .inr hk
          unfold Instr.sliceAt
          rw [he]
          simp only [Sem.run_bind, underlying_run hu, Result.andThen_ok, Instr.slice, sliceBounds_run hL hH c3 hcap, sizeOf_run hsz, Sem.run_pure]
        rcases hl with ⟨rfl, hr0⟩ | ⟨h0, _⟩ | ⟨hz, b, off, len, cap, cs, hr0, hcap, hlen, hf, hg⟩
        · have hhi0 : hi = 0 := by
            rcases Nat.eq_zero_or_pos hi with h | h
            · exact h
            · have := Nat.mul_pos h (show 0 < z by omega)
              simp at c4; omega
          have hlo0 : lo = 0 := by omega
          subst hhi0; subst hlo0
          refine ⟨_, exop a w _ (key none 0 0 hr0 (Nat.le_refl _) (by simp)), VRel.lst_true hnew (.inl ⟨by simp, by simp⟩)⟩
        · omega
        · have hhl : hi ≤ len := Nat.le_of_mul_le_mul_right (by rw [hlen]; exact c4) (by omega)
          refine ⟨_, exop a w _ (key _ _ _ hr0 (by omega) hlen), VRel.lst_true hnew ?_⟩
          have hlength : ((l.drop (lo * z)).take ((hi - lo) * z)).length = (hi - lo) * z := by
            simp
            have : (hi - lo) * z + lo * z ≤ l.length := by rw [← Nat.add_mul]; rw [show hi - lo + lo = hi by omega]; exact c4
            omega
          have hcells : ∀ (o' : Nat), (o' = off + lo * z ∨ hi - lo = 0) → ∀ j v, ((l.drop (lo * z)).take ((hi - lo) * z))[j]? = some v → cs[o' + j]? = some v := by
            intro o' ho' j v hj
            have hjl := (List.getElem?_eq_some_iff.1 hj).1
            rw [hlength] at hjl
            rcases ho' with rfl | h0
            · rw [List.getElem?_take, if_pos hjl] at hj
              rw [Nat.add_assoc]; exact hg _ _ (by simpa using hj)
            · rw [h0] at hjl; simp at hjl
          by_cases hm : cap = lo
          · rw [if_pos hm]
            exact .inr (.inr ⟨hz, b, off, hi - lo, cap - lo, cs, rfl, by omega, by rw [hlength], hf, hcells off (.inr (by omega))⟩)
          · rw [if_neg hm]
            refine .inr (.inr ⟨hz, b, off + lo * z, hi - lo, cap - lo, cs, ?_, by omega, by rw [hlength], hf, hcells _ (.inl rfl)⟩)
            simp [at_add]
    · simp at hx
  · rename_i e z l f lo hs' hu hρ
    split at hx
    · rename_i sz o1 hsz hb1
      cases hc : (Nat.beq z sz && Nat.ble 1 sz && (low.isSome || Nat.beq lo 0)) <;> rw [hc] at hx
      · simp at hx
      · simp only [cond_true, Option.some.injEq] at hx; subst hx
        simp only [Bool.and_eq_true, Bool.or_eq_true] at hc
        obtain ⟨⟨c1, c2⟩, c5⟩ := hc
        obtain rfl := beq_tt c1
        have c2 := ble_tt c2
        have h1 : f = true := hob _ (by simp [silent])
        have c4 : lo * z ≤ l.length := hob _ (by simp [silent])
        refine .quiet rfl rfl fun μ a w hg hxs hr => ?_
        obtain ⟨hv, hlo, _, _⟩ := opx μ a hxs
        have B1 := bound_spec (a := a) hb1 (fun q hq => hob q (by simp [silent, hq])) hlo
        rw [hρ] at hv
        obtain ⟨hsol, hl⟩ := hv.lst_inv h1
        have hL : (low.map a.eval = none ∧ lo = 0) ∨ ∃ k, low.map a.eval = some (.int k (lo : Int)) := by
          rcases B1 with rfl | hk
          · exact .inl ⟨rfl, by simpa using beq_tt (c5.resolve_left (by simp))⟩
          · exact .inr hk
        have hnew : (l.drop (lo * z)).all solid = true := all_drop _ hsol
        have key : ∀ ad len cap, a.eval x = .slice ad len cap → len ≤ cap → lo ≤ len → (Instr.sliceAt t (a.eval x) (low.map a.eval) (Option.map a.eval none) none).run P w = .ok (.slice (if cap = lo then ad else ad.map (·.add (lo * z))) (len - lo) (cap - lo)) w := by
          intro ad len cap he hcap hlen
          unfold Instr.sliceAt
          rw [he]
          simp only [Sem.run_bind, underlying_run hu, Result.andThen_ok, Instr.slice, sliceBounds_run hL (.inl ⟨rfl, rfl⟩) hlen hcap, sizeOf_run hsz, Sem.run_pure, Option.map_none]
        rcases hl with ⟨rfl, hr0⟩ | ⟨h0, _⟩ | ⟨hz, b, off, len, cap, cs, hr0, hcap, hlen, hf, hg⟩
        · have hlo0 : lo = 0 := by
            rcases Nat.eq_zero_or_pos lo with h | h
            · exact h
            · have := Nat.mul_pos h (show 0 < z by omega)
              simp at c4; omega
          subst hlo0
          refine ⟨_, exop a w _ (key none 0 0 hr0 (Nat.le_refl _) (by simp)), VRel.lst_true hnew (.inl ⟨by simp, by simp⟩)⟩
        · omega
        · have hhl : lo ≤ len := Nat.le_of_mul_le_mul_right (by rw [hlen]; exact c4) (by omega)
          refine ⟨_, exop a w _ (key _ _ _ hr0 hcap hhl), VRel.lst_true hnew ?_⟩
          have hlength : (l.drop (lo * z)).length = (len - lo) * z := by
            simp [Nat.sub_mul, hlen]
          have hcells : ∀ (o' : Nat), (o' = off + lo * z ∨ len - lo = 0) → ∀ j v, (l.drop (lo * z))[j]? = some v → cs[o' + j]? = some v := by
            intro o' ho' j v hj
            have hjl := (List.getElem?_eq_some_iff.1 hj).1
            rw [hlength] at hjl
            rcases ho' with rfl | h0
            · rw [Nat.add_assoc]; exact hg _ _ (by simpa using hj)
            · rw [h0] at hjl; simp at hjl
          by_cases hm : cap = lo
          · rw [if_pos hm]
            exact .inr (.inr ⟨hz, b, off, len - lo, cap - lo, cs, rfl, by omega, by rw [hlength], hf, hcells off (.inr (by omega))⟩)
          · rw [if_neg hm]
            refine .inr (.inr ⟨hz, b, off + lo * z, len - lo, cap - lo, cs, ?_, by omega, by rw [hlength], hf, hcells _ (.inl rfl)⟩)
            simp [at_add]
    · simp at hx
  · rename_i e z l f mx lo hi hs' hu hρ
    split at hx
    · rename_i sz o1 o2 o3 hsz hb1 hb2 hb3
      cases hc : (Nat.beq lo 0 && Nat.beq hi 0 && high.isSome) <;> rw [hc] at hx
      · simp at hx
      · simp only [cond_true, Option.some.injEq] at hx; subst hx
        simp only [Bool.and_eq_true] at hc
        obtain ⟨⟨c1, c2⟩, c3⟩ := hc
        obtain rfl := beq_tt c1
        obtain rfl := beq_tt c2
        have h1 : f = true := hob _ (by simp [silent])
        refine .quiet rfl rfl fun μ a w hg hxs hr => ?_
        obtain ⟨hv, hlo, hhi, hmx⟩ := opx μ a hxs
        have B1 := bound_spec (a := a) hb1 (fun q hq => hob q (by simp [silent, hq])) hlo
        have B2 := bound_spec (a := a) hb2 (fun q hq => hob q (by simp [silent, hq])) hhi
        have B3 := bound_spec (a := a) hb3 (fun q hq => hob q (by simp [silent, hq])) (fun y hy => hmx y (by rw [← hy]))
        rw [hρ] at hv
        obtain ⟨hsol, hl⟩ := hv.lst_inv h1
        obtain ⟨kh, hkh⟩ := B2.resolve_left (by intro hh; rw [hh] at c3; cases c3)
        obtain ⟨km, hkm⟩ := B3.resolve_left (by simp)
        have key : ∀ ad len cap, a.eval x = .slice ad len cap → ∃ ad', (Instr.sliceAt t (a.eval x) (low.map a.eval) (high.map a.eval) ((some mx).map a.eval)).run P w = .ok (.slice ad' 0 0) w := by
          intro ad len cap he
          refine ⟨ad, ?_⟩
          unfold Instr.sliceAt
          rw [he, hkh, hkm]
          rcases B1 with rfl | ⟨k, hk⟩
          · simp [underlying_run hu, Instr.slice, Instr.sliceBounds, Instr.sliceBound, asIntOf, sizeOf_run hsz]
          · rw [hk]
            simp [underlying_run hu, Instr.slice, Instr.sliceBounds, Instr.sliceBound, asIntOf, sizeOf_run hsz]
        have hex : ∃ ad len cap, a.eval x = .slice ad len cap := by
          rcases hl with ⟨rfl, hr0⟩ | ⟨h0, _, ad, hr0⟩ | ⟨hz, b, off, len, cap, cs, hr0, _⟩
          · exact ⟨_, _, _, hr0⟩
          · exact ⟨_, _, _, hr0⟩
          · exact ⟨_, _, _, hr0⟩
        obtain ⟨ad, len, cap, he⟩ := hex
        obtain ⟨ad', hk⟩ := key ad len cap he
        exact ⟨_, exop a w _ hk, VRel.lst_true rfl (.inr (.inl ⟨rfl, rfl, ad', rfl⟩))⟩
    · simp at hx
  -- a slice of a block that is named
  · rename_i e i off sp len z lo hi hs' hu hρ
    split at hx
    · rename_i sz o1 o2 hsz hb1 hb2
      cases hc : (((Nat.beq z sz && sp.isNone) || Nat.beq z 0) && (low.isSome || Nat.beq lo 0)) <;> rw [hc] at hx
      · simp at hx
      · simp only [cond_true, Option.some.injEq] at hx; subst hx
        simp only [Bool.and_eq_true, Bool.or_eq_true] at hc
        obtain ⟨c1, c5⟩ := hc
        have hb : hi ≤ len ∧ lo ≤ hi ∧ (lo = 0 ∨ lo < hi) ∧ (high.isSome = true ∨ hi = len) := hob _ (by simp [silent])
        obtain ⟨b1, b2, b3, b4⟩ := hb
        refine .quiet rfl rfl fun μ a w hg hxs hr => ?_
        obtain ⟨hv, hlo, hhi, _⟩ := opx μ a hxs
        have B1 := bound_spec (a := a) hb1 (fun q hq => hob q (by simp [silent, hq])) hlo
        have B2 := bound_spec (a := a) hb2 (fun q hq => hob q (by simp [silent, hq])) hhi
        rw [hρ] at hv
        have hL : (low.map a.eval = none ∧ lo = 0) ∨ ∃ k, low.map a.eval = some (.int k (lo : Int)) := by
          rcases B1 with rfl | hk
          · exact .inl ⟨rfl, by simpa using beq_tt (c5.resolve_left (by simp))⟩
          · exact .inr hk
        have hH : (high.map a.eval = none ∧ hi = len) ∨ ∃ k, high.map a.eval = some (.int k (hi : Int)) := by
          rcases B2 with rfl | hk
          · exact .inl ⟨rfl, by simpa using b4⟩
          · exact .inr hk
        have key : ∀ b o' cap, a.eval x = .slice (some ⟨b, o', none⟩) len cap → len ≤ cap → (Instr.sliceAt t (a.eval x) (low.map a.eval) (high.map a.eval) none).run P w = .ok (.slice (some ⟨b, o' + lo * sz, none⟩) (hi - lo) (cap - lo)) w := by
          intro b o' cap he hcap
          unfold Instr.sliceAt
          rw [he]
          simp only [Sem.run_bind, underlying_run hu, Result.andThen_ok, Instr.slice, sliceBounds_run hL hH b2 (Nat.le_trans b1 hcap), sizeOf_run hsz, Sem.run_pure]
          by_cases hm : cap = lo
          · rw [if_pos hm]
            have hlo0 : lo = 0 := by omega
            subst hlo0
            simp
          · rw [if_neg hm]
            simp [at_add]
        refine (show ∃ rv, _ from ?_)
        generalize hX : a.eval x = X at hv
        cases hv with
        | slice hb _ _ _ cap' hcc hz =>
          refine ⟨_, exop a w _ (key _ _ _ hX hcc), .slice hb _ _ _ _ (by omega) ?_⟩
          rcases hz with hz | hz
          · exact .inl hz
          · rcases c1 with ⟨c1, _⟩ | c1
            · refine .inr ?_
              obtain rfl := beq_tt c1
              have : (cap' - lo) * z + lo * z = cap' * z := by rw [← Nat.add_mul]; rw [show cap' - lo + lo = cap' by omega]
              omega
            · exact .inl (beq_tt c1)
        | sliceS hb st _ _ _ cap' hcc hz =>
          refine ⟨_, exop a w _ (key _ _ _ hX hcc), ?_⟩
          rw [Nat.add_assoc]
          refine .sliceS hb _ _ _ _ _ (by omega) (.inl ?_)
          rcases c1 with ⟨_, c1⟩ | c1
          · cases c1
          · exact beq_tt c1
        | sliceE i s off c ad c' hz =>
          obtain rfl : hi = 0 := by omega
          obtain rfl : lo = 0 := by omega
          have key0 : ∃ ad' c'', (Instr.sliceAt t (a.eval x) (low.map a.eval) (high.map a.eval) none).run P w = .ok (.slice ad' 0 c'') w := by
            unfold Instr.sliceAt
            rw [hX]
            simp only [Sem.run_bind, underlying_run hu, Result.andThen_ok, Instr.slice, sliceBounds_run hL hH (Nat.le_refl 0) (Nat.zero_le c'), sizeOf_run hsz, Sem.run_pure]
            exact ⟨_, _, rfl⟩
          obtain ⟨ad', c'', key0⟩ := key0
          refine ⟨_, exop a w _ key0, .sliceE _ _ _ _ _ _ (.inl ?_)⟩
          rcases c1 with ⟨_, c1⟩ | c1
          · cases c1
          · exact beq_tt c1
    · simp at hx
  -- an array behind an address
  · rename_i m e i off sp lo hi hs' hu hρ
    split at hx
    · rename_i sz o1 o2 hsz hb1 hb2
      cases hc : (Nat.ble lo hi && Nat.ble hi m && (low.isSome || Nat.beq lo 0) && (high.isSome || Nat.beq hi m) && (Nat.beq lo 0 || Nat.blt lo m)) <;> rw [hc] at hx
      · simp at hx
      · simp only [cond_true, Option.some.injEq] at hx; subst hx
        simp only [Bool.and_eq_true, Bool.or_eq_true] at hc
        obtain ⟨⟨⟨⟨c1, c2⟩, c3⟩, c4⟩, c5⟩ := hc
        have c1 := ble_tt c1; have c2 := ble_tt c2
        refine .quiet rfl rfl fun μ a w hg hxs hr => ?_
        obtain ⟨hv, hlo, hhi, _⟩ := opx μ a hxs
        have B1 := bound_spec (a := a) hb1 (fun q hq => hob q (by simp [silent, hq])) hlo
        have B2 := bound_spec (a := a) hb2 (fun q hq => hob q (by simp [silent, hq])) hhi
        rw [hρ] at hv
        have hL : (low.map a.eval = none ∧ lo = 0) ∨ ∃ k, low.map a.eval = some (.int k (lo : Int)) := by
          rcases B1 with rfl | hk
          · exact .inl ⟨rfl, by simpa using beq_tt (c3.resolve_left (by simp))⟩
          · exact .inr hk
        have hH : (high.map a.eval = none ∧ hi = m) ∨ ∃ k, high.map a.eval = some (.int k (hi : Int)) := by
          rcases B2 with rfl | hk
          · exact .inl ⟨rfl, beq_tt (c4.resolve_left (by simp))⟩
          · exact .inr hk
        have key : ∀ b o', a.eval x = .pointer (some ⟨b, o', none⟩) → (Instr.sliceAt t (a.eval x) (low.map a.eval) (high.map a.eval) none).run P w = .ok (.slice (some ⟨b, o' + lo * sz, none⟩) (hi - lo) (m - lo)) w := by
          intro b o' he
          unfold Instr.sliceAt
          rw [he]
          simp only [Sem.run_bind, underlying_run hu, Result.andThen_ok, Instr.sureAddr, Sem.run_pure, sliceBounds_run hL hH c1 c2, sizeOf_run hsz]
          by_cases hm : m = lo
          · rw [if_pos hm]
            have hlo0 : lo = 0 := by
              rcases c5 with c5 | c5
              · exact beq_tt c5
              · have := blt_tt c5; omega
            subst hlo0
            simp
          · rw [if_neg hm]
            simp [at_add]
        refine (show ∃ rv, _ from ?_)
        generalize hX : a.eval x = X at hv
        cases hv with
        | ptr hb _ => exact ⟨_, exop a w _ (key _ _ hX), .slice hb _ _ _ _ (by omega) (.inl rfl)⟩
        | ptrS hb st _ =>
          refine ⟨_, exop a w _ (key _ _ hX), ?_⟩
          rw [Nat.add_assoc]
          exact .sliceS hb _ _ _ _ _ (by omega) (.inl rfl)
    · simp at hx
  -- a string, at numbers
  · rename_i s lo hi hs' hu hρ
    split at hx
    · rename_i o1 o2 hb1 hb2
      cases hc : (Nat.ble lo hi && Nat.ble hi s.size && (low.isSome || Nat.beq lo 0) && (high.isSome || Nat.beq hi s.size)) <;> rw [hc] at hx
      · simp at hx
      · simp only [cond_true, Option.some.injEq] at hx; subst hx
        simp only [Bool.and_eq_true, Bool.or_eq_true] at hc
        obtain ⟨⟨⟨c1, c2⟩, c3⟩, c4⟩ := hc
        have c1 := ble_tt c1; have c2 := ble_tt c2
        refine .quiet rfl rfl fun μ a w hg hxs hr => ?_
        obtain ⟨hv, hlo, hhi, _⟩ := opx μ a hxs
        have B1 := bound_spec (a := a) hb1 (fun q hq => hob q (by simp [silent, hq])) hlo
        have B2 := bound_spec (a := a) hb2 (fun q hq => hob q (by simp [silent, hq])) hhi
        rw [hρ] at hv
        have hL : (low.map a.eval = none ∧ lo = 0) ∨ ∃ k, low.map a.eval = some (.int k (lo : Int)) := by
          rcases B1 with rfl | hk
          · exact .inl ⟨rfl, by simpa using beq_tt (c3.resolve_left (by simp))⟩
          · exact .inr hk
        have hH : (high.map a.eval = none ∧ hi = s.size) ∨ ∃ k, high.map a.eval = some (.int k (hi : Int)) := by
          rcases B2 with rfl | hk
          · exact .inl ⟨rfl, beq_tt (c4.resolve_left (by simp))⟩
          · exact .inr hk
        refine ⟨_, exop a w (.string (s.extract lo hi)) ?_, .string _⟩
        have he : a.eval x = .string s := by
          revert hv; generalize a.eval x = X; intro hv; cases hv; rfl
        unfold Instr.sliceAt
        rw [he]
        simp only [Sem.run_bind, underlying_run hu, Result.andThen_ok, Instr.slice, Option.map_none, Option.isSome_none, Bool.false_eq_true, if_false, sliceBounds_run hL hH c1 c2, Sem.run_pure]
    · simp at hx
  -- a string
  · rename_i s hs' hu hρ
    split at hx
    · rename_i y
      split at hx
      · rename_i k i hi
        simp only [Option.some.injEq] at hx; subst hx
        have hb : 0 ≤ i ∧ i ≤ (s.size : Int) := hob _ (by simp [silent])
        refine .quiet rfl rfl fun μ a w hg hxs hr => ?_
        obtain ⟨hv, _, hhi, _⟩ := opx μ a hxs
        have h2 := hhi y rfl
        rw [hρ] at hv
        rw [hi] at h2
        refine ⟨_, exop a w (.string (s.extract 0 i.toNat)) ?_, .string _⟩
        simp only [Option.map_some, Option.map_none]
        revert hv h2
        generalize a.eval x = X
        generalize a.eval y = Y
        intro hv h2
        cases hv; cases h2
        simp [Instr.sliceAt, underlying_run hu, Instr.slice, Instr.sliceBounds, Instr.sliceBound, asIntOf, hb]
      · simp at hx
    · rename_i yl yh
      split at hx
      · rename_i k i k' j hl hi
        simp only [Option.some.injEq] at hx; subst hx
        have hb : 0 ≤ i ∧ i ≤ j ∧ j ≤ (s.size : Int) := hob _ (by simp [silent])
        refine .quiet rfl rfl fun μ a w hg hxs hr => ?_
        obtain ⟨hv, hlo, hhi, _⟩ := opx μ a hxs
        have h1 := hlo yl rfl
        have h2 := hhi yh rfl
        rw [hρ] at hv
        rw [hl] at h1
        rw [hi] at h2
        refine ⟨_, exop a w (.string (s.extract i.toNat j.toNat)) ?_, .string _⟩
        simp only [Option.map_some, Option.map_none]
        revert hv h1 h2
        generalize a.eval x = X
        generalize a.eval yl = Yl
        generalize a.eval yh = Y
        intro hv h1 h2
        cases hv; cases h1; cases h2
        have e1 : (i.toNat : Int) = i := Int.toNat_of_nonneg hb.1
        have e2 : (j.toNat : Int) = j := Int.toNat_of_nonneg (by omega)
        have e3 : i.toNat ≤ j.toNat := by omega
        have e4 : j.toNat ≤ s.size := by omega
        have := sliceBounds_run (P := P) (isSlice := false) (len := s.size) (cap := s.size) (lo := i.toNat) (hi := j.toNat) (L := some (.int k i)) (Hh := some (.int k' j)) (.inr ⟨k, by rw [e1]⟩) (.inr ⟨k', by rw [e2]⟩) e3 e4 w
        simp only [Instr.sliceAt, Sem.run_bind, underlying_run hu, Result.andThen_ok, Instr.slice, Option.isSome_none, Bool.false_eq_true, if_false, this, Sem.run_pure]
      · simp at hx
    · simp at hx
  · simp at hx

-- ---------------------------------------------------------------- appends

theorem oneCell_of {v : Value} (h : storable v = true) : v.oneCell' = true := by
  cases v with
  | chan r => cases r <;> first | rfl | (simp [storable] at h)
  | _ => first | rfl | (simp [storable] at h)

theorem VRels.storables {μ : Mu} : ∀ {l m : List Value}, VRels μ l m → l.all storable = true → m.all storable = true
  | [], [], _, _ => rfl
  | x :: l, y :: m, h, ha => by
    simp only [List.all_cons, Bool.and_eq_true] at ha ⊢
    cases h with
    | cons a b =>
      refine ⟨?_, VRels.storables b ha.2⟩
      cases a <;> first | rfl | (simp [storable] at ha; done) | (rename_i hr _; obtain ⟨_, _, _, rfl⟩ := hr; rfl)
  | [], _ :: _, h, _ => nomatch h
  | _ :: _, [], h, _ => nomatch h

/-- What is laid behind, in the world. -/
theorem ycells_ok {P : Program} {H h : HF} {sz m : Nat} {v : Value} {cs : List Value} {rd : List Nat} {ob : List Prop} {ty e' : TypeId} (hy : ycells H sz v = some (cs, m, rd, ob)) (hob : ∀ q ∈ ob, q) (hrd : ∀ i ∈ rd, h i = H i) (hk : P.underlying ty = some (.slice e'))
    (hl : cs.length = m * sz) (hm : 1 ≤ m) (h1 : 1 ≤ sz) (hst : cs.all storable = true) {μ : Mu} {w : World} (r : Rep μ h w) {x : Value} (hv : VRel μ v x) : ∃ rs, VRels μ cs rs ∧ Src P sz ty x m rs w := by
  unfold ycells at hy
  split at hy
  · rename_i i off m' c
    split at hy
    · rename_i B hB
      cases hg : gets B off (m' * sz) with
      | none => simp [hg] at hy
      | some l =>
        simp only [hg, Option.map_some, Option.some.injEq, Prod.mk.injEq] at hy
        obtain ⟨rfl, rfl, rfl, rfl⟩ := hy
        rw [← hrd i (by simp)] at hB
        obtain ⟨b, hb, cells, ty', fr, he, _, hcs⟩ := r.blk i B hB (.inr hv.slice_ne)
        cases hv with
        | slice hb' _ _ _ cap' hc hz =>
          rw [hb] at hb'
          obtain rfl : b = _ := by simpa using hb'
          obtain ⟨rs, g1, g2, g3⟩ := gets_spec hcs _ _ _ hg
          refine ⟨rs, g1, Src.ofSlice w hk _ _ _ _ (by rw [← g1.length]; exact hl) (fun j u hu => by rw [at_add]; exact cell_of he (g3 j u hu)) ?_⟩
          intro u hu
          have := g1.storables hst
          rw [List.all_eq_true] at this
          exact oneCell_of (this u hu)
    · simp at hy
  · rename_i z l f
    cases hc : (Nat.beq z sz && Nat.beq (l.length / z * z) l.length) <;> rw [hc] at hy
    · simp at hy
    · simp only [cond_true, Option.some.injEq, Prod.mk.injEq] at hy
      obtain ⟨rfl, rfl, rfl, rfl⟩ := hy
      simp only [Bool.and_eq_true] at hc
      obtain rfl := beq_tt hc.1
      obtain ⟨hsol, hls⟩ := hv.lst_inv (hob _ (by simp))
      rcases hls with ⟨rfl, _⟩ | ⟨h0, _⟩ | ⟨_, b, off, len, cap, cells, rfl, hcap, hlen, hf, hg⟩
      · simp at hm
      · omega
      · obtain ⟨ty', fr, he⟩ := r.frz b cells hf
        have hlm : len = l.length / z := by rw [← hlen, Nat.mul_div_cancel _ (by omega)]
        subst hlm
        refine ⟨l, .of_solids hsol, Src.ofSlice w hk _ _ _ _ hl (fun j u hu => by rw [at_add]; exact cell_of he (hg j u hu)) ?_⟩
        intro u hu
        rw [List.all_eq_true] at hst
        exact oneCell_of (hst u hu)
  · simp at hy

theorem segsSize_append : ∀ (a b : List Seg), segsSize (a ++ b) = segsSize a + segsSize b
  | [], b => by simp [segsSize]
  | x :: a, b => by simp only [List.cons_append, segsSize, segsSize_append a b]; omega

theorem segsGet_left : ∀ (a b : List Seg) (o : Nat), o < segsSize a → segsGet? (a ++ b) o = segsGet? a o
  | [], b, o, h => by simp [segsSize] at h
  | x :: a, b, o, h => by
    simp only [List.cons_append, segsGet?]
    cases e : Nat.blt o x.size
    · have h2 := blt_ff e
      simp only [segsSize] at h
      simp only [cond_false]
      exact segsGet_left a b _ (by omega)
    · rfl

theorem segsGet_right : ∀ (a b : List Seg) (o : Nat), segsSize a ≤ o → segsGet? (a ++ b) o = segsGet? b (o - segsSize a)
  | [], b, o, h => by simp [segsSize]
  | x :: a, b, o, h => by
    simp only [segsSize] at h
    simp only [List.cons_append, segsGet?]
    have e : Nat.blt o x.size = false := by
      cases e : Nat.blt o x.size with
      | false => rfl
      | true => have := blt_tt e; omega
    rw [e]
    simp only [cond_false]
    rw [segsGet_right a b _ (by omega)]
    congr 1
    simp only [segsSize]
    omega

theorem ones_get (cs : List Value) (t : TypeId) (o : Nat) : segsGet? (cs.map .one) o = cs[o]? := cellsBlk_get cs t o
theorem ones_size (cs : List Value) : segsSize (cs.map .one) = cs.length := cellsBlk_size cs 0

/-- Cells that were there, then those that are laid behind. -/
theorem addSegs_spec (l : List Seg) (cs : List Value) : segsSize (addSegs l cs) = segsSize l + cs.length ∧ ∀ o v, segsGet? (addSegs l cs) o = some v → (o < segsSize l ∧ segsGet? l o = some v) ∨ (segsSize l ≤ o ∧ cs[o - segsSize l]? = some v) := by
  have gen : segsSize (l ++ cs.map .one) = segsSize l + cs.length ∧ ∀ o v, segsGet? (l ++ cs.map .one) o = some v → (o < segsSize l ∧ segsGet? l o = some v) ∨ (segsSize l ≤ o ∧ cs[o - segsSize l]? = some v) := by
    refine ⟨by rw [segsSize_append, ones_size], fun o v h => ?_⟩
    rcases Nat.lt_or_ge o (segsSize l) with hlt | hge
    · rw [segsGet_left _ _ _ hlt] at h
      exact .inl ⟨hlt, h⟩
    · rw [segsGet_right _ _ _ hge, ones_get cs 0] at h
      exact .inr ⟨hge, h⟩
  unfold addSegs
  split
  · rename_i k n a k' x
    cases e : k == k'
    · exact gen
    · have : k = k' := by simpa using e
      subst this
      refine ⟨by simp [segsSize, Seg.size], fun o v h => ?_⟩
      simp only [cond_true, segsGet?, Seg.size] at h
      cases e1 : Nat.blt o (n + 1) <;> rw [e1] at h
      · simp at h
      · have := blt_tt e1
        simp only [cond_true, Seg.get?, e1, Option.some.injEq, upd] at h
        simp only [segsSize, Seg.size, Nat.add_zero]
        by_cases ho : o = n
        · subst ho
          rw [beq_self] at h
          simp at h
          exact .inr ⟨Nat.le_refl _, by simp [h]⟩
        · rw [beq_ne ho] at h
          simp only [cond_false] at h
          refine .inl ⟨by omega, ?_⟩
          have e2 : Nat.blt o n = true := Nat.ble_eq_true_of_le (show o + 1 ≤ n by omega)
          simp only [segsGet?, Seg.size, e2, cond_true, Seg.get?]
          exact congrArg some h
  · rename_i n sz g
    cases e : Nat.beq cs.length sz
    · exact gen
    · have hsz := beq_tt e
      refine ⟨by simp [segsSize, Seg.size, Nat.add_mul, hsz], fun o v h => ?_⟩
      simp only [cond_true, segsGet?, Seg.size] at h
      cases e1 : Nat.blt o ((n + 1) * sz) <;> rw [e1] at h
      · simp at h
      · have h1 := blt_tt e1
        simp only [cond_true, Seg.get?, e1, upd] at h
        simp only [segsSize, Seg.size, Nat.add_zero]
        have hpos : 0 < sz := by
          rcases Nat.eq_zero_or_pos sz with h0 | h0
          · rw [h0] at h1; simp at h1
          · exact h0
        by_cases ho : o < n * sz
        · have hq : o / sz < n := (Nat.div_lt_iff_lt_mul hpos).2 ho
          rw [beq_ne (by omega : o / sz ≠ n)] at h
          refine .inl ⟨ho, ?_⟩
          have e2 : Nat.blt o (n * sz) = true := Nat.ble_eq_true_of_le ho
          simp only [segsGet?, Seg.size, e2, cond_true, Seg.get?]
          exact h
        · have hq : o / sz = n := by
            have a1 : o / sz < n + 1 := (Nat.div_lt_iff_lt_mul hpos).2 h1
            have a2 : n ≤ o / sz := (Nat.le_div_iff_mul_le hpos).2 (by omega)
            omega
          rw [hq, beq_self] at h
          simp only [cond_true] at h
          refine .inr ⟨by omega, ?_⟩
          have hm := Nat.div_add_mod o sz
          rw [hq, Nat.mul_comm] at hm
          rw [show o - n * sz = o % sz by omega]
          exact h
  · exact gen

theorem firstSegs_spec (sz : Nat) (cs : List Value) (hs : List Hint) (h1 : 1 ≤ sz) : segsSize (firstSegs sz cs hs).1 = cs.length ∧ ∀ o v, segsGet? (firstSegs sz cs hs).1 o = some v → cs[o]? = some v := by
  have gen : segsSize (cs.map .one) = cs.length ∧ ∀ o v, segsGet? (cs.map .one) o = some v → cs[o]? = some v := ⟨ones_size cs, fun o v h => by rw [ones_get cs 0] at h; exact h⟩
  unfold firstSegs
  split
  · cases e : Nat.beq cs.length sz
    · exact gen
    · have hsz := beq_tt e
      refine ⟨by simp [segsSize, Seg.size, hsz], fun o v h => ?_⟩
      simp only [cond_true, segsGet?, Seg.size] at h
      cases e1 : Nat.blt o (1 * sz) <;> rw [e1] at h
      · simp at h
      · have := blt_tt e1
        simp only [cond_true, Seg.get?, e1] at h
        rw [Nat.mod_eq_of_lt (by omega)] at h
        exact h
  · split
    · rename_i k x
      refine ⟨by simp [segsSize, Seg.size], fun o v h => ?_⟩
      simp only [segsGet?, Seg.size] at h
      cases e1 : Nat.blt o 1 <;> rw [e1] at h
      · simp at h
      · have := blt_tt e1
        simp only [cond_true, Seg.get?, e1, Option.some.injEq] at h
        have : o = 0 := by omega
        subst this
        simp [h]
    · exact gen
  · exact gen

theorem putCells_eq (b : Nat) : ∀ (vs : List Value) (o : Nat) (w : World), w.setCells b o vs = World.putCells w b o vs
  | [], _, _ => rfl
  | v :: r, o, w => by simp only [World.setCells, World.putCells]; exact putCells_eq b r (o + 1) _

/-- The block into which cells are put. -/
theorem putCells_heap (b : Nat) : ∀ (vs : List Value) (o : Nat) (w : World) (cs : Array Value) (t : TypeId), w.heap[b]? = some (.cells cs t (0, 0)) → o + vs.length ≤ cs.size →
    ∃ ds, (World.putCells w b o vs).heap[b]? = some (.cells ds t (0, 0)) ∧ ds.size = cs.size ∧ (∀ j, (j < o ∨ o + vs.length ≤ j) → ds[j]? = cs[j]?) ∧ (∀ j, j < vs.length → ds[o + j]? = vs[j]?) ∧
      (World.putCells w b o vs).heap.size = w.heap.size ∧ (World.putCells w b o vs).os = w.os ∧ (World.putCells w b o vs).tape = w.tape ∧ (World.putCells w b o vs).output = w.output ∧ ∀ k, k ≠ b → (World.putCells w b o vs).heap[k]? = w.heap[k]?
  | [], o, w, cs, t, he, _ => ⟨cs, he, rfl, fun _ _ => rfl, fun j hj => by simp at hj, rfl, rfl, rfl, rfl, fun _ _ => rfl⟩
  | v :: r, o, w, cs, t, he, hle => by
    simp only [List.length_cons] at hle
    have h1 : (w.setCell ⟨b, o, none⟩ v).heap[b]? = some (.cells (cs.setIfInBounds o v) t (0, 0)) := by
      have := heap_setCell_same w b o cs t v he
      simpa using this
    obtain ⟨ds, a1, a2, a3, a4, a5, a6, a7, a8, a9⟩ := putCells_heap b r (o + 1) _ _ t h1 (by simp; omega)
    simp only [World.putCells]
    refine ⟨ds, a1, by simpa using a2, ?_, ?_, by simpa using a5, a6, a7, a8, ?_⟩
    · intro j hj
      simp only [List.length_cons] at hj
      rw [a3 j (by omega), Array.getElem?_setIfInBounds_ne (by omega)]
    · intro j hj
      simp only [List.length_cons] at hj
      cases j with
      | zero => rw [a3 (o + 0) (by omega)]; simp [Array.getElem?_setIfInBounds, show o < cs.size by omega]
      | succ j => rw [show o + (j + 1) = o + 1 + j by omega, a4 j (by omega)]; simp
    · intro k hk
      rw [a9 k hk]
      exact heap_setCell_other w ⟨b, o, none⟩ k v hk

/-- Cells written where a block of its own has room, behind what is told of it. -/
theorem Rep.spare {μ : Mu} {h : HF} {w : World} (r : Rep μ h w) {i b o : Nat} {A : Blk} {vs : List Value} (hi : h i = some A) (hro : A.ro = false) (hb : μ i = some b) (ho : A.size ≤ o) {cs : Array Value} {t : TypeId} (he : w.heap[b]? = some (.cells cs t (0, 0))) (hle : o + vs.length ≤ cs.size) :
    Rep μ h (World.putCells w b o vs) ∧ Keeps μ h w μ h (World.putCells w b o vs) := by
  obtain ⟨ds, a1, a2, a3, a4, a5, a6, a7, a8, a9⟩ := putCells_heap b vs o w cs t he hle
  constructor
  · refine ⟨?_, r.apart, ?_, ?_, ?_, r.nofz⟩
    · intro j C hj hne
      obtain ⟨c, hc, cs', t', fr', e', h1, h2⟩ := r.blk j C hj hne
      refine ⟨c, hc, ?_⟩
      by_cases hcb : c = b
      · subst hcb
        have hji : j = i := by
          by_cases hji : j = i
          · exact hji
          · have := (r.apart j i C A c hj hi hc hb hji).2
            rw [hro] at this; cases this
        subst hji
        rw [hi] at hj
        obtain rfl : A = C := by simpa using hj
        rw [he] at e'
        cases e'
        refine ⟨ds, t, (0, 0), a1, fun hr => by obtain ⟨p, q, s⟩ := h1 hr; exact ⟨p, q, by rw [a2]; exact s⟩, fun off v hv => ?_⟩
        have hlt : off < A.size := segsGet_lt hv
        rw [a3 off (by omega)]
        exact h2 off v hv
      · exact ⟨cs', t', fr', by rw [a9 c hcb]; exact e', h1, h2⟩
    · intro j c hj
      rw [a5]; exact r.bound j c hj
    · intro j C c hj hCr hjc
      obtain ⟨cs', t', fr', e', hs⟩ := r.size j C c hj hCr hjc
      by_cases hcb : c = b
      · subst hcb
        rw [he] at e'; cases e'
        exact ⟨ds, t, (0, 0), a1, a2.trans hs⟩
      · exact ⟨cs', t', fr', by rw [a9 c hcb]; exact e', hs⟩
    · intro c cs' hf
      have hcb : c ≠ b := by
        rintro rfl
        rw [r.nofz i A c hi hro hb] at hf
        cases hf
      rw [a9 c hcb]
      exact r.frz c cs' hf
  · refine ⟨a6, a7, a8, by omega, ?_, fun j C k hj hjk _ => ⟨j, C, hj, hjk, id⟩, fun _ _ => rfl, fun _ _ h => h, fun _ _ h => .inl h⟩
    intro k hk hno
    exact a9 k fun hkb => hno ⟨i, A, hi, hro, by rw [hkb]; exact hb⟩

theorem VRels.get' {μ : Mu} {l m : List Value} (h : VRels μ l m) (i : Nat) (x : Value) (hx : l[i]? = some x) : ∃ y, m[i]? = some y ∧ VRel μ x y := h.get i x hx

theorem VRel.tag {μ : Mu} {i l c : Nat} {r : Value} (h : VRel μ (.slice (some ⟨i, 0, none⟩) l c) r) : VRel μ (.slice (some ⟨i, 0, some 0⟩) l c) r := by
  cases h with
  | slice e _ _ _ c' hc hz => exact VRel.sliceS e 0 0 l c c' hc (hz.imp id fun k => by simpa using k)

theorem xappend_ok {P : Program} {ρ : Operand → Value} {H h : HF} {n : Nat} {hs : List Hint} {c : Call} {out : Out} {o : Oper} (hx : xappend P ρ H n hs c = some out) (hob : ∀ q ∈ out.ob, q) (hrd : ∀ i ∈ out.rd, h i = H i) (ho : o.op = .call c) (hc : c.callee = .builtin .append) : OpSpec P o ρ h out := by
  unfold xappend at hx
  split at hx
  case h_2 => simp at hx
  case h_1 tx ty x y hty hargs =>
  split at hx
  case h_2 => simp at hx
  case h_1 e e' hux huy =>
  split at hx
  case h_2 => simp at hx
  case h_1 inf hi =>
  split at hx
  case h_2 => simp at hx
  case h_1 cs m rd ob hyc =>
  cases hcc : (Nat.ble 1 inf.size && Nat.ble inf.bytes 1048576 && zeroOk inf && Nat.ble 1 m && Nat.beq cs.length (m * inf.size) && cs.all storable) <;> rw [hcc] at hx
  · simp at hx
  simp only [cond_true] at hx
  simp only [Bool.and_eq_true] at hcc
  obtain ⟨⟨⟨⟨⟨c1, c2⟩, c3⟩, c4⟩, c5⟩, c6⟩ := hcc
  have c1 := ble_tt c1; have c2 := ble_tt c2; have c4 := ble_tt c4; have c5 := beq_tt c5
  obtain ⟨z, hz, hzs⟩ : ∃ z, inf.zero = some z ∧ z.cells.size = inf.size := by
    unfold zeroOk at c3
    cases hz : inf.zero with
    | none => simp [hz] at c3
    | some z => simp only [hz] at c3; exact ⟨z, rfl, by simpa using beq_tt c3⟩
  have hz0 := hz
  have htys : c.argTypes = #[tx, ty] := by apply Array.ext'; simpa using hty
  have hexec : ∀ (a : Act) (w w' : World) (rv : Value), (Builtin.append_ #[tx, ty] o.type #[a.eval x, a.eval y]).run P w = .ok rv w' → (execOp a.eval o).run P w = .ok (.value rv) w' := by
    intro a w w' rv hrun
    have two : c.args.map a.eval = #[a.eval x, a.eval y] := by apply Array.ext'; simp [hargs]
    unfold execOp
    simp only [ho, resolve, hc, Sem.run_bind, Sem.run_pure, Result.andThen_ok, invoke, builtin, two, htys, hrun]
  have hops : ∀ (μ : Mu) (a : Act), (∀ q ∈ o.op.operands, VRel μ (ρ q) (a.eval q)) → VRel μ (ρ x) (a.eval x) ∧ VRel μ (ρ y) (a.eval y) := by
    intro μ a hxs
    have hm : x ∈ c.args ∧ y ∈ c.args := by
      constructor
      · have : x ∈ c.args.toList := by rw [hargs]; simp
        simpa using this
      · have : y ∈ c.args.toList := by rw [hargs]; simp
        simpa using this
    exact ⟨hxs x (by rw [ho]; simp [Op.operands, Call.operands, hc, hm.1]), hxs y (by rw [ho]; simp [Op.operands, Call.operands, hc, hm.2])⟩
  -- what a row that grew is
  have rowsize : ∀ (k N : Nat) (l : List Value), l.length = k * inf.size → k ≤ N → (l.toArray ++ Builtin.zeroCells z.cells (N - k)).size = N * inf.size := by
    intro k N l hl hk
    have e1 : (Builtin.zeroCells z.cells (N - k)).size = (N - k) * inf.size := by simp [Builtin.zeroCells, hzs]
    have e2 : (N - k) * inf.size + k * inf.size = N * inf.size := by rw [← Nat.add_mul, show N - k + k = N by omega]
    rw [Array.size_append, e1]
    simp only [List.size_toArray, hl]
    omega
  -- a row that grows: the new block
  have grown : ∀ (h : HF) (μ : Mu) (w : World) (S : List Seg) (all rest : List Value) (k N : Nat), all.length = k * inf.size → k ≤ N → segsSize S = all.length → (∀ μ' : Mu, μ.le μ' → ∀ o v, segsGet? S o = some v → ∃ y, all[o]? = some y ∧ VRel μ' v y) → Rep μ h w.drew → μ n = none →
      ∃ μ' : Mu, μ.le μ' ∧ (∀ i, i ≠ n → μ' i = μ i) ∧ Rep μ' (upd1 h (n, .blk { segs := S, ty := e, ro := false })) (w.drew.alloc (.cells (all.toArray ++ Builtin.zeroCells z.cells (N - k)) e)) ∧
        VRel μ' (.slice (some ⟨n, 0, none⟩) k inf.size) (.slice (some ⟨w.heap.size, 0, none⟩) k N) ∧ Keeps μ h w μ' (upd1 h (n, .blk { segs := S, ty := e, ro := false })) (w.drew.alloc (.cells (all.toArray ++ Builtin.zeroCells z.cells (N - k)) e)) := by
    intro h μ w S all rest k N hall hkN hS hget hr' hnn
    obtain ⟨hle, hrep, hkeep⟩ := hr'.new (i := n) (B := { segs := S, ty := e, ro := false }) (t := e) (cs := all.toArray ++ Builtin.zeroCells z.cells (N - k)) hnn (fun μ' hl => by
      refine ⟨_, _, _, rfl, fun _ => ⟨rfl, rfl, ?_⟩, fun off v hv => ?_⟩
      · simp only [Blk.size, hS]; simp
      · obtain ⟨y, hy1, hy2⟩ := hget μ' hl off v hv
        refine ⟨y, ?_, hy2⟩
        have hlt := (List.getElem?_eq_some_iff.1 hy1).1
        rw [Array.getElem?_append_left (by simpa using hlt)]
        simpa using hy1)
    refine ⟨_, hle, fun i hi => by simp [hi], hrep, ?_, (Keeps.drew μ h w).trans hkeep⟩
    refine .slice (by simp) 0 k inf.size N hkN (.inr ?_)
    have := rowsize k N all hall hkN
    simp only [Nat.zero_add]
    rw [if_pos (show w.heap.size = w.drew.heap.size from rfl), this]
    exact Nat.le_refl _
  -- a new row behind nothing
  have fresh : ∀ (S : List Seg) (hs' : List Hint) (pre : List Prop), segsSize S = cs.length → (∀ o v, segsGet? S o = some v → cs[o]? = some v) → (∀ (μ : Mu) (X : Value), VRel μ (ρ x) X → ∃ ad, X = .slice ad 0 0) →
      out = { v := .slice (some ⟨n, 0, none⟩) m inf.size, eff := [(n, .blk { segs := S, ty := e, ro := false })], rd, sh := [], new := [n], n := n + 1, hs := hs', ob := pre ++ (m ≤ 1048576) :: ob } → OpSpec P o ρ h out := by
    intro S hs' pre hS1 hS2 hX he
    subst he
    intro μ a w hg hxs hr hn K Q hk
    obtain ⟨hvx, hvy⟩ := hops μ a hxs
    obtain ⟨ad, hX⟩ := hX μ _ hvx
    obtain ⟨rs, hrs, hsrc⟩ := ycells_ok (P := P) hyc (fun q hq => hob q (by simp [hq])) hrd huy c5 c4 c1 c6 hr hvy
    have hm : m ≤ 1048576 := hob _ (by simp)
    have hrun := run_append_grow_src w tx ty o.type e inf z hux hi hz ad 0 0 [] (by
      cases ad with
      | none => exact run_firstCells_none w.drew _ _ _ _
      | some ad => exact run_firstCells_some w.drew inf.size 0 ad 0 0 [] (by simp) (by simp)) (a.eval y) m rs hsrc (by omega) (by omega)
      (growslice_fits (by omega) (by
        have : (0 + m) * inf.bytes ≤ 1048576 * 1048576 := Nat.mul_le_mul (by omega) c2
        omega))
    rw [← hX] at hrun
    have hrun := hexec a w _ _ hrun
    simp only [Nat.zero_add, List.nil_append] at hrun
    have hge := grownCap_ge w m 0 e
    obtain ⟨μ', h1, h2, h3, h4, h5⟩ := grown h μ w S rs [] m (grownCap w m 0 e) (by rw [← hrs.length]; exact c5) hge (by rw [hS1]; exact hrs.length) (fun μ' hl o v hv => (hrs.mono hl).get o v (hS2 o v hv)) (hr.heap_eq rfl) (hn n (by simp))
    exact wp_of_value hrun (hk μ' _ _ h1 (fun i hi => h2 i (by simpa using hi)) h3 h4 h5)
  -- a row that grows, in place or not
  have grow : ∀ (i len : Nat) (B : Blk) (S : List Seg), h i = some B → B.ro = false → B.ty = e → len + m ≤ 1048576 → B.size = len * inf.size → addSegs B.segs cs = S → ∀ (μ : Mu) (a : Act) (w : World), Rep μ h w → μ n = none → VRel μ (ρ y) (a.eval y) → (∀ q ∈ ob, q) → (∀ j ∈ rd, h j = H j) →
      VRel μ (.slice (some ⟨i, 0, none⟩) len inf.size) (a.eval x) → ∃ (w' : World) (rv : Value) (μ' : Mu), (execOp a.eval o).run P w = .ok (.value rv) w' ∧ μ.le μ' ∧ (∀ k, k ≠ n → μ' k = μ k) ∧ Rep μ' (upd1 (upd1 h (i, .del)) (n, .blk { segs := S, ty := e, ro := false })) w' ∧
        VRel μ' (.slice (some ⟨n, 0, none⟩) (len + m) inf.size) rv ∧ Keeps μ h w μ' (upd1 (upd1 h (i, .del)) (n, .blk { segs := S, ty := e, ro := false })) w' := by
    intro i len B S hBh d2 d3 hneed hBs hS μ a w hr hnn hvy hobq hrdq hvx
    subst hS
    obtain ⟨rs, hrs, hsrc⟩ := ycells_ok (P := P) hyc hobq hrdq huy c5 c4 c1 c6 hr hvy
    have hlr : rs.length = m * inf.size := by rw [← hrs.length]; exact c5
    obtain ⟨b, hb, cells, tb, fr, he, hrw, hcs⟩ := hr.blk i B hBh (.inr hvx.slice_ne)
    obtain ⟨rfl, rfl, hle⟩ := hrw d2
    obtain ⟨cells', tb', fr', he', hszb⟩ := hr.size i B b hBh d2 hb
    rw [he] at he'
    cases he'
    generalize hX : a.eval x = X at hvx
    obtain ⟨S1, S2⟩ := addSegs_spec B.segs cs
    have hS1 : segsSize (addSegs B.segs cs) = (len + m) * inf.size := by
      rw [S1, c5, Nat.add_mul, ← hBs]; rfl
    have hni : n ≠ i := by rintro rfl; rw [hb] at hnn; cases hnn
    cases hvx with
    | slice hb' _ _ _ cap' hc hz2 =>
      rw [hb] at hb'
      obtain rfl : b = _ := by simpa using hb'
      have hroomy : 0 + cap' * inf.size ≤ cells.size := by
        rcases hz2 with hz2 | hz2
        · omega
        · rw [hszb]; exact hz2
      rw [Nat.zero_add] at hroomy
      by_cases hroom : len + m ≤ cap'
      · -- there is room
        have hfit : len * inf.size + rs.length ≤ cells.size := by
          rw [hlr, ← Nat.add_mul]
          exact Nat.le_trans (Nat.mul_le_mul_right _ hroom) hroomy
        have hrun := run_append_room_src w tx ty o.type e inf hux hi b 0 len cap' (a.eval y) m rs hsrc hroom
          (fun j hj => by
            rw [Nat.zero_add, cell_of he (Array.getElem?_eq_getElem (by omega : len * inf.size + j < cells.size))]; rfl)
          (fun j hj => by unfold World.frozen?; rw [he]; simp)
        rw [← hX] at hrun
        have hrun := hexec a w _ _ hrun
        rw [Nat.zero_add, putCells_eq] at hrun
        obtain ⟨ds, p1, p2, p3, p4, p5, p6, p7, p8, p9⟩ := putCells_heap b rs (len * inf.size) w cells B.ty he hfit
        obtain ⟨hr1, hk1⟩ := hr.spare (vs := rs) hBh d2 hb (by rw [hBs]; exact Nat.le_refl _) he hfit
        obtain ⟨hle2, hr2, hk2⟩ := hr1.more (j := n) (B := { segs := addSegs B.segs cs, ty := e, ro := false }) hBh d2 hb hnn (fun μ' hl => by
          rw [p1]
          refine ⟨ds, B.ty, (0, 0), rfl, fun _ => ⟨d3, rfl, ?_⟩, fun off v hv => ?_⟩
          · simp only [Blk.size, hS1, p2]
            exact Nat.le_trans (Nat.mul_le_mul_right _ hroom) hroomy
          · have hBz : segsSize B.segs = len * inf.size := hBs
            rcases S2 off v hv with ⟨g1, g2⟩ | ⟨g1, g2⟩
            · obtain ⟨y, hy1, hy2⟩ := hcs off v g2
              exact ⟨y, by rw [p3 off (by omega)]; exact hy1, hy2.mono hl⟩
            · obtain ⟨y, hy1, hy2⟩ := (hrs.mono hl).get _ v g2
              have hlt := (List.getElem?_eq_some_iff.1 hy1).1
              refine ⟨y, ?_, hy2⟩
              rw [hBz] at hlt hy1 g1
              rw [show off = len * inf.size + (off - len * inf.size) by omega, p4 _ hlt]
              simpa using hy1) rfl
        refine ⟨_, _, _, hrun, hle2, ?_, hr2, ?_, hk1.trans hk2⟩
        · intro k hk'
          simp [hk']
        · exact .slice (by simp) 0 (len + m) inf.size cap' hroom (.inr (by rw [Nat.zero_add]; simp only; rw [← hszb]; exact hroomy))
      · -- there is none
        have hall : ∃ olds : List Value, olds.length = len * inf.size ∧ (∀ (j : Nat) (v : Value), olds[j]? = some v → cells[j]? = some v) ∧ ∀ (j : Nat), j < len * inf.size → olds[j]? = cells[j]? := by
          refine ⟨cells.toList.take (len * inf.size), ?_, ?_, ?_⟩
          · rw [List.length_take]
            have : len * inf.size ≤ cells.size := by rw [← hBs]; exact hle
            simp; omega
          · intro j v hj
            rw [List.getElem?_take] at hj
            split at hj
            · simpa using hj
            · cases hj
          · intro j hj
            rw [List.getElem?_take, if_pos hj]
            simp
        obtain ⟨olds, ol, og, og2⟩ := hall
        have hold : (Builtin.firstCells inf.size len (.slice (some ⟨b, 0, none⟩) len cap')).run P w.drew = .ok olds.toArray w.drew :=
          run_firstCells_some w.drew inf.size len ⟨b, 0, none⟩ len cap' olds ol (fun j v hj => by rw [at_add, Nat.zero_add]; exact cell_of (w := w.drew) he (og j v hj))
        have hrun := run_append_grow_src w tx ty o.type e inf z hux hi hz (some ⟨b, 0, none⟩) len cap' olds hold (a.eval y) m rs hsrc (by omega) (by omega)
          (growslice_fits (by omega) (by
            have : (len + m) * inf.bytes ≤ 1048576 * 1048576 := Nat.mul_le_mul hneed c2
            omega))
        rw [← hX] at hrun
        have hrun := hexec a w _ _ hrun
        have hge := grownCap_ge w (len + m) cap' e
        obtain ⟨hr1, hk1⟩ := hr.del i
        have hall : (olds ++ rs).length = (len + m) * inf.size := by rw [List.length_append, ol, hlr, Nat.add_mul]
        obtain ⟨μ', q1, q2, q3, q4, q5⟩ := grown (upd1 h (i, .del)) μ w (addSegs B.segs cs) (olds ++ rs) [] (len + m) (grownCap w (len + m) cap' e) hall hge (by rw [hS1, hall]) (fun μ' hl o v hv => by
          have hBz : segsSize B.segs = len * inf.size := hBs
          rcases S2 o v hv with ⟨g1, g2⟩ | ⟨g1, g2⟩
          · obtain ⟨y, hy1, hy2⟩ := hcs o v g2
            exact ⟨y, by rw [List.getElem?_append_left (by omega), og2 o (by omega)]; exact hy1, hy2.mono hl⟩
          · obtain ⟨y, hy1, hy2⟩ := (hrs.mono hl).get _ v g2
            exact ⟨y, by rw [List.getElem?_append_right (by omega), ol, ← hBz]; exact hy1, hy2⟩) (hr1.heap_eq rfl) hnn
        exact ⟨_, _, μ', hrun, q1, q2, q3, q4, hk1.trans q5⟩
  split at hx
  · rename_i hρ
    simp only [Option.some.injEq] at hx
    obtain ⟨f1, f2⟩ := firstSegs_spec inf.size cs hs c1
    exact fresh _ _ [] f1 f2 (fun μ X hv => by rw [hρ] at hv; cases hv; exact ⟨_, rfl⟩) hx.symm
  · rename_i f hρ
    simp only [Option.some.injEq] at hx
    obtain ⟨f1, f2⟩ := firstSegs_spec inf.size cs hs c1
    have hf : f = true := hob _ (by rw [← hx]; simp)
    refine fresh _ _ [f = true] f1 f2 (fun μ X hv => ?_) hx.symm
    rw [hρ] at hv
    obtain ⟨_, hl⟩ := hv.lst_inv hf
    rcases hl with ⟨_, rfl⟩ | ⟨_, _, ad, rfl⟩ | ⟨h0, _⟩
    · exact ⟨_, rfl⟩
    · exact ⟨_, rfl⟩
    · exact absurd rfl h0
  · rename_i i len z' hρ
    split at hx
    · rename_i B hB
      cases hc2 : (Nat.beq z' inf.size && !B.ro && Nat.beq B.ty e) <;> rw [hc2] at hx
      · simp at hx
      simp only [cond_true, Option.some.injEq] at hx; subst hx
      simp only [Bool.and_eq_true, Bool.not_eq_true'] at hc2
      obtain ⟨⟨d1, d2⟩, d3⟩ := hc2
      obtain rfl := beq_tt d1
      intro μ a w hg hxs hr hn K Q hk
      obtain ⟨hvx, hvy⟩ := hops μ a hxs
      rw [hρ] at hvx
      obtain ⟨w', rv, μ', g1, g2, g3, g4, g5, g6⟩ := grow i len B _ (by rw [hrd i (by simp)]; exact hB) d2 (beq_tt d3) (hob _ (by simp)) (hob _ (by simp)) rfl μ a w hr (hn n (by simp)) hvy (fun q hq => hob q (by simp [hq])) (fun j hj => hrd j (by simp [hj])) hvx
      exact wp_of_value g1 (hk μ' _ _ g2 (fun k hk' => g3 k (by simpa using hk')) g4 g5 g6)
    · simp at hx
  · rename_i i len z' hρ
    split at hx
    · rename_i B l hs' hB
      cases hc2 : (Nat.beq z' inf.size && !B.ro && Nat.beq B.ty e) <;> rw [hc2] at hx
      · simp at hx
      simp only [cond_true, Option.some.injEq] at hx; subst hx
      simp only [Bool.and_eq_true, Bool.not_eq_true'] at hc2
      obtain ⟨⟨d1, d2⟩, d3⟩ := hc2
      obtain rfl := beq_tt d1
      intro μ a w hg hxs hr hn K Q hk
      obtain ⟨hvx, hvy⟩ := hops μ a hxs
      rw [hρ] at hvx
      have hBh : h i = some B := by rw [hrd i (by simp)]; exact hB
      have hSl : addSegs B.segs cs = l := hob _ (by simp)
      have hneed : len + m ≤ 1048576 := hob _ (by simp)
      have hBs : B.size = len * inf.size := hob _ (by simp)
      have hnn : μ n = none := hn n (by simp)
      generalize hX : a.eval x = X at hvx
      cases hvx with
      | sliceS hb _ _ _ _ cap' hc hz =>
        obtain ⟨w', rv, μ', g1, g2, g3, g4, g5, g6⟩ := grow i len B l hBh d2 (beq_tt d3) hneed hBs hSl μ a w hr hnn hvy (fun q hq => hob q (by simp [hq])) (fun j hj => hrd j (by simp [hj])) (by
          rw [hX]; exact .slice hb 0 len inf.size cap' hc (hz.imp id fun k => by simpa using k))
        refine wp_of_value g1 (hk μ' _ _ g2 (fun k hk' => g3 k (by simpa using hk')) g4 g5.tag g6)
      | sliceE _ _ _ _ ad cap' hz =>
        obtain rfl : cap' = 0 := hz.resolve_left (by omega)
        obtain ⟨rs, hrs, hsrc⟩ := ycells_ok (P := P) hyc (fun q hq => hob q (by simp [hq])) (fun j hj => hrd j (by simp [hj])) huy c5 c4 c1 c6 hr hvy
        have hrun := run_append_grow_src w tx ty o.type e inf z hux hi hz0 ad 0 0 [] (by
          cases ad with
          | none => exact run_firstCells_none w.drew _ _ _ _
          | some ad => exact run_firstCells_some w.drew inf.size 0 ad 0 0 [] (by simp) (by simp)) (a.eval y) m rs hsrc (by omega) (by omega)
          (growslice_fits (by omega) (by
            have : (0 + m) * inf.bytes ≤ 1048576 * 1048576 := Nat.mul_le_mul (by omega) c2
            omega))
        rw [← hX] at hrun
        have hrun := hexec a w _ _ hrun
        simp only [Nat.zero_add, List.nil_append] at hrun
        have hge := grownCap_ge w m 0 e
        obtain ⟨hr1, hk1⟩ := hr.del i
        obtain ⟨S1, S2⟩ := addSegs_spec B.segs cs
        have hB0 : segsSize B.segs = 0 := by have : B.size = 0 := by simpa using hBs
                                             exact this
        obtain ⟨μ', q1, q2, q3, q4, q5⟩ := grown (upd1 h (i, .del)) μ w l rs [] m (grownCap w m 0 e) (by rw [← hrs.length]; exact c5) hge (by rw [← hSl, S1, hB0, hrs.length]; omega) (fun μ' hl o v hv => by
          rw [← hSl] at hv
          rcases S2 o v hv with ⟨g1, _⟩ | ⟨g1, g2⟩
          · omega
          · rw [hB0, Nat.sub_zero] at g2
            exact (hrs.mono hl).get o v g2) (hr1.heap_eq rfl) hnn
        refine wp_of_value hrun (hk μ' _ _ q1 (fun k hk' => q2 k (by simpa using hk')) q3 ?_ (hk1.trans q5))
        simp only [Nat.zero_add]
        exact q4.tag
    · simp at hx
  · simp at hx

-- ---------------------------------------------------------------- a list behind an empty slice

/-- A block of no cells, under a name that stands for nothing. -/
theorem Rep.bare {μ : Mu} {h : HF} {w : World} (r : Rep μ h w) {n : Nat} {B : Blk} (hn : μ n = none) (hB : B.size = 0) : Rep μ (upd1 h (n, .blk B)) w ∧ Keeps μ h w μ (upd1 h (n, .blk B)) w := by
  have ho : ∀ i A b, upd1 h (n, .blk B) i = some A → μ i = some b → h i = some A := by
    intro i A b hi hb
    by_cases e : i = n
    · subst e; rw [hn] at hb; cases hb
    · rwa [upd1_other e] at hi
  refine ⟨⟨?_, ?_, r.bound, ?_, r.frz, ?_⟩, ⟨rfl, rfl, rfl, Nat.le_refl _, fun _ _ _ => rfl, ?_, fun _ _ => rfl, fun _ _ h => h, fun _ _ h => .inl h⟩⟩
  · intro i A hi hne
    by_cases e : i = n
    · subst e
      rw [upd1_same] at hi
      obtain rfl : B = A := by simpa using hi
      rcases hne with hne | hne
      · exact absurd hB hne
      · exact absurd hn hne
    · rw [upd1_other e] at hi; exact r.blk i A hi hne
  · intro i j A C b hi hj hib hjb hij
    exact r.apart i j A C b (ho i A b hi hib) (ho j C b hj hjb) hib hjb hij
  · intro i A b hi hro hb
    exact r.size i A b (ho i A b hi hb) hro hb
  · intro i A b hi hro hb
    exact r.nofz i A b (ho i A b hi hb) hro hb
  · intro i A b hi hb _
    exact ⟨i, A, ho i A b hi hb, hb, id⟩

theorem run_append_none {P : Program} (w : World) (t tx ty e : TypeId) (i : TypeInfo) (ht : P.underlying t = some (.slice e)) (hi : P.info? e = some i) (base : Option Addr) (x : Value) (hs : Src P i.size tx x 0 [] w) :
    (Builtin.append_ #[t, tx] ty #[.slice base 0 0, x]).run P w = .ok (.slice base 0 0) w := by
  have h2 := hs.cells
  rcases hs.kind with ⟨e', hk⟩ | hk <;> cases base <;> simp [Builtin.append_, run_underlying ht, run_underlying hk, sizeOf, typeInfo, hi, hs.len, h2, storeCells]

theorem xappendL_ok {P : Program} {ρ : Operand → Value} {H h : HF} {n : Nat} {hs : List Hint} {c : Call} {out : Out} {o : Oper} (hx : xappendL P ρ H n hs c = some out) (hob : ∀ q ∈ out.ob, q) (hrd : ∀ i ∈ out.rd, h i = H i) (ho : o.op = .call c) (hc : c.callee = .builtin .append) : OpSpec P o ρ h out := by
  unfold xappendL at hx
  split at hx
  case h_2 => simp at hx
  case h_1 tx ty x y hty hargs =>
  split at hx
  case h_2 => simp at hx
  case h_1 e e' hux huy =>
  split at hx
  case h_2 => simp at hx
  case h_1 inf hi =>
  split at hx
  case h_2 => simp at hx
  case h_1 f j m z' hρx hρy =>
  split at hx
  case h_2 => simp at hx
  case h_1 B hB =>
  cases hcc : (Nat.ble 1 inf.size && Nat.ble inf.bytes 1048576 && zeroOk inf && Nat.beq z' inf.size) <;> rw [hcc] at hx
  · simp at hx
  simp only [cond_true, Option.some.injEq] at hx
  subst hx
  simp only [Bool.and_eq_true] at hcc
  obtain ⟨⟨⟨c1, c2⟩, c3⟩, c4⟩ := hcc
  have c1 := ble_tt c1; have c2 := ble_tt c2
  obtain rfl := beq_tt c4
  obtain ⟨z, hz, hzs⟩ : ∃ z, inf.zero = some z ∧ z.cells.size = inf.size := by
    unfold zeroOk at c3
    cases hz : inf.zero with
    | none => simp [hz] at c3
    | some z => simp only [hz] at c3; exact ⟨z, rfl, by simpa using beq_tt c3⟩
  have htys : c.argTypes = #[tx, ty] := by apply Array.ext'; simpa using hty
  have hexec : ∀ (a : Act) (w w' : World) (rv : Value), (Builtin.append_ #[tx, ty] o.type #[a.eval x, a.eval y]).run P w = .ok rv w' → (execOp a.eval o).run P w = .ok (.value rv) w' := by
    intro a w w' rv hrun
    have two : c.args.map a.eval = #[a.eval x, a.eval y] := by apply Array.ext'; simp [hargs]
    unfold execOp
    simp only [ho, resolve, hc, Sem.run_bind, Sem.run_pure, Result.andThen_ok, invoke, builtin, two, htys, hrun]
  have hops : ∀ (μ : Mu) (a : Act), (∀ q ∈ o.op.operands, VRel μ (ρ q) (a.eval q)) → VRel μ (ρ x) (a.eval x) ∧ VRel μ (ρ y) (a.eval y) := by
    intro μ a hxs
    have hm : x ∈ c.args ∧ y ∈ c.args := by
      constructor
      · have : x ∈ c.args.toList := by rw [hargs]; simp
        simpa using this
      · have : y ∈ c.args.toList := by rw [hargs]; simp
        simpa using this
    exact ⟨hxs x (by rw [ho]; simp [Op.operands, Call.operands, hc, hm.1]), hxs y (by rw [ho]; simp [Op.operands, Call.operands, hc, hm.2])⟩
  have hf : f = true := hob _ (by simp)
  have hm : m ≤ 1048576 := hob _ (by simp)
  have hBs : B.size = m * inf.size := hob _ (by simp)
  have hst : AllStor B.segs (m * inf.size) := hob _ (by simp)
  intro μ a w hg hxs hr hn K Q hk
  obtain ⟨hvx, hvy⟩ := hops μ a hxs
  rw [hρx] at hvx
  rw [hρy] at hvy
  have hBh : h j = some B := by rw [hrd j (by simp)]; exact hB
  have hnn : μ n = none := hn n (by simp)
  obtain ⟨ad, hX⟩ : ∃ ad, a.eval x = .slice ad 0 0 := by
    obtain ⟨_, hl⟩ := hvx.lst_inv hf
    rcases hl with ⟨_, hl⟩ | ⟨_, _, ad, hl⟩ | ⟨h0, _⟩
    · exact ⟨_, hl⟩
    · exact ⟨_, hl⟩
    · exact absurd rfl h0
  generalize hY : a.eval y = Y at hvy
  by_cases hm0 : m = 0
  · -- nothing
    subst hm0
    have hsrc : Src P inf.size ty Y 0 [] w := by
      cases hvy with
      | sliceS _ _ _ _ _ cap' _ _ => exact Src.ofSlice w huy _ 0 cap' [] (by simp) (by simp) (by simp)
      | sliceE _ _ _ _ ad' cap' _ =>
        cases ad' with
        | none => exact Src.ofNil w huy cap'
        | some ad' => exact Src.ofSlice w huy _ 0 cap' [] (by simp) (by simp) (by simp)
    have hrun := run_append_none w tx ty o.type e inf hux hi ad Y hsrc
    rw [← hX, ← hY] at hrun
    have hrun := hexec a w _ _ hrun
    rw [hX] at hrun
    obtain ⟨hr1, hk1⟩ := hr.bare (B := { segs := B.segs, ty := e, ro := false }) hnn (by show segsSize B.segs = 0; have : segsSize B.segs = 0 * inf.size := hBs; omega)
    exact wp_of_value hrun (hk μ _ _ ⟨fun _ _ h => h, fun _ _ _ => rfl, fun _ _ h => h⟩ (fun _ _ => rfl) hr1 (.sliceE _ _ _ _ _ _ (.inr rfl)) hk1)
  · -- a new row
    have hBk : segsSize B.segs = m * inf.size := hBs
    cases hvy with
    | sliceE _ _ _ _ _ _ _ => exact absurd rfl hm0
    | sliceS hb _ _ _ _ cap' hcap hzz =>
      obtain ⟨b', hb', cells, ty', fr, he, hrw, hcs⟩ := hr.blk j B hBh (.inr (by rw [hb]; exact fun h => nomatch h))
      rw [hb] at hb'
      obtain rfl : _ = b' := by simpa using hb'
      have hge : m * inf.size ≤ cells.size := by
        rcases Nat.lt_or_ge cells.size (m * inf.size) with hlt | hge
        · obtain ⟨v, hv, _⟩ := hst _ hlt
          obtain ⟨y, hy, _⟩ := hcs _ v hv
          have := (Array.getElem?_eq_some_iff.1 hy).1
          omega
        · exact hge
      have hrl : (cells.toList.take (m * inf.size)).length = m * inf.size := by rw [List.length_take]; simp; omega
      have hrg : ∀ q, q < m * inf.size → (cells.toList.take (m * inf.size))[q]? = cells[q]? := by
        intro q hq
        rw [List.getElem?_take, if_pos hq]; simp
      generalize cells.toList.take (m * inf.size) = rs at hrl hrg
      have hone : ∀ u ∈ rs, u.oneCell' = true := by
        intro u hu
        obtain ⟨q, hq, rfl⟩ := List.mem_iff_getElem.1 hu
        rw [hrl] at hq
        obtain ⟨v, hv, hsv⟩ := hst q hq
        obtain ⟨y, hy, hvr⟩ := hcs q v hv
        have hyq : rs[q]? = some y := by rw [hrg q hq]; exact hy
        rw [List.getElem?_eq_getElem (by omega)] at hyq
        obtain rfl : rs[q] = y := by simpa using hyq
        have := (VRels.cons hvr .nil).storables (by simp [hsv])
        exact oneCell_of (by simpa using this)
      have hsrc := Src.ofSlice (P := P) w huy (⟨_, 0 + 0, none⟩ : Addr) m cap' rs hrl (fun q u hu => by rw [at_add]; exact cell_of he (by
        have hq : q < m * inf.size := by have := (List.getElem?_eq_some_iff.1 hu).1; omega
        simp only [Nat.zero_add]; rw [← hrg q hq]; exact hu)) hone
      have hold : (Builtin.firstCells inf.size 0 (.slice ad 0 0)).run P w.drew = .ok ([] : List Value).toArray w.drew := by
        cases ad with
        | none => exact run_firstCells_none w.drew _ _ _ _
        | some ad => exact run_firstCells_some w.drew inf.size 0 ad 0 0 [] (by simp) (by simp)
      have hrun := run_append_grow_src w tx ty o.type e inf z hux hi hz ad 0 0 [] hold _ m rs hsrc (by omega) (by omega)
        (growslice_fits (by omega) (by
          have : (0 + m) * inf.bytes ≤ 1048576 * 1048576 := Nat.mul_le_mul (by omega) c2
          omega))
      rw [← hX, ← hY] at hrun
      have hrun := hexec a w _ _ hrun
      simp only [Nat.zero_add, List.nil_append] at hrun
      have hgc := grownCap_ge w m 0 e
      generalize grownCap w m 0 e = N at hrun hgc
      have hsz : (rs.toArray ++ Builtin.zeroCells z.cells (N - m)).size = N * inf.size := by
        have e1 : (Builtin.zeroCells z.cells (N - m)).size = (N - m) * inf.size := by simp [Builtin.zeroCells, hzs]
        have e2 : (N - m) * inf.size + m * inf.size = N * inf.size := by rw [← Nat.add_mul, show N - m + m = N by omega]
        rw [Array.size_append, e1]
        simp only [List.size_toArray, hrl]
        omega
      obtain ⟨hle, hrep, hkeep⟩ := (hr.heap_eq (w' := w.drew) rfl).new (i := n) (B := { segs := B.segs, ty := e, ro := false }) (t := e) (cs := rs.toArray ++ Builtin.zeroCells z.cells (N - m)) hnn (fun μ' hl => by
        refine ⟨_, _, _, rfl, fun _ => ⟨rfl, rfl, ?_⟩, fun off v hv => ?_⟩
        · show segsSize B.segs ≤ _
          rw [hBk]; simp only [Array.size_append, List.size_toArray, hrl]; omega
        · obtain ⟨y, hy1, hy2⟩ := hcs off v hv
          have hoff : off < m * inf.size := by have : off < segsSize B.segs := segsGet_lt hv; omega
          refine ⟨y, ?_, hy2.mono hl⟩
          rw [Array.getElem?_append_left (by simp only [List.size_toArray]; omega)]
          rw [← hy1, ← hrg off hoff]; simp)
      refine wp_of_value hrun (hk _ _ _ hle (fun i hi => by simp at hi; simp [hi]) hrep ?_ ((Keeps.drew μ h w).trans hkeep))
      refine VRel.sliceS (by simp) 0 0 m inf.size N hgc (.inr ?_)
      simp only [Nat.zero_add]
      rw [if_pos (show w.heap.size = w.drew.heap.size from rfl), hsz]
      exact Nat.le_refl _

end Go.Proofs.Ytgnhhnmpeklciaa.VX
