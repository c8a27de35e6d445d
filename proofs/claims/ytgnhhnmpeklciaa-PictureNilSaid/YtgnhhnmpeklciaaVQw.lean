/-
  Further operations: numbers of a stretch behind a slice, slices of noughts, is a list nil? No condition.
-/
import Derived.Test.YtgnhhnmpeklciaaVQ
namespace Go.Proofs.Ytgnhhnmpeklciaa.VX
open Go
set_option linter.unusedSimpArgs false
set_option linter.unusedVariables false

theorem winL_len (f : Nat → Value) : ∀ (m o : Nat), (winL f o m).length = m
  | 0, _ => rfl
  | m + 1, o => by simp [winL, winL_len f m]
theorem winL_get (f : Nat → Value) : ∀ (m o j : Nat), (winL f o m)[j]? = if j < m then some (f (o + j)) else none
  | 0, _, j => by simp [winL]
  | m + 1, o, 0 => by simp [winL]
  | m + 1, o, j + 1 => by
    simp only [winL, List.getElem?_cons_succ, winL_get f m (o + 1) j, Nat.add_lt_add_iff_right]
    rw [show o + 1 + j = o + (j + 1) by omega]

theorem ycellsW_ok {P : Program} {H h : HF} {sz m : Nat} {v : Value} {cs : List Value} {rd : List Nat} {ob : List Prop} {ty e' : TypeId} (hy : ycellsW H v = some (cs, m, rd, ob)) (hob : ∀ q ∈ ob, q) (hrd : ∀ i ∈ rd, h i = H i) (hk : P.underlying ty = some (.slice e'))
    (hl : cs.length = m * sz) (hm : 1 ≤ m) (h1 : 1 ≤ sz) (hst : cs.all storable = true) {μ : Mu} {w : World} (r : Rep μ h w) {x : Value} (hv : VRel μ v x) : ∃ rs, VRels μ cs rs ∧ Src P sz ty x m rs w := by
  unfold ycellsW at hy
  split at hy
  case h_2 => simp at hy
  case h_1 i off s m' c =>
  split at hy
  case h_2 => simp at hy
  case h_1 B hB =>
  split at hy
  case h_2 => simp at hy
  case h_1 k n a hs =>
  simp only [Option.some.injEq, Prod.mk.injEq] at hy
  obtain ⟨rfl, rfl, rfl, rfl⟩ := hy
  have hn : off + m' ≤ n := hob _ (by simp)
  rw [← hrd i (by simp)] at hB
  cases hv with
  | sliceE _ _ _ _ _ _ _ => omega
  | sliceS hb _ _ _ _ cap' hc hz =>
    obtain ⟨b', hb', cells, ty', fr, he, _, hcs⟩ := r.blk i B hB (.inr (by rw [hb]; exact fun h => nomatch h))
    rw [hb] at hb'
    obtain rfl : _ = b' := by simpa using hb'
    have hget : ∀ j, j < m' → cells[s + (off + j)]? = some (.int k (a (off + j))) := by
      intro j hj
      have hs1 : Seg.get? (.ints k n a) (off + j) = some (.int k (a (off + j))) := by
        have : Nat.blt (off + j) n = true := by rw [Nat.blt_eq]; omega
        simp [Seg.get?, this]
      obtain ⟨y, hy, hvy⟩ := hcs _ _ (segAt_get hs _ _ hs1)
      cases hvy
      exact hy
    have hst' := hst
    refine ⟨winL (fun o => .int k (a (off + o))) 0 m', VRels.of_scalars (by
      rw [List.all_eq_true]
      intro u hu
      obtain ⟨q, hq, rfl⟩ := List.mem_iff_getElem.1 hu
      have := winL_get (fun o => Value.int k (a (off + o))) m' 0 q
      rw [List.getElem?_eq_getElem hq] at this
      split at this
      · obtain h := Option.some.inj this; rw [h]; rfl
      · cases this), Src.ofSlice w hk _ _ _ _ hl (fun j u hu => by
        rw [at_add]
        refine cell_of he ?_
        rw [winL_get] at hu
        split at hu
        · rename_i hj
          obtain rfl := Option.some.inj hu
          have := hget j hj
          simp only [Nat.zero_add]
          rw [show s + off + j = s + (off + j) by omega]
          exact this
        · cases hu) ?_⟩
    intro u hu
    rw [List.all_eq_true] at hst
    exact oneCell_of (hst u hu)

theorem xappendW_ok {P : Program} {ρ : Operand → Value} {H h : HF} {n : Nat} {l : List Seg} {hs : List Hint} {c : Call} {out : Out} {o : Oper} (hx : xappendW P ρ H n l hs c = some out) (hob : ∀ q ∈ out.ob, q) (hrd : ∀ i ∈ out.rd, h i = H i) (ho : o.op = .call c) (hc : c.callee = .builtin .append) : OpSpec P o ρ h out := by
  unfold xappendW at hx
  split at hx
  case h_2 => simp at hx
  case h_1 tx ty x y hty hargs =>
  split at hx
  case h_2 => simp at hx
  case h_1 e e' hux huy =>
  split at hx
  case h_2 => simp at hx
  case h_1 inf hi =>
  split at hx
  case h_2 => simp at hx
  case h_1 cs m rd ob hyc =>
  cases hcc : (Nat.ble 1 inf.size && Nat.ble inf.bytes 1048576 && zeroOk inf && Nat.ble 1 m && Nat.beq cs.length (m * inf.size) && cs.all storable) <;> rw [hcc] at hx
  · simp at hx
  simp only [cond_true] at hx
  simp only [Bool.and_eq_true] at hcc
  obtain ⟨⟨⟨⟨⟨c1, c2⟩, c3⟩, c4⟩, c5⟩, c6⟩ := hcc
  have c1 := ble_tt c1; have c2 := ble_tt c2; have c4 := ble_tt c4; have c5 := beq_tt c5
  obtain ⟨z, hz, hzs⟩ : ∃ z, inf.zero = some z ∧ z.cells.size = inf.size := by
    unfold zeroOk at c3
    cases hz : inf.zero with
    | none => simp [hz] at c3
    | some z => simp only [hz] at c3; exact ⟨z, rfl, by simpa using beq_tt c3⟩
  have hz0 := hz
  have htys : c.argTypes = #[tx, ty] := by apply Array.ext'; simpa using hty
  have hexec : ∀ (a : Act) (w w' : World) (rv : Value), (Builtin.append_ #[tx, ty] o.type #[a.eval x, a.eval y]).run P w = .ok rv w' → (execOp a.eval o).run P w = .ok (.value rv) w' := by
    intro a w w' rv hrun
    have two : c.args.map a.eval = #[a.eval x, a.eval y] := by apply Array.ext'; simp [hargs]
    unfold execOp
    simp only [ho, resolve, hc, Sem.run_bind, Sem.run_pure, Result.andThen_ok, invoke, builtin, two, htys, hrun]
  have hops : ∀ (μ : Mu) (a : Act), (∀ q ∈ o.op.operands, VRel μ (ρ q) (a.eval q)) → VRel μ (ρ x) (a.eval x) ∧ VRel μ (ρ y) (a.eval y) := by
    intro μ a hxs
    have hm : x ∈ c.args ∧ y ∈ c.args := by
      constructor
      · have : x ∈ c.args.toList := by rw [hargs]; simp
        simpa using this
      · have : y ∈ c.args.toList := by rw [hargs]; simp
        simpa using this
    exact ⟨hxs x (by rw [ho]; simp [Op.operands, Call.operands, hc, hm.1]), hxs y (by rw [ho]; simp [Op.operands, Call.operands, hc, hm.2])⟩
  -- what a row that grew is
  have rowsize : ∀ (k N : Nat) (l : List Value), l.length = k * inf.size → k ≤ N → (l.toArray ++ Builtin.zeroCells z.cells (N - k)).size = N * inf.size := by
    intro k N l hl hk
    have e1 : (Builtin.zeroCells z.cells (N - k)).size = (N - k) * inf.size := by simp [Builtin.zeroCells, hzs]
    have e2 : (N - k) * inf.size + k * inf.size = N * inf.size := by rw [← Nat.add_mul, show N - k + k = N by omega]
    rw [Array.size_append, e1]
    simp only [List.size_toArray, hl]
    omega
  -- a row that grows: the new block
  have grown : ∀ (h : HF) (μ : Mu) (w : World) (S : List Seg) (all rest : List Value) (k N : Nat), all.length = k * inf.size → k ≤ N → segsSize S = all.length → (∀ μ' : Mu, μ.le μ' → ∀ o v, segsGet? S o = some v → ∃ y, all[o]? = some y ∧ VRel μ' v y) → Rep μ h w.drew → μ n = none →
      ∃ μ' : Mu, μ.le μ' ∧ (∀ i, i ≠ n → μ' i = μ i) ∧ Rep μ' (upd1 h (n, .blk { segs := S, ty := e, ro := false })) (w.drew.alloc (.cells (all.toArray ++ Builtin.zeroCells z.cells (N - k)) e)) ∧
        VRel μ' (.slice (some ⟨n, 0, none⟩) k inf.size) (.slice (some ⟨w.heap.size, 0, none⟩) k N) ∧ Keeps μ h w μ' (upd1 h (n, .blk { segs := S, ty := e, ro := false })) (w.drew.alloc (.cells (all.toArray ++ Builtin.zeroCells z.cells (N - k)) e)) := by
    intro h μ w S all rest k N hall hkN hS hget hr' hnn
    obtain ⟨hle, hrep, hkeep⟩ := hr'.new (i := n) (B := { segs := S, ty := e, ro := false }) (t := e) (cs := all.toArray ++ Builtin.zeroCells z.cells (N - k)) hnn (fun μ' hl => by
      refine ⟨_, _, _, rfl, fun _ => ⟨rfl, rfl, ?_⟩, fun off v hv => ?_⟩
      · simp only [Blk.size, hS]; simp
      · obtain ⟨y, hy1, hy2⟩ := hget μ' hl off v hv
        refine ⟨y, ?_, hy2⟩
        have hlt := (List.getElem?_eq_some_iff.1 hy1).1
        rw [Array.getElem?_append_left (by simpa using hlt)]
        simpa using hy1)
    refine ⟨_, hle, fun i hi => by simp [hi], hrep, ?_, (Keeps.drew μ h w).trans hkeep⟩
    refine .slice (by simp) 0 k inf.size N hkN (.inr ?_)
    have := rowsize k N all hall hkN
    simp only [Nat.zero_add]
    rw [if_pos (show w.heap.size = w.drew.heap.size from rfl), this]
    exact Nat.le_refl _
  -- a new row behind nothing
  have fresh : ∀ (S : List Seg) (hs' : List Hint) (pre : List Prop), segsSize S = cs.length → (∀ o v, segsGet? S o = some v → cs[o]? = some v) → (∀ (μ : Mu) (X : Value), VRel μ (ρ x) X → ∃ ad, X = .slice ad 0 0) →
      out = { v := .slice (some ⟨n, 0, some 0⟩) m inf.size, eff := [(n, .blk { segs := S, ty := e, ro := false })], rd, sh := [], new := [n], n := n + 1, hs := hs', ob := pre ++ (m ≤ 1048576) :: ob } → OpSpec P o ρ h out := by
    intro S hs' pre hS1 hS2 hX he
    subst he
    intro μ a w hg hxs hr hn K Q hk
    obtain ⟨hvx, hvy⟩ := hops μ a hxs
    obtain ⟨ad, hX⟩ := hX μ _ hvx
    obtain ⟨rs, hrs, hsrc⟩ := ycellsW_ok (P := P) hyc (fun q hq => hob q (by simp [hq])) hrd huy c5 c4 c1 c6 hr hvy
    have hm : m ≤ 1048576 := hob _ (by simp)
    have hrun := run_append_grow_src w tx ty o.type e inf z hux hi hz ad 0 0 [] (by
      cases ad with
      | none => exact run_firstCells_none w.drew _ _ _ _
      | some ad => exact run_firstCells_some w.drew inf.size 0 ad 0 0 [] (by simp) (by simp)) (a.eval y) m rs hsrc (by omega) (by omega)
      (growslice_fits (by omega) (by
        have : (0 + m) * inf.bytes ≤ 1048576 * 1048576 := Nat.mul_le_mul (by omega) c2
        omega))
    rw [← hX] at hrun
    have hrun := hexec a w _ _ hrun
    simp only [Nat.zero_add, List.nil_append] at hrun
    have hge := grownCap_ge w m 0 e
    obtain ⟨μ', h1, h2, h3, h4, h5⟩ := grown h μ w S rs [] m (grownCap w m 0 e) (by rw [← hrs.length]; exact c5) hge (by rw [hS1]; exact hrs.length) (fun μ' hl o v hv => (hrs.mono hl).get o v (hS2 o v hv)) (hr.heap_eq rfl) (hn n (by simp))
    exact wp_of_value hrun (hk μ' _ _ h1 (fun i hi => h2 i (by simpa using hi)) h3 h4.tag h5)
  -- a row that grows, in place or not
  have grow : ∀ (i len : Nat) (B : Blk) (S : List Seg), h i = some B → B.ro = false → B.ty = e → len + m ≤ 1048576 → B.size = len * inf.size → Behind B.segs cs S → ∀ (μ : Mu) (a : Act) (w : World), Rep μ h w → μ n = none → VRel μ (ρ y) (a.eval y) → (∀ q ∈ ob, q) → (∀ j ∈ rd, h j = H j) →
      VRel μ (.slice (some ⟨i, 0, none⟩) len inf.size) (a.eval x) → ∃ (w' : World) (rv : Value) (μ' : Mu), (execOp a.eval o).run P w = .ok (.value rv) w' ∧ μ.le μ' ∧ (∀ k, k ≠ n → μ' k = μ k) ∧ Rep μ' (upd1 (upd1 h (i, .del)) (n, .blk { segs := S, ty := e, ro := false })) w' ∧
        VRel μ' (.slice (some ⟨n, 0, none⟩) (len + m) inf.size) rv ∧ Keeps μ h w μ' (upd1 (upd1 h (i, .del)) (n, .blk { segs := S, ty := e, ro := false })) w' := by
    intro i len B S hBh d2 d3 hneed hBs hS μ a w hr hnn hvy hobq hrdq hvx
    obtain ⟨rs, hrs, hsrc⟩ := ycellsW_ok (P := P) hyc hobq hrdq huy c5 c4 c1 c6 hr hvy
    have hlr : rs.length = m * inf.size := by rw [← hrs.length]; exact c5
    obtain ⟨b, hb, cells, tb, fr, he, hrw, hcs⟩ := hr.blk i B hBh (.inr hvx.slice_ne)
    obtain ⟨rfl, rfl, hle⟩ := hrw d2
    obtain ⟨cells', tb', fr', he', hszb⟩ := hr.size i B b hBh d2 hb
    rw [he] at he'
    cases he'
    generalize hX : a.eval x = X at hvx
    obtain ⟨S1, S2⟩ := hS
    have hS1 : segsSize S = (len + m) * inf.size := by
      rw [S1, c5, Nat.add_mul, ← hBs]; rfl
    have hni : n ≠ i := by rintro rfl; rw [hb] at hnn; cases hnn
    cases hvx with
    | slice hb' _ _ _ cap' hc hz2 =>
      rw [hb] at hb'
      obtain rfl : b = _ := by simpa using hb'
      have hroomy : 0 + cap' * inf.size ≤ cells.size := by
        rcases hz2 with hz2 | hz2
        · omega
        · rw [hszb]; exact hz2
      rw [Nat.zero_add] at hroomy
      by_cases hroom : len + m ≤ cap'
      · -- there is room
        have hfit : len * inf.size + rs.length ≤ cells.size := by
          rw [hlr, ← Nat.add_mul]
          exact Nat.le_trans (Nat.mul_le_mul_right _ hroom) hroomy
        have hrun := run_append_room_src w tx ty o.type e inf hux hi b 0 len cap' (a.eval y) m rs hsrc hroom
          (fun j hj => by
            rw [Nat.zero_add, cell_of he (Array.getElem?_eq_getElem (by omega : len * inf.size + j < cells.size))]; rfl)
          (fun j hj => by unfold World.frozen?; rw [he]; simp)
        rw [← hX] at hrun
        have hrun := hexec a w _ _ hrun
        rw [Nat.zero_add, putCells_eq] at hrun
        obtain ⟨ds, p1, p2, p3, p4, p5, p6, p7, p8, p9⟩ := putCells_heap b rs (len * inf.size) w cells B.ty he hfit
        obtain ⟨hr1, hk1⟩ := hr.spare (vs := rs) hBh d2 hb (by rw [hBs]; exact Nat.le_refl _) he hfit
        obtain ⟨hle2, hr2, hk2⟩ := hr1.more (j := n) (B := { segs := S, ty := e, ro := false }) hBh d2 hb hnn (fun μ' hl => by
          rw [p1]
          refine ⟨ds, B.ty, (0, 0), rfl, fun _ => ⟨d3, rfl, ?_⟩, fun off v hv => ?_⟩
          · simp only [Blk.size, hS1, p2]
            exact Nat.le_trans (Nat.mul_le_mul_right _ hroom) hroomy
          · have hBz : segsSize B.segs = len * inf.size := hBs
            rcases S2 off v hv with ⟨g1, g2⟩ | ⟨g1, g2⟩
            · obtain ⟨y, hy1, hy2⟩ := hcs off v g2
              exact ⟨y, by rw [p3 off (by omega)]; exact hy1, hy2.mono hl⟩
            · obtain ⟨y, hy1, hy2⟩ := (hrs.mono hl).get _ v g2
              have hlt := (List.getElem?_eq_some_iff.1 hy1).1
              refine ⟨y, ?_, hy2⟩
              rw [hBz] at hlt hy1 g1
              rw [show off = len * inf.size + (off - len * inf.size) by omega, p4 _ hlt]
              simpa using hy1) rfl
        refine ⟨_, _, _, hrun, hle2, ?_, hr2, ?_, hk1.trans hk2⟩
        · intro k hk'
          simp [hk']
        · exact .slice (by simp) 0 (len + m) inf.size cap' hroom (.inr (by rw [Nat.zero_add]; simp only; rw [← hszb]; exact hroomy))
      · -- there is none
        have hall : ∃ olds : List Value, olds.length = len * inf.size ∧ (∀ (j : Nat) (v : Value), olds[j]? = some v → cells[j]? = some v) ∧ ∀ (j : Nat), j < len * inf.size → olds[j]? = cells[j]? := by
          refine ⟨cells.toList.take (len * inf.size), ?_, ?_, ?_⟩
          · rw [List.length_take]
            have : len * inf.size ≤ cells.size := by rw [← hBs]; exact hle
            simp; omega
          · intro j v hj
            rw [List.getElem?_take] at hj
            split at hj
            · simpa using hj
            · cases hj
          · intro j hj
            rw [List.getElem?_take, if_pos hj]
            simp
        obtain ⟨olds, ol, og, og2⟩ := hall
        have hold : (Builtin.firstCells inf.size len (.slice (some ⟨b, 0, none⟩) len cap')).run P w.drew = .ok olds.toArray w.drew :=
          run_firstCells_some w.drew inf.size len ⟨b, 0, none⟩ len cap' olds ol (fun j v hj => by rw [at_add, Nat.zero_add]; exact cell_of (w := w.drew) he (og j v hj))
        have hrun := run_append_grow_src w tx ty o.type e inf z hux hi hz (some ⟨b, 0, none⟩) len cap' olds hold (a.eval y) m rs hsrc (by omega) (by omega)
          (growslice_fits (by omega) (by
            have : (len + m) * inf.bytes ≤ 1048576 * 1048576 := Nat.mul_le_mul hneed c2
            omega))
        rw [← hX] at hrun
        have hrun := hexec a w _ _ hrun
        have hge := grownCap_ge w (len + m) cap' e
        obtain ⟨hr1, hk1⟩ := hr.del i
        have hall : (olds ++ rs).length = (len + m) * inf.size := by rw [List.length_append, ol, hlr, Nat.add_mul]
        obtain ⟨μ', q1, q2, q3, q4, q5⟩ := grown (upd1 h (i, .del)) μ w S (olds ++ rs) [] (len + m) (grownCap w (len + m) cap' e) hall hge (by rw [hS1, hall]) (fun μ' hl o v hv => by
          have hBz : segsSize B.segs = len * inf.size := hBs
          rcases S2 o v hv with ⟨g1, g2⟩ | ⟨g1, g2⟩
          · obtain ⟨y, hy1, hy2⟩ := hcs o v g2
            exact ⟨y, by rw [List.getElem?_append_left (by omega), og2 o (by omega)]; exact hy1, hy2.mono hl⟩
          · obtain ⟨y, hy1, hy2⟩ := (hrs.mono hl).get _ v g2
            exact ⟨y, by rw [List.getElem?_append_right (by omega), ol, ← hBz]; exact hy1, hy2⟩) (hr1.heap_eq rfl) hnn
        exact ⟨_, _, μ', hrun, q1, q2, q3, q4, hk1.trans q5⟩
  split at hx
  · rename_i f hρ
    simp only [Option.some.injEq] at hx
    have hbe : Behind [] cs l := hob _ (by rw [← hx]; simp)
    obtain ⟨f1, f2⟩ := hbe
    have f1 : segsSize l = cs.length := by simpa [segsSize] using f1
    have f2 : ∀ o v, segsGet? l o = some v → cs[o]? = some v := fun o v hv => by
      rcases f2 o v hv with ⟨g1, _⟩ | ⟨_, g2⟩
      · simp [segsSize] at g1
      · simpa [segsSize] using g2
    have hf : f = true := hob _ (by rw [← hx]; simp)
    refine fresh _ _ [f = true, Behind [] cs l] f1 f2 (fun μ X hv => ?_) hx.symm
    rw [hρ] at hv
    obtain ⟨_, hl⟩ := hv.lst_inv hf
    rcases hl with ⟨_, rfl⟩ | ⟨_, _, ad, rfl⟩ | ⟨h0, _⟩
    · exact ⟨_, rfl⟩
    · exact ⟨_, rfl⟩
    · exact absurd rfl h0
  · rename_i i len z' hρ
    split at hx
    · rename_i B hB
      cases hc2 : (Nat.beq z' inf.size && !B.ro && Nat.beq B.ty e) <;> rw [hc2] at hx
      · simp at hx
      simp only [cond_true, Option.some.injEq] at hx; subst hx
      simp only [Bool.and_eq_true, Bool.not_eq_true'] at hc2
      obtain ⟨⟨d1, d2⟩, d3⟩ := hc2
      obtain rfl := beq_tt d1
      intro μ a w hg hxs hr hn K Q hk
      obtain ⟨hvx, hvy⟩ := hops μ a hxs
      rw [hρ] at hvx
      have hBh : h i = some B := by rw [hrd i (by simp)]; exact hB
      have hSl : Behind B.segs cs l := hob _ (by simp)
      have hneed : len + m ≤ 1048576 := hob _ (by simp)
      have hBs : B.size = len * inf.size := hob _ (by simp)
      have hnn : μ n = none := hn n (by simp)
      generalize hX : a.eval x = X at hvx
      cases hvx with
      | sliceS hb _ _ _ _ cap' hc hz =>
        obtain ⟨w', rv, μ', g1, g2, g3, g4, g5, g6⟩ := grow i len B l hBh d2 (beq_tt d3) hneed hBs hSl μ a w hr hnn hvy (fun q hq => hob q (by simp [hq])) (fun j hj => hrd j (by simp [hj])) (by
          rw [hX]; exact .slice hb 0 len inf.size cap' hc (hz.imp id fun k => by simpa using k))
        refine wp_of_value g1 (hk μ' _ _ g2 (fun k hk' => g3 k (by simpa using hk')) g4 g5.tag g6)
      | sliceE _ _ _ _ ad cap' hz =>
        obtain rfl : cap' = 0 := hz.resolve_left (by omega)
        obtain ⟨rs, hrs, hsrc⟩ := ycellsW_ok (P := P) hyc (fun q hq => hob q (by simp [hq])) (fun j hj => hrd j (by simp [hj])) huy c5 c4 c1 c6 hr hvy
        have hrun := run_append_grow_src w tx ty o.type e inf z hux hi hz0 ad 0 0 [] (by
          cases ad with
          | none => exact run_firstCells_none w.drew _ _ _ _
          | some ad => exact run_firstCells_some w.drew inf.size 0 ad 0 0 [] (by simp) (by simp)) (a.eval y) m rs hsrc (by omega) (by omega)
          (growslice_fits (by omega) (by
            have : (0 + m) * inf.bytes ≤ 1048576 * 1048576 := Nat.mul_le_mul (by omega) c2
            omega))
        rw [← hX] at hrun
        have hrun := hexec a w _ _ hrun
        simp only [Nat.zero_add, List.nil_append] at hrun
        have hge := grownCap_ge w m 0 e
        obtain ⟨hr1, hk1⟩ := hr.del i
        obtain ⟨S1, S2⟩ := hSl
        have hB0 : segsSize B.segs = 0 := by have : B.size = 0 := by simpa using hBs
                                             exact this
        obtain ⟨μ', q1, q2, q3, q4, q5⟩ := grown (upd1 h (i, .del)) μ w l rs [] m (grownCap w m 0 e) (by rw [← hrs.length]; exact c5) hge (by rw [S1, hB0, hrs.length]; omega) (fun μ' hl o v hv => by
          rcases S2 o v hv with ⟨g1, _⟩ | ⟨g1, g2⟩
          · omega
          · rw [hB0, Nat.sub_zero] at g2
            exact (hrs.mono hl).get o v g2) (hr1.heap_eq rfl) hnn
        refine wp_of_value hrun (hk μ' _ _ q1 (fun k hk' => q2 k (by simpa using hk')) q3 ?_ (hk1.trans q5))
        simp only [Nat.zero_add]
        exact q4.tag
    · simp at hx
  · simp at hx


theorem xeqNilT_ok {P : Program} {ρ : Operand → Value} {n : Nat} {hs : List Hint} {t : TypeId} {x y : Operand} {out : Out} {o : Oper} {h : HF} {g : TypeId} (hx : xeqNilT P ρ n hs t x y = some out) (hob : ∀ q ∈ out.ob, q) (ho : o.op = .binOp .eql t x y g) : OpSpec P o ρ h out := by
  unfold xeqNilT at hx
  split at hx
  · rename_i hρx hρy
    cases he : eqv P 10000 t (.slice (some ⟨0, 0, none⟩) 0 0) (.slice none 0 0) with
    | none => rw [he] at hx; simp at hx
    | some c =>
      rw [he] at hx
      simp only [Option.map_some, Option.some.injEq] at hx; subst hx
      refine .quiet rfl rfl fun μ a w hg hxs hr => ⟨.bool c, ?_, .bool c⟩
      have hvx := hxs x (by rw [ho]; simp [Op.operands])
      have hvy := hxs y (by rw [ho]; simp [Op.operands])
      rw [hρx] at hvx
      rw [hρy] at hvy
      unfold execOp
      simp only [ho, Sem.run_bind]
      generalize a.eval x = X at hvx ⊢
      generalize a.eval y = Y at hvy ⊢
      cases hvy
      cases hvx with
      | emp ad cap' =>
        have he' : eqv P 10000 t (.slice (some ad) 0 cap') (.slice none 0 0) = some c := by rw [← he]; exact eqv_slice rfl rfl
        simp [eqGuard, binOp, equal_run he']
  · rename_i b0 off s m z hρx hρy
    cases he : eqv P 10000 t (.slice (some ⟨0, 0, none⟩) 0 0) (.slice none 0 0) with
    | none => rw [he] at hx; simp at hx
    | some c =>
      rw [he] at hx
      simp only [Option.map_some, Option.some.injEq] at hx; subst hx
      refine .quiet rfl rfl fun μ a w hg hxs hr => ⟨.bool c, ?_, .bool c⟩
      have hvx := hxs x (by rw [ho]; simp [Op.operands])
      have hvy := hxs y (by rw [ho]; simp [Op.operands])
      rw [hρx] at hvx
      rw [hρy] at hvy
      have hm : m ≠ 0 := hob _ (by simp [VX.silent])
      unfold execOp
      simp only [ho, Sem.run_bind]
      generalize a.eval x = X at hvx ⊢
      generalize a.eval y = Y at hvy ⊢
      cases hvy
      cases hvx with
      | sliceE _ _ _ _ _ _ _ => exact absurd rfl hm
      | sliceS hb _ _ _ _ cap' hc hz =>
        rename_i b
        have he' : eqv P 10000 t (.slice (some ⟨b, s + off, none⟩) m cap') (.slice none 0 0) = some c := by rw [← he]; exact eqv_slice rfl rfl
        simp [eqGuard, binOp, equal_run he']
  · simp at hx

theorem xmake_ok {P : Program} {ρ : Operand → Value} {n : Nat} {hs : List Hint} {t : TypeId} {l c : Operand} {out : Out} {o : Oper} {h : HF} (hx : xmake P ρ n hs t l c = some out) (hob : ∀ q ∈ out.ob, q) (ho : o.op = .makeSlice t l c) : OpSpec P o ρ h out := by
  unfold xmake at hx
  split at hx
  case h_2 => simp at hx
  case h_1 L C S hs' ka a kb b e hρl hρc hu =>
  split at hx
  case h_2 => simp at hx
  case h_1 inf hi =>
  split at hx
  case h_2 => simp at hx
  case h_1 k hz =>
  cases hcc : (Nat.beq inf.size 1 && Nat.ble L C && Nat.ble 1 C && Nat.ble C 1048576 && Nat.ble inf.bytes 1048576) <;> rw [hcc] at hx
  · simp at hx
  simp only [cond_true, Option.some.injEq] at hx; subst hx
  simp only [Bool.and_eq_true] at hcc
  obtain ⟨⟨⟨⟨c1, c2⟩, c3⟩, c4⟩, c5⟩ := hcc
  have c1 := beq_tt c1; have c2 := ble_tt c2; have c3 := ble_tt c3; have c4 := ble_tt c4; have c5 := ble_tt c5
  have ha : a = (L : Int) := hob _ (by simp [VX.newBlk])
  have hb : b = (C : Int) := hob _ (by simp [VX.newBlk])
  have hS : Noughts k C S := hob _ (by simp [VX.newBlk])
  subst ha; subst hb
  refine .newBlk' (t := e) fun μ ac w hg hxs => ⟨List.replicate C (.int k 0), .slice (some ⟨w.heap.size, 0, none⟩) L C, fun μ' => ?_, ?_, fun μ' hm hsz => ?_⟩
  · refine ⟨_, _, _, rfl, fun _ => ⟨rfl, rfl, by simpa [Blk.size] using hS.1⟩, fun off v hv => ?_⟩
    obtain ⟨h1, rfl⟩ := hS.2 off v hv
    exact ⟨.int k 0, by simp [h1], .int _ _⟩
  · have hvl := hxs l (by rw [ho]; simp [Op.operands])
    have hvc := hxs c (by rw [ho]; simp [Op.operands])
    rw [hρl] at hvl
    rw [hρc] at hvc
    have w1 : IntKind.i64.wrap (L : Int) = (L : Int) := by rw [IntKind.wrap_i64]; omega
    have w2 : IntKind.i64.wrap (C : Int) = (C : Int) := by rw [IntKind.wrap_i64]; omega
    have hbC : (inf.bytes : Int) * (C : Int) ≤ 2 ^ 48 := by
      have h1 : inf.bytes * C ≤ 1048576 * 1048576 := Nat.mul_le_mul c5 c4
      have h2 : ((inf.bytes * C : Nat) : Int) ≤ ((1048576 * 1048576 : Nat) : Int) := by exact_mod_cast h1
      rw [Int.natCast_mul] at h2
      have h3 : ((1048576 * 1048576 : Nat) : Int) ≤ 2 ^ 48 := by decide
      omega
    have hbL : (inf.bytes : Int) * (L : Int) ≤ 2 ^ 48 := by
      have h1 : inf.bytes * L ≤ 1048576 * 1048576 := Nat.mul_le_mul c5 (by omega)
      have h2 : ((inf.bytes * L : Nat) : Int) ≤ ((1048576 * 1048576 : Nat) : Int) := by exact_mod_cast h1
      rw [Int.natCast_mul] at h2
      have h3 : ((1048576 * 1048576 : Nat) : Int) ≤ 2 ^ 48 := by decide
      omega
    unfold execOp
    simp only [ho, Sem.run_bind]
    generalize ac.eval l = X at hvl
    generalize ac.eval c = Y at hvc
    cases hvl
    cases hvc
    have hn1 : ¬ ((C : Int) < 0) := by omega
    have hn2 : ¬ ((L : Int) < 0) := by omega
    have hn3 : ¬ ((281474976710656 : Int) < (inf.bytes : Int) * (C : Int)) := by omega
    have hn4 : ¬ ((C : Int) < (L : Int)) := by omega
    have hC0 : C ≠ 0 := by omega
    have hzc : (Value.int k 0).cells = #[Value.int k 0] := rfl
    have hC1 : ¬ ((C : Int) ≤ 0) := by omega
    simp [Instr.makeSlice, underlying_run hu, asInt, asIntOf, hzc, hC1, typeInfo, hi, w1, w2, hn1, hn2, hn3, hn4, run_askRoom, sizeOf, c1, zeroValue_run hi hz, newRow, newObj, Sem.run, hC0]
    have hfin : (Array.range C).map (fun x => ([Value.int k 0] : List Value)[x % 1]?.getD default) = Array.replicate C (.int k 0) := by
      apply Array.ext'
      simp only [Array.toList_map, Array.toList_range, Array.toList_replicate]
      rw [List.eq_replicate_iff]
      refine ⟨by simp, fun v hv => ?_⟩
      obtain ⟨i, _, rfl⟩ := List.mem_map.1 hv
      rw [Nat.mod_one]; rfl
    rw [hfin]
  · exact VRel.sliceS hm 0 0 L 1 C c2 (.inr (by rw [hsz]; simp))

theorem xappendN_ok {P : Program} {ρ : Operand → Value} {h : HF} {n : Nat} {l : List Seg} {hs : List Hint} {c : Call} {out : Out} {o : Oper} (hx : xappendN P ρ n l hs c = some out) (hob : ∀ q ∈ out.ob, q) (ho : o.op = .call c) (hc : c.callee = .builtin .append) : OpSpec P o ρ h out := by
  unfold xappendN at hx
  split at hx
  case h_2 => simp at hx
  case h_1 tx ty x y hty hargs =>
  split at hx
  case h_2 => simp at hx
  case h_1 e e' hux huy =>
  split at hx
  case h_2 => simp at hx
  case h_1 inf hi =>
  split at hx
  case h_2 => simp at hx
  case h_1 f hρx hρy =>
  simp only [Option.some.injEq] at hx
  subst hx
  have htys : c.argTypes = #[tx, ty] := by apply Array.ext'; simpa using hty
  have hexec : ∀ (a : Act) (w w' : World) (rv : Value), (Builtin.append_ #[tx, ty] o.type #[a.eval x, a.eval y]).run P w = .ok rv w' → (execOp a.eval o).run P w = .ok (.value rv) w' := by
    intro a w w' rv hrun
    have two : c.args.map a.eval = #[a.eval x, a.eval y] := by apply Array.ext'; simp [hargs]
    unfold execOp
    simp only [ho, resolve, hc, Sem.run_bind, Sem.run_pure, Result.andThen_ok, invoke, builtin, two, htys, hrun]
  have hops : ∀ (μ : Mu) (a : Act), (∀ q ∈ o.op.operands, VRel μ (ρ q) (a.eval q)) → VRel μ (ρ x) (a.eval x) ∧ VRel μ (ρ y) (a.eval y) := by
    intro μ a hxs
    have hm : x ∈ c.args ∧ y ∈ c.args := by
      constructor
      · have : x ∈ c.args.toList := by rw [hargs]; simp
        simpa using this
      · have : y ∈ c.args.toList := by rw [hargs]; simp
        simpa using this
    exact ⟨hxs x (by rw [ho]; simp [Op.operands, Call.operands, hc, hm.1]), hxs y (by rw [ho]; simp [Op.operands, Call.operands, hc, hm.2])⟩
  have hf : f = true := hob _ (by simp)
  have hl0 : segsSize l = 0 := hob _ (by simp)
  intro μ a w hg hxs hr hn K Q hk
  obtain ⟨hvx, hvy⟩ := hops μ a hxs
  rw [hρx] at hvx
  rw [hρy] at hvy
  have hnn : μ n = none := hn n (by simp)
  obtain ⟨ad, hX⟩ : ∃ ad, a.eval x = .slice ad 0 0 := by
    obtain ⟨_, hl⟩ := hvx.lst_inv hf
    rcases hl with ⟨_, hl⟩ | ⟨_, _, ad, hl⟩ | ⟨h0, _⟩
    · exact ⟨_, hl⟩
    · exact ⟨_, hl⟩
    · exact absurd rfl h0
  generalize hY : a.eval y = Y at hvy
  have hsrc : Src P inf.size ty Y 0 [] w := by
    cases hvy with
    | emp ad' cap' => exact Src.ofSlice w huy _ 0 cap' [] (by simp) (by simp) (by simp)
  have hrun := run_append_none w tx ty o.type e inf hux hi ad Y hsrc
  rw [← hX, ← hY] at hrun
  have hrun := hexec a w _ _ hrun
  rw [hX] at hrun
  obtain ⟨hr1, hk1⟩ := hr.bare (B := { segs := l, ty := e, ro := false }) hnn hl0
  exact wp_of_value hrun (hk μ _ _ ⟨fun _ _ h => h, fun _ _ _ => rfl, fun _ _ h => h⟩ (fun _ _ => rfl) hr1 (.sliceE _ _ _ _ _ _ (.inr rfl)) hk1)

/-- A block is laid anew, whole. -/
theorem Rep.anew {μ : Mu} {h : HF} {w : World} (r : Rep μ h w) {i b : Nat} {A : Blk} {S : List Seg} {us : List Value} (hi : h i = some A) (hro : A.ro = false) (hb : μ i = some b) (hS : segsSize S = us.length) (hA : A.size = us.length)
    (hv : ∀ o v, segsGet? S o = some v → ∃ u, us[o]? = some u ∧ VRel μ v u) :
    Rep μ (upd1 h (i, .blk { A with segs := S })) (World.putCells w b 0 us) ∧ Keeps μ h w μ (upd1 h (i, .blk { A with segs := S })) (World.putCells w b 0 us) := by
  obtain ⟨b', hb', cs, t, fr, he, hrw, hcs⟩ := r.blk i A hi (.inr (by rw [hb]; exact fun h => nomatch h))
  rw [hb] at hb'
  obtain rfl : b = b' := by simpa using hb'
  obtain ⟨rfl, rfl, hsz⟩ := hrw hro
  obtain ⟨ds, a1, a2, a3, a4, a5, a6, a7, a8, a9⟩ := putCells_heap b us 0 w cs A.ty he (by omega)
  have hcase : ∀ {j C}, upd1 h (i, .blk { A with segs := S }) j = some C → (j = i ∧ C = { A with segs := S }) ∨ (j ≠ i ∧ h j = some C) := by
    intro j C hj
    by_cases e : j = i
    · subst e; rw [upd1_same] at hj; exact .inl ⟨rfl, (Option.some.inj hj).symm⟩
    · rw [upd1_other e] at hj; exact .inr ⟨e, hj⟩
  constructor
  · refine ⟨?_, ?_, ?_, ?_, ?_, ?_⟩
    · intro j C hj hne
      rcases hcase hj with ⟨rfl, rfl⟩ | ⟨hji, hj⟩
      · refine ⟨b, hb, ds, A.ty, (0, 0), a1, fun _ => ⟨rfl, rfl, by simp only [Blk.size]; rw [hS, a2]; omega⟩, fun off v hv' => ?_⟩
        obtain ⟨u, hu, hvu⟩ := hv off v hv'
        have hlt := (List.getElem?_eq_some_iff.1 hu).1
        refine ⟨u, ?_, hvu⟩
        have := a4 off hlt
        rw [Nat.zero_add] at this
        rw [this]; exact hu
      · obtain ⟨c, hc, cs', t', fr', e', h1, h2⟩ := r.blk j C hj hne
        refine ⟨c, hc, ?_⟩
        by_cases hcb : c = b
        · subst hcb
          have := (r.apart j i C A c hj hi hc hb hji).2
          rw [hro] at this; cases this
        · exact ⟨cs', t', fr', by rw [a9 c hcb]; exact e', h1, h2⟩
    · intro j k C D c hj hk hjc hkc hjk
      rcases hcase hj with ⟨ej, eC⟩ | ⟨hji, hj'⟩ <;> rcases hcase hk with ⟨ek, eD⟩ | ⟨hki, hk'⟩
      · exact absurd (ej.trans ek.symm) hjk
      · subst ej
        have := (r.apart _ k A D c hi hk' hjc hkc hjk).1
        rw [hro] at this; cases this
      · subst ek
        have := (r.apart j _ C A c hj' hi hjc hkc hjk).2
        rw [hro] at this; cases this
      · exact r.apart j k C D c hj' hk' hjc hkc hjk
    · intro j c hj
      rw [a5]; exact r.bound j c hj
    · intro j C c hj hCr hjc
      rcases hcase hj with ⟨rfl, rfl⟩ | ⟨hji, hj⟩
      · obtain ⟨cs', t', fr', e', hs⟩ := r.size j A c hi hro hjc
        rw [hb] at hjc
        obtain rfl : b = c := by simpa using hjc
        rw [he] at e'; cases e'
        exact ⟨ds, A.ty, (0, 0), a1, a2.trans hs⟩
      · obtain ⟨cs', t', fr', e', hs⟩ := r.size j C c hj hCr hjc
        by_cases hcb : c = b
        · subst hcb
          rw [he] at e'; cases e'
          exact ⟨ds, A.ty, (0, 0), a1, a2.trans hs⟩
        · exact ⟨cs', t', fr', by rw [a9 c hcb]; exact e', hs⟩
    · intro c cs' hf
      have hcb : c ≠ b := by
        rintro rfl
        rw [r.nofz i A c hi hro hb] at hf
        cases hf
      rw [a9 c hcb]
      exact r.frz c cs' hf
    · intro j C c hj hCr hjc
      rcases hcase hj with ⟨rfl, rfl⟩ | ⟨hji, hj⟩
      · exact r.nofz j A c hi hro hjc
      · exact r.nofz j C c hj hCr hjc
  · refine ⟨a6, a7, a8, by omega, ?_, ?_, fun _ _ => rfl, fun _ _ h => h, fun _ _ h => .inl h⟩
    · intro k hk hno
      exact a9 k fun hkb => hno ⟨i, A, hi, hro, by rw [hkb]; exact hb⟩
    · intro j C k hj hjk _
      rcases hcase hj with ⟨rfl, rfl⟩ | ⟨hji, hj⟩
      · exact ⟨j, A, hi, hjk, fun _ => hro⟩
      · exact ⟨j, C, hj, hjk, id⟩

theorem gets_win {B : Blk} : ∀ (n o : Nat), (∀ j, j < n → ∃ v, segsGet? B.segs (o + j) = some v) → gets B o n = some (winL (fun j => (segsGet? B.segs j).getD (.tuple ⟨[]⟩)) o n)
  | 0, _, _ => rfl
  | n + 1, o, h => by
    obtain ⟨v, hv⟩ := h 0 (by omega)
    rw [Nat.add_zero] at hv
    have := gets_win n (o + 1) (fun j hj => by rw [show o + 1 + j = o + (j + 1) by omega]; exact h (j + 1) (by omega))
    simp only [gets, Blk.get?, hv, this, winL, Option.getD_some]

theorem xwhole_ok {P : Program} {ρ : Operand → Value} {H : HF} {n : Nat} {l : List Seg} {hs : List Hint} {o : Oper} {out : Out} (hx : xwhole P ρ H n l hs o = some out) (hob : ∀ q ∈ out.ob, q) (h : HF) (hrd : ∀ i ∈ out.rd, h i = H i) : OpSpec P o ρ h out := by
  unfold xwhole at hx
  split at hx
  · rename_i t p ho
    split at hx
    · rename_i i hρ
      split at hx
      · rename_i B m hB ha hs
        simp only [Option.some.injEq] at hx; subst hx
        have hst : AllStor B.segs m := hob _ (by simp)
        refine .quiet rfl rfl fun μ a w hg hxs hr => ?_
        have hp := hxs p (by rw [ho]; simp [Op.operands])
        rw [hρ] at hp
        have hBh : h i = some B := by rw [hrd i (by simp)]; exact hB
        obtain ⟨b, hb, cs, ty, fr, he, _, hcs⟩ := hr.blk i B hBh (.inr hp.ptr_ne)
        generalize hX : a.eval p = X at hp
        cases hp with
        | ptr hb' _ =>
          rw [hb] at hb'
          obtain rfl : b = _ := by simpa using hb'
          have hg' := gets_win (B := B) m 0 (fun j hj => by obtain ⟨v, hv, _⟩ := hst j hj; exact ⟨v, by rw [Nat.zero_add]; exact hv⟩)
          obtain ⟨rs, h1, h2, h3⟩ := gets_spec hcs m 0 _ hg'
          refine ⟨.agg ⟨rs⟩, ?_, .agg h1⟩
          have hrun := loadAt_run_agg (w := w) (b := b) (o := 0) ha hs (rs := rs) (by rw [← h1.length, h2]) (fun j x hx => cell_of he (h3 j x hx))
          unfold execOp
          simp only [ho, hX, Sem.run_bind, hrun, Result.andThen_ok, Sem.run_pure]
      · simp at hx
    · simp at hx
  · rename_i t p x ho
    split at hx
    · rename_i j hρ
      split at hx
      · rename_i C m hC hs
        cases hro : C.ro <;> rw [hro] at hx
        · simp only [Bool.not_false, cond_true, Option.some.injEq] at hx; subst hx
          have e1 : ρ x = .agg ⟨cellsOf l m⟩ := hob _ (by simp)
          have e2 : segsSize l = m := hob _ (by simp)
          have e3 : C.size = m := hob _ (by simp)
          have e4 : AllStor l m := hob _ (by simp)
          intro μ a w hg hxs hr hn K Q hk
          have hp := hxs p (by rw [ho]; simp [Op.operands])
          have hv := hxs x (by rw [ho]; simp [Op.operands])
          rw [hρ] at hp
          rw [e1] at hv
          have hCh : h j = some C := by rw [hrd j (by simp)]; exact hC
          obtain ⟨b, hb, cs, ty, fr, he, hrw, hcs⟩ := hr.blk j C hCh (.inr hp.ptr_ne)
          obtain ⟨rfl, rfl, hsz⟩ := hrw hro
          generalize hX : a.eval p = X at hp
          generalize hY : a.eval x = Y at hv
          cases hp with
          | ptr hb' _ =>
            rw [hb] at hb'
            obtain rfl : b = _ := by simpa using hb'
            cases hv with
            | agg hvs =>
              rename_i rs
              have hlen : rs.length = m := by rw [← hvs.length]; exact winL_len _ _ _
              have hstor : (cellsOf l m).all storable = true := by
                rw [List.all_eq_true]
                intro u hu
                obtain ⟨q, hq, rfl⟩ := List.mem_iff_getElem.1 hu
                have hq' : q < m := by unfold cellsOf at hq; rw [winL_len] at hq; exact hq
                have hw := winL_get (fun j => (segsGet? l j).getD (.tuple ⟨[]⟩)) m 0 q
                unfold cellsOf at hq ⊢
                rw [List.getElem?_eq_getElem hq, if_pos hq', Nat.zero_add] at hw
                obtain ⟨v, hv1, hv2⟩ := e4 q hq'
                rw [hv1] at hw
                rw [Option.some.inj hw]; exact hv2
              have hrst : rs.all storable = true := hvs.storables hstor
              have hrun := storeAt_run (P := P) (t := t) (w := w) (b := b) (o := 0) (r := .agg ⟨rs⟩) hs hlen ⟨cs, he, rfl⟩ (by rw [Nat.zero_add, ← e3]; exact hsz) hrst
              obtain ⟨hrep, hkeep⟩ := hr.anew (S := l) (us := rs) hCh hro hb (by rw [e2, hlen]) (by rw [e3, hlen]) (fun q v hv' => by
                have hq : q < m := by have : q < segsSize l := segsGet_lt hv'; omega
                have hw := winL_get (fun j => (segsGet? l j).getD (.tuple ⟨[]⟩)) m 0 q
                rw [if_pos hq, Nat.zero_add, hv'] at hw
                exact hvs.get q v hw)
              rw [hro] at hrep hkeep
              refine wp_of_skip (w' := World.putCells w b 0 rs) ?_ (hk μ _ undef (Mu.le_refl μ) (fun _ _ => rfl) hrep (.junk _) hkeep)
              unfold execOp
              simp only [ho, hX, hY, Sem.run_bind, hrun, Result.andThen_ok, Sem.run_pure]
              rfl
        · simp at hx
      · simp at hx
    · simp at hx
  · simp at hx

end Go.Proofs.Ytgnhhnmpeklciaa.VX
