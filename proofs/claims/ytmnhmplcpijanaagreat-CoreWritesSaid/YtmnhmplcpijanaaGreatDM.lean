/-
  CoreWrites: what an operation writes, and when. No condition.
-/
import Derived.Test.YtmnhmplcpijanaaGreatDL
import Derived.Test.YtmnhmplcpijanaaGreatDK
namespace Go.Proofs.YtmnhmplcpijanaaGreat
open Go VX
set_option linter.unusedVariables false
set_option linter.unusedSimpArgs false
set_option maxRecDepth 100000

/-- An access, with the byte that stands there behind it. -/
def ann (P : List Int) (L : List RAcc) (a : Acc) : Acc := if a.Put = true then a else { a with B := IntKind.u8.wrap (getF P L (IntKind.i64.wrap a.At)) }
def annL (P : List Int) : List RAcc → List Acc → List Acc
  | _, [] => []
  | L, a :: r => ann P (memOf L a) a :: annL P (memOf L a) r
theorem annL_len (P : List Int) : ∀ (l : List Acc) (L : List RAcc), (annL P L l).length = l.length
  | [], _ => rfl
  | a :: r, L => by simp only [annL, List.length_cons, annL_len P r]

theorem cyc_mem {c c1 : Core} {P : List Int} {L L1 : List RAcc} {a : Acc} (h : cycleF c P L false false = (c1, L1, a)) : L1 = memOf L a := by
  have e : (cycleF c P L false false).2.1 = memOf L (cycleF c P L false false).2.2 := by
    unfold cycleF memOf putF
    by_cases h : (c_Wants c).Put = true
    · rw [if_pos h]; rw [if_pos h]
    · rw [if_neg h]; rw [if_neg h]
  rw [h] at e; exact e

section
variable {N d : Nat} {p : Nat → Int} {r : Regs}
theorem writes_go {c c1 : Core} {L L1 : List RAcc} {a : Acc} {l : List Acc} (h : cycleF c (cutF N d p 100) L false false = (c1, L1, a)) (h1 : l.length < 20) (h2 : L.length < 1000) (hv : Inv c) (hn : l = [] ∨ c.fresh = false) :
    lawWrites_L1nn N d p r (L, l, c) (.inl (L1, l ++ [ann (cutF N d p 100) L1 a], c1)) := by
  have hl1 : L1.length ≤ L.length + 1 := by have := len_cycle c (cutF N d p 100) L false false; rw [h] at this; exact this
  have e : ∀ x, x = ann (cutF N d p 100) L1 a → ((cycleF c (cutF N d p 100) L false false).2.1, l ++ [x], (cycleF c (cutF N d p 100) L false false).1) = (L1, l ++ [ann (cutF N d p 100) L1 a], c1) := by intro x hx; rw [h, hx]
  have ej : ∀ f : Acc × Bool × Bool → Acc, (∀ y, f y = if y.2.2 = true then ({ y.1 with B := (IntKind.u8.wrap (getF (cutF N d p 100) ((cycleF c (cutF N d p 100) L false false).2.1) (IntKind.i64.wrap y.1.At))) } : Acc) else y.1) →
      f ((cycleF c (cutF N d p 100) L false false).2.2, ((cycleF c (cutF N d p 100) L false false).2.2).Put, (!(((cycleF c (cutF N d p 100) L false false).2.2).Put))) = ann (cutF N d p 100) L1 a := by
    intro f hf
    rw [hf, h]
    obtain ⟨At, Put, B⟩ := a
    cases Put <;> rfl
  have a1 : L.length + 1 ≤ 1048576 := by omega
  have a2 : (cycleF c (cutF N d p 100) L false false).2.1.length ≤ 1048576 := by rw [h]; show L1.length ≤ _; omega
  have a3 : l.length + 1 ≤ 1048576 := by omega
  by_cases hz : l = []
  · subst hz
    have := lawWrites_L1nn.p1 (N_p := N) (d_p := d) (p := p) (r := r) (xd := (L, [], c)) (by simp) hv a1 hv.ok a2 a3
    exact Eq.mp (congrArg (fun z => lawWrites_L1nn N d p r (L, [], c) (Sum.inl z)) (e _ (ej (lawWrites_J2nny N d p r (L, [], c)) (fun y => rfl)))) this
  · have hlen : l.length ≠ 0 := by simpa using hz
    have := lawWrites_L1nn.p2 (N_p := N) (d_p := d) (p := p) (r := r) (xd := (L, l, c)) (by simp; omega) (by show (!(c_Ready c)) = true; rw [ready_fresh, hn.resolve_left hz]; rfl) (decide_eq_true (by show ((l.length : Nat) : Int) < 20; omega)) hv a1 hv.ok a2 a3
    exact Eq.mp (congrArg (fun z => lawWrites_L1nn N d p r (L, l, c) (Sum.inl z)) (e _ (ej (lawWrites_J2nnnyy N d p r (L, l, c)) (fun y => rfl)))) this

theorem writes_tr {c c' : Core} {L L' : List RAcc} {xs : List Acc} (t : Tr (cutF N d p 100) c L xs c' L') : ∀ (l : List Acc), l.length + xs.length ≤ 20 → L.length + xs.length ≤ 1000 → Inv c → (l = [] ∨ c.fresh = false) →
    Reach (lawWrites_L1nn N d p r) (L, l, c) (L', l ++ annL (cutF N d p 100) L xs, c') := by
  induction t with
  | @one c c' L L' a h hf =>
    intro l h1 h2 hv hn
    simp only [List.length_cons, List.length_nil] at h1 h2
    have := writes_go (r := r) (l := l) h (by omega) (by omega) hv hn
    rw [cyc_mem h] at this ⊢
    exact .step this (.refl _)
  | @more c c1 c' L L1 L' a xs h hf t ih =>
    intro l h1 h2 hv hn
    simp only [List.length_cons] at h1 h2
    have hv1 : Inv c1 := by have := inv_cycle hv (cutF N d p 100) L false false; rw [h] at this; exact this
    have hl1 : L1.length ≤ L.length + 1 := by have := len_cycle c (cutF N d p 100) L false false; rw [h] at this; exact this
    have st := writes_go (r := r) (l := l) h (by omega) (by omega) hv hn
    have := ih (l ++ [ann (cutF N d p 100) L1 a]) (by simp; omega) (by omega) hv1 (.inr hf)
    rw [List.append_assoc] at this
    rw [cyc_mem h] at this st
    exact .step st this

theorem puts_loop (r1 : (List RAcc) × (List Acc) × Core) (hl : r1.2.1.length ≤ 1000) : ∀ (n i : Nat), i + n = r1.2.1.length → LoopR (lawWrites_L3nn N d p r r1) ((r1.2.1.take i).filter (·.Put), (i : Int)) (r1.2.1.filter (·.Put), (r1.2.1.length : Int))
  | 0, i, h => by
    have : i = r1.2.1.length := by omega
    subst this
    rw [List.take_length]
    exact .last (.p3 (decide_eq_false (by show ¬ (((r1.2.1.length : Nat) : Int) < ((r1.2.1.length : Nat) : Int)); omega)))
  | n + 1, i, h => by
    have ih := puts_loop r1 hl n (i + 1) (by omega)
    have hlt : i < r1.2.1.length := by omega
    have hd : (decide (((i : Int) : Int) < ((r1.2.1.length : Nat) : Int))) = true := decide_eq_true (by omega)
    have hw : IntKind.i64.wrap ((i : Int) + 1) = ((i + 1 : Nat) : Int) := by rw [IntKind.wrap_i64]; omega
    have e : r1.2.1.take (i + 1) = r1.2.1.take i ++ [List.getD r1.2.1 i Acc.nil] := by
      rw [List.take_add_one, List.getElem?_eq_getElem hlt]; simp [hlt]
    have hf : ((r1.2.1.take i).filter (·.Put)).length ≤ 1000 := Nat.le_trans (List.length_filter_le _ _) (by rw [List.length_take]; omega)
    rw [e, List.filter_append] at ih
    cases hp : (List.getD r1.2.1 i Acc.nil).Put with
    | true =>
      have ef : [List.getD r1.2.1 i Acc.nil].filter (·.Put) = [List.getD r1.2.1 i Acc.nil] := by rw [List.filter_cons_of_pos hp]; rfl
      rw [ef] at ih
      have st := lawWrites_L3nn.p1 (N_p := N) (d_p := d) (p := p) (r := r) (r1 := r1) (xd := ((r1.2.1.take i).filter (·.Put), (i : Int))) hd (by omega) hp (Nat.le_trans (Nat.add_le_add_right hf 1) (by decide))
      simp only [hw] at st
      exact .more st ih
    | false =>
      have ef : [List.getD r1.2.1 i Acc.nil].filter (·.Put) = [] := by rw [List.filter_cons_of_neg (by rw [hp]; decide)]; rfl
      rw [ef, List.append_nil] at ih
      have st := lawWrites_L3nn.p2 (N_p := N) (d_p := d) (p := p) (r := r) (r1 := r1) (xd := ((r1.2.1.take i).filter (·.Put), (i : Int))) hd (by omega) hp
      simp only [hw] at st
      exact .more st ih
end

theorem annL_reads (P : List Int) (L : List RAcc) : ∀ (pre rest : List Acc), (∀ x ∈ pre, x.Put = false) → annL P L (pre ++ rest) = pre.map (ann P L) ++ annL P L rest
  | [], rest, _ => rfl
  | a :: pre, rest, h => by
    have ha : memOf L a = L := by unfold memOf; rw [if_neg (by rw [h a List.mem_cons_self]; decide)]
    simp only [List.cons_append, annL, ha, List.map_cons, annL_reads P L pre rest (fun x hx => h x (List.mem_cons_of_mem _ hx))]
theorem ann_put (P : List Int) (L : List RAcc) (a : Acc) : (ann P L a).Put = a.Put := by unfold ann; split <;> rfl
theorem filter_reads {P : List Int} {L : List RAcc} {pre : List Acc} (h : ∀ x ∈ pre, x.Put = false) : (pre.map (ann P L)).filter (·.Put) = [] := by
  rw [List.filter_eq_nil_iff]
  intro x hx
  obtain ⟨y, hy, rfl⟩ := List.mem_map.1 hx
  rw [ann_put, h y hy]; decide
theorem getD_at {α : Type} (X Y : List α) (j : Nat) (d : α) : List.getD (X ++ Y) (X.length + j) d = List.getD Y j d := by
  simp only [List.getD_eq_getElem?_getD]
  rw [List.getElem?_append_right (by omega)]
  congr 2; omega
theorem store_P (u : Un) (P op : Int) : uStore { u with P := P } op = uStore u op := rfl
theorem kind_6 {op : Int} (h : aKind op ≠ 6) : op ≠ 69 := by rintro rfl; exact h (by rw [kind_of]; rfl)

theorem writes_true (N d : Nat) (p : Nat → Int) (r : Regs) (wR : Regs.ok r) (hN : (N : Int) ≤ 9223372036854775807) : FnSpec Tryz.prog 3 1001 [.slice (some ⟨1000, 0, (some d)⟩) N 0, Regs.enc r] [(1000, ⟨[.gap d, .ints .u8 N p], 5, true⟩)] (.bool true) [] := by
  have hz : (!awakeF) = false := by rw [awake_tt]; rfl
  have hs := start_from wR
  generalize hq : ({ r with U := { r.U with P := right r.U.P } } : Regs) = q at hs
  have hb : codeAt (cutF N d p 100) [] q = IntKind.u8.wrap (getF (cutF N d p 100) ([] : List RAcc) (IntKind.i64.wrap r.PC)) := by rw [← hq]; rfl
  have z1 : (List.length ([] : List RAcc)) ≤ 1048576 := by decide
  by_cases h6 : aKind (codeF (codeAt (cutF N d p 100) [] q)).Op = 6
  · exact lawWrites_p1 N d p r wR hN hz z1 (by rw [← hb, h6]; rfl)
  have hk := kinded h6
  have key2 := lawWrites_p2 N d p r wR hN hz z1
  have key3 := lawWrites_p3 N d p r wR hN hz z1
  have key4 := lawWrites_p4 N d p r wR hN hz z1
  unfold lawWrites_J4nnn lawWrites_J4nny at *
  rw [← hb] at key2 key3 key4
  obtain ⟨c', t, S⟩ := instr hs (cutF N d p 100) [] (kind_6 h6)
  generalize hP : cutF N d p 100 = P at t hk hb key2 key3 key4 h6
  generalize codeAt P [] q = b at hk hb key2 key3 key4 h6
  obtain ⟨pre, p1, p2, p3, hcase⟩ := hk
  generalize hL' : (runP P (iprog q) []).2.1 = L' at t
  generalize hl : (runP P (iprog q) []).2.2 = xs at t hcase
  have hlen : xs.length ≤ 12 := by
    rcases hcase with ⟨_, a, _, e⟩ | ⟨_, _, a, n, _, e⟩ | ⟨_, _, e⟩ <;> have := congrArg List.length e <;> (try simp only [List.length_append, List.length_cons, List.length_nil] at this) <;> omega
  have hlen0 : xs ≠ [] := by
    intro h0
    rw [h0] at hcase
    rcases hcase with ⟨_, a, _, e⟩ | ⟨_, _, a, n, _, e⟩ | ⟨_, _, e⟩ <;> have := congrArg List.length e <;> (try simp only [List.length_append, List.length_cons, List.length_nil] at this) <;> omega
  -- the loops
  have R := writes_tr (r := r) (hP ▸ t) [] (by simp; omega) (by simp; omega) hs.inv (.inl rfl)
  rw [List.nil_append, hP] at R
  have hal := annL_len P xs []
  have l1 : LoopR (lawWrites_L1nn N d p r) ([], [], coreFrom r) (L', annL P [] xs, c') := by
    refine R.loop (.last ?_)
    refine .p4 ?_ (by show (!(c_Ready c')) = false; rw [ready_fresh, S.f]; rfl)
    have : (annL P [] xs).length ≠ 0 := by rw [hal]; exact fun h => hlen0 (List.length_eq_zero_iff.1 h)
    simp; simpa using this
  have l3 : LoopR (lawWrites_L3nn N d p r (L', annL P [] xs, c')) ([], 0) ((annL P [] xs).filter (·.Put), ((annL P [] xs).length : Int)) := puts_loop (N := N) (d := d) (p := p) (r := r) (L', annL P [] xs, c') (by show (annL P [] xs).length ≤ 1000; omega) (annL P [] xs).length 0 (Nat.zero_add _)
  have hst : uStore q.U (codeF b).Op = uStore r.U (codeF b).Op := by rw [← hq]; rfl
  rcases hcase with ⟨k3, a, wa, e⟩ | ⟨k2, hm, a, n, wa, e⟩ | ⟨k3, k2, e⟩
  · -- it stores
    have el : annL P [] xs = pre.map (ann P []) ++ [wr a (uStore q.U (codeF b).Op)] := by rw [e, annL_reads P [] pre _ p1]; rfl
    have ef : (annL P [] xs).filter (·.Put) = [wr a (uStore q.U (codeF b).Op)] := by rw [el, List.filter_append, filter_reads p1]; rfl
    rw [ef] at l3
    have hi : IntKind.i64.wrap (((annL P [] xs).length : Int) - 1) = ((pre.map (ann P [])).length : Int) := by
      rw [el, List.length_append, i64_small (by simp) (by simp; omega)]; simp
    have hg : List.getD (annL P [] xs) (Int.toNat (IntKind.i64.wrap (((annL P [] xs).length : Int) - 1))) Acc.nil = wr a (uStore q.U (codeF b).Op) := by
      rw [hi, Int.toNat_natCast, el]; exact getD_at (pre.map (ann P [])) [wr a (uStore q.U (codeF b).Op)] 0 _
    refine of_eq (key2 (by rw [show ((aKind (codeF b).Op : Int) == 6) = false from by simpa using h6]) (L', annL P [] xs, c') l1 ([wr a (uStore q.U (codeF b).Op)], ((annL P [] xs).length : Int)) l3 (by simpa using k3) (by
      show 0 ≤ IntKind.i64.wrap (((annL P [] xs).length : Int) - 1) ∧ IntKind.i64.wrap (((annL P [] xs).length : Int) - 1) < (((annL P [] xs).length : Nat) : Int)
      rw [hi, el, List.length_append]; simp; omega) (Nat.zero_lt_succ _)) ?_
    rw [if_pos (show (((([wr a (uStore q.U (codeF b).Op)] : List Acc).length : Nat) : Int) == 1) = true from rfl)]
    show (if (((List.getD (annL P [] xs) (Int.toNat (IntKind.i64.wrap (((annL P [] xs).length : Int) - 1))) Acc.nil).At == a) && (((List.getD (annL P [] xs) (Int.toNat (IntKind.i64.wrap (((annL P [] xs).length : Int) - 1))) Acc.nil).Put == true) && (((List.getD (annL P [] xs) (Int.toNat (IntKind.i64.wrap (((annL P [] xs).length : Int) - 1))) Acc.nil).B == uStore q.U (codeF b).Op) && true))) = true then uStore q.U (codeF b).Op == uStore r.U (codeF b).Op else false) = true
    rw [hg, hst]; simp [wr]
  · -- it changes
    have eg : ann P [] (rd a) = ⟨a, false, byteOf P [] (rd a)⟩ := rfl
    have el : annL P [] xs = pre.map (ann P []) ++ [⟨a, false, byteOf P [] (rd a)⟩, wr a (byteOf P [] (rd a)), wr a n] := by rw [e, annL_reads P [] pre _ p1]; rfl
    have ef : (annL P [] xs).filter (·.Put) = [wr a (byteOf P [] (rd a)), wr a n] := by rw [el, List.filter_append, filter_reads p1]; rfl
    rw [ef] at l3
    have hle : (annL P [] xs).length = (pre.map (ann P [])).length + 3 := by rw [el, List.length_append]; rfl
    have hpl : (pre.map (ann P [])).length = pre.length := List.length_map _
    have hi : ∀ j : Nat, j ≤ 2 → IntKind.i64.wrap (((annL P [] xs).length : Int) - ((3 - j : Nat) : Int)) = (((pre.map (ann P [])).length + j : Nat) : Int) := by
      intro j hj
      rw [hle, i64_small (by omega) (by omega)]; omega
    have hg : ∀ j : Nat, j ≤ 2 → List.getD (annL P [] xs) (Int.toNat (IntKind.i64.wrap (((annL P [] xs).length : Int) - ((3 - j : Nat) : Int)))) Acc.nil = List.getD [⟨a, false, byteOf P [] (rd a)⟩, wr a (byteOf P [] (rd a)), wr a n] j Acc.nil := by
      intro j hj; rw [hi j hj, Int.toNat_natCast, el]; exact getD_at (pre.map (ann P [])) _ j _
    have g2 := hg 2 (by omega); have g1 := hg 1 (by omega); have g0 := hg 0 (by omega)
    have i2 := hi 2 (by omega); have i1 := hi 1 (by omega); have i0 := hi 0 (by omega)
    have hin : ∀ (z : Int) (j : Nat), z = (((pre.map (ann P [])).length + j : Nat) : Int) → j ≤ 2 → 0 ≤ z ∧ z < (((annL P [] xs).length : Nat) : Int) := by intro z j hz hj; rw [hz, hle]; omega
    refine of_eq (key3 (by rw [show ((aKind (codeF b).Op : Int) == 6) = false from by simpa using h6]) (L', annL P [] xs, c') l1 ([wr a (byteOf P [] (rd a)), wr a n], ((annL P [] xs).length : Int)) l3 (by rw [k2]; rfl) (by
      rw [if_pos (by rw [k2]; rfl)]; simpa using hm) (hin _ 2 i2 (by omega)) (Nat.lt_succ_self 1) (hin _ 1 i1 (by omega)) (Nat.zero_lt_succ _) (hin _ 0 i0 (by omega))) ?_
    unfold lawWrites_J5nnny
    show (if (decide ((((annL P [] xs).length : Nat) : Int) ≥ 5)) = true then _ else false) = true
    rw [if_pos (decide_eq_true (by rw [hle, hpl]; omega)), if_pos (show (((([wr a (byteOf P [] (rd a)), wr a n] : List Acc).length : Nat) : Int) == 2) = true from rfl)]
    show (if (((List.getD (annL P [] xs) (Int.toNat (IntKind.i64.wrap (((annL P [] xs).length : Int) - ((3 - 2 : Nat) : Int)))) Acc.nil).At == a) && (((List.getD (annL P [] xs) (Int.toNat (IntKind.i64.wrap (((annL P [] xs).length : Int) - ((3 - 2 : Nat) : Int)))) Acc.nil).Put == true) && (((List.getD (annL P [] xs) (Int.toNat (IntKind.i64.wrap (((annL P [] xs).length : Int) - ((3 - 2 : Nat) : Int)))) Acc.nil).B == n) && true))) = true then
      (if (((List.getD (annL P [] xs) (Int.toNat (IntKind.i64.wrap (((annL P [] xs).length : Int) - ((3 - 1 : Nat) : Int)))) Acc.nil).At == a) && (((List.getD (annL P [] xs) (Int.toNat (IntKind.i64.wrap (((annL P [] xs).length : Int) - ((3 - 1 : Nat) : Int)))) Acc.nil).Put == true) && (((List.getD (annL P [] xs) (Int.toNat (IntKind.i64.wrap (((annL P [] xs).length : Int) - ((3 - 1 : Nat) : Int)))) Acc.nil).B == byteOf P [] (rd a)) && true))) = true then
        (if (a == a) = true then
          (if (!((List.getD (annL P [] xs) (Int.toNat (IntKind.i64.wrap (((annL P [] xs).length : Int) - ((3 - 0 : Nat) : Int)))) Acc.nil).Put)) = true then
            (if ((List.getD (annL P [] xs) (Int.toNat (IntKind.i64.wrap (((annL P [] xs).length : Int) - ((3 - 0 : Nat) : Int)))) Acc.nil).At == a) = true then ((List.getD (annL P [] xs) (Int.toNat (IntKind.i64.wrap (((annL P [] xs).length : Int) - ((3 - 0 : Nat) : Int)))) Acc.nil).B == byteOf P [] (rd a)) else false) else false) else false) else false) else false) = true
    rw [g2, g1, g0]; simp [wr]
  · -- it reads
    subst e
    have el : annL P [] xs = xs.map (ann P []) := by have := annL_reads P [] xs [] p1; simpa [annL] using this
    have ef : (annL P [] xs).filter (·.Put) = [] := by rw [el, filter_reads p1]
    rw [ef] at l3
    exact key4 (by rw [show ((aKind (codeF b).Op : Int) == 6) = false from by simpa using h6]) (L', annL P [] xs, c') l1 ([], ((annL P [] xs).length : Int)) l3 (by simpa using k3) (by
      by_cases h2 : aKind (codeF b).Op = 2
      · rw [if_pos (by rw [h2]; rfl)]; simpa [h2] using k2
      · rw [if_neg (by simpa using h2)])
end Go.Proofs.YtmnhmplcpijanaaGreat
