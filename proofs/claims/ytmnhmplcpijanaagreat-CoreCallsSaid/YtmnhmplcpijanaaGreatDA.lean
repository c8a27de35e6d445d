/-
  CoreCounts, of any code, bytes and registers. No condition.
-/
import Derived.Test.YtmnhmplcpijanaaGreatCZ
namespace Go.Proofs.YtmnhmplcpijanaaGreat
open Go VX
set_option linter.unusedVariables false
set_option linter.unusedSimpArgs false
set_option maxRecDepth 100000

theorem i64_small {x : Int} (h0 : 0 ≤ x) (h : x < 1000000) : IntKind.i64.wrap x = x := by rw [IntKind.wrap_i64]; omega
theorem byte_rd {P : List Int} {L : List RAcc} {a v : Int} (ha : rng 65536 a) (h : getF P L a = v) (hv : rng 256 v) : byteOf P L (rd a) = v := by
  show IntKind.u8.wrap (getF P L (IntKind.i64.wrap a)) = v
  rw [i64_small ha.1 (by have := ha.2; omega), h, w8_in hv]
theorem get_none {P : List Int} {L : List RAcc} {a : Int} (h : lastAt a L = none) : getF P L a = if P.length = 0 then 0 else IntKind.i64.wrap (P.getD (Int.toNat (Int.tmod a (P.length : Int))) 0) := by unfold getF; rw [h]
theorem get_one {p a : Int} {L : List RAcc} (hp : rng 256 p) (h : lastAt a L = none) : getF [p] L a = p := by
  rw [get_none h, if_neg (by simp)]
  have : Int.tmod a (([p] : List Int).length : Int) = 0 := Int.tmod_one a
  rw [this]
  exact i64_small hp.1 (by have := hp.2; show p < _; omega)
theorem get_some {P : List Int} {L : List RAcc} {a b : Int} (h : lastAt a L = some b) : getF P L a = b := by unfold getF; rw [h]

theorem ready_fresh (c : Core) : c_Ready c = c.fresh := rfl

theorem counts_loop {b low high p : Int} {r : Regs} {c c' : Core} {L L' : List RAcc} {l : List Acc} (t : Tr [p] c L l c' L') : ∀ (n : Int), 0 ≤ n → n + l.length ≤ 20 → L.length + l.length ≤ 1000 → Inv c → (n = 0 ∨ c.fresh = false) →
    LoopR (lawCounts_L5nn b low high p r) (L, n, c) (L', n + (l.length : Int), c') := by
  have go : ∀ {c c1 : Core} {L L1 : List RAcc} {a : Acc} {n : Int}, cycleF c [p] L false false = (c1, L1, a) → 0 ≤ n → n < 20 → L.length < 1000 → Inv c → (n = 0 ∨ c.fresh = false) → lawCounts_L5nn b low high p r (L, n, c) (.inl (L1, n + 1, c1)) := by
    intro c c1 L L1 a n h h0 h1 h2 hv hn
    have e : ((cycleF c ([p] : List Int) L false false).2.1, (IntKind.i64.wrap (n + 1)), (cycleF c ([p] : List Int) L false false).1) = (L1, n + 1, c1) := by rw [h, i64_small (by omega) (by omega)]
    rw [← e]
    by_cases hz : n = 0
    · exact .p1 (by simpa using hz) hv (by show L.length + 1 ≤ 1048576; omega)
    · exact .p2 (by simpa using hz) (by show (!(c_Ready c)) = true; rw [ready_fresh, hn.resolve_left hz]; rfl) (decide_eq_true h1) hv (by show L.length + 1 ≤ 1048576; omega)
  induction t with
  | @one c c' L L' a h hf =>
    intro n h0 h1 h2 hv hn
    simp only [List.length_cons, List.length_nil] at h1 h2 ⊢
    refine .more (go h h0 (by omega) (by omega) hv hn) (.last ?_)
    exact .p4 (by simp; omega) (by show (!(c_Ready c')) = false; rw [ready_fresh, hf]; rfl)
  | @more c c1 c' L L1 L' a l h hf t ih =>
    intro n h0 h1 h2 hv hn
    simp only [List.length_cons] at h1 h2 ⊢
    have hv1 : Inv c1 := by have := inv_cycle hv [p] L false false; rw [h] at this; exact this
    have hl1 : L1.length ≤ L.length + 1 := by have := len_cycle c [p] L false false; rw [h] at this; exact this
    have := ih (n + 1) (by omega) (by omega) (by omega) hv1 (.inr hf)
    rw [show n + ((l.length + 1 : Nat) : Int) = n + 1 + (l.length : Int) by omega]
    exact .more (go h h0 (by omega) (by omega) hv hn) this

theorem pc_base {x : Int} (h : rng 65536 x) : ∃ k : Int, 0 ≤ k ∧ k < 8192 ∧ bOr .u16 32768 (bAnd .u16 x 32764) = 32768 + 4 * k := by
  obtain ⟨h1, h2⟩ := h
  have e := bAnd_field (k := .u16) rfl 2 13 (a := x) (m := 32764) (by rfl) h1 (by show x < 65536; omega) (by decide)
  refine ⟨x / 4 % 8192, by omega, by omega, ?_⟩
  rw [e]
  have e2 : (((2 : Nat) ^ 2 : Nat) : Int) = 4 := rfl
  have e3 : (((2 : Nat) ^ 13 : Nat) : Int) = 8192 := rfl
  rw [e2, e3, bOr_low rfl 15 (by decide) (by decide) (by omega) (by show x / 4 % 8192 * 4 < 32768; omega) (by decide) (by decide)]
  omega

theorem of_eq {P : Program} {g n : Nat} {A : List Value} {H H' : Heap} {x y : Bool} (h : FnSpec P g n A H (.bool x) H') (e : x = y) : FnSpec P g n A H (.bool y) H' := e ▸ h
theorem br_cross {pc low : Int} (h0 : 32768 ≤ pc) (h1 : pc + 4 ≤ 65536) (wl : rng 256 low) :
    (((bAnd .u16 (IntKind.u16.wrap ((IntKind.u16.wrap (pc + 2)) + (IntKind.u16.wrap (IntKind.i8.wrap low)))) 65280) : Int) != (bAnd .u16 (IntKind.u16.wrap (pc + 2)) 65280)) = !decide ((pc + 2) / 256 * 256 + (pc + 2 + sgn low) % 65536 % 256 = (pc + 2 + sgn low) % 65536) := by
  have e1 : ∀ a : Int, 0 ≤ a → a < 65536 → bAnd .u16 a 65280 = a / 256 * 256 := by
    intro a h1 h2
    have := bAnd_field (k := .u16) rfl 8 8 (a := a) (m := 65280) (by rfl) h1 (by show a < 65536; omega) (by decide)
    rw [this]
    show a / 256 % 256 * 256 = a / 256 * 256
    omega
  rw [sgn_bits wl, w16, w16, e1 _ (by omega) (by omega), e1 _ (by omega) (by omega)]
  have e2 : ((pc + 2) % 65536 + sgn low % 65536) % 65536 = (pc + 2 + sgn low) % 65536 := by omega
  rw [e2, show (pc + 2) % 65536 = pc + 2 by omega]
  generalize (pc + 2 + sgn low) % 65536 = t
  by_cases h : (pc + 2) / 256 * 256 + t % 256 = t
  · rw [decide_eq_true h]
    have : t / 256 * 256 = (pc + 2) / 256 * 256 := by omega
    rw [this]; simp
  · rw [decide_eq_false h]
    have : t / 256 * 256 ≠ (pc + 2) / 256 * 256 := by omega
    simpa using this
theorem lens_le (i : Nat) (cr tk : Bool) : lens i cr tk ≤ 9 := by
  unfold lens; split <;> (try cases cr) <;> (try cases tk) <;> decide
/-- The memory that the law lays. -/
def codeL (pc b low high : Int) : List RAcc := [⟨pc, false, b⟩, ⟨pc + 1, false, low⟩, ⟨pc + 2, false, high⟩]

theorem counts_true (b low high p : Int) (r : Regs) (wb : rng 256 b) (wl : rng 256 low) (wh : rng 256 high) (wp : rng 256 p) (wr : Regs.ok r) : FnSpec Tryz.prog 10 1000 [.int .u8 b, .int .u8 low, .int .u8 high, .int .u8 p, Regs.enc r] [] (.bool true) [] := by
  have hz : (!awakeF) = false := by rw [awake_tt]; rfl
  by_cases hj : (codeF b).Op = 69
  · exact lawCounts_p1 b low high p r wb hz (by simpa using hj)
  obtain ⟨k, hk0, hk1, hpc⟩ := pc_base wr.PC
  have key := fun r5 h => lawCounts_p2 b low high p r wb hz (by simpa using hj) r5 h (codeF_w b).Op
  rw [hpc] at key
  generalize hq : (32768 + 4 * k : Int) = pc at key
  have hp0 : 32768 ≤ pc := by omega
  have hp1 : pc + 4 ≤ 65536 := by omega
  have e1 : IntKind.i64.wrap pc = pc := i64_small (by omega) (by omega)
  have eL : [({ At := (IntKind.i64.wrap pc), Put := false, B := (IntKind.i64.wrap b) } : RAcc), ({ At := (IntKind.i64.wrap ((IntKind.i64.wrap pc) + 1)), Put := false, B := (IntKind.i64.wrap low) } : RAcc), ({ At := (IntKind.i64.wrap ((IntKind.i64.wrap pc) + 2)), Put := false, B := (IntKind.i64.wrap high) } : RAcc)] = codeL pc b low high := by
    unfold codeL
    rw [e1, i64_small wb.1 (by have := wb.2; omega), i64_small wl.1 (by have := wl.2; omega), i64_small wh.1 (by have := wh.2; omega), i64_small (x := pc + 1) (by omega) (by omega), i64_small (x := pc + 2) (by omega) (by omega)]
  rw [eL] at key
  have n1 : nx pc = pc + 1 := by unfold nx; rw [w16]; omega
  have n2 : nx (pc + 1) = pc + 2 := by unfold nx; rw [w16]; omega
  have hok : Regs.ok { r with PC := pc } := ⟨wr.U, ⟨show 0 ≤ pc by omega, show pc < 65536 by omega⟩⟩
  have hs := start_from hok
  generalize hr : ({ ({ r with PC := pc } : Regs) with U := { ({ r with PC := pc } : Regs).U with P := right ({ r with PC := pc } : Regs).U.P } } : Regs) = q at hs
  have qpc : q.PC = pc := by rw [← hr]
  have qX : q.U.X = r.U.X := by rw [← hr]
  have qY : q.U.Y = r.U.Y := by rw [← hr]
  have g0 : byteOf [p] (codeL pc b low high) (rd pc) = b := byte_rd (by constructor <;> omega) (get_some (by
    simp only [codeL, lastAt]; rw [if_neg (by omega), if_neg (by omega), if_pos trivial])) wb
  have g1 : byteOf [p] (codeL pc b low high) (rd (pc + 1)) = low := byte_rd (by constructor <;> omega) (get_some (by
    simp only [codeL, lastAt]; rw [if_neg (by omega), if_pos trivial])) wl
  have g2 : ∀ a, 0 ≤ a → a < 256 → byteOf [p] (codeL pc b low high) (rd a) = p := fun a h0 h1 => byte_rd (by constructor <;> omega) (get_one wp (by
    simp only [codeL, lastAt]; rw [if_neg (by omega), if_neg (by omega), if_neg (by omega)])) wp
  have hcode : codeAt [p] (codeL pc b low high) q = b := by unfold codeAt; rw [qpc]; exact g0
  obtain ⟨c', t, hs'⟩ := instr hs [p] (codeL pc b low high) (by rw [hcode]; exact hj)
  -- the length
  have hlen : (((runP [p] (iprog q) (codeL pc b low high)).2.2.length : Nat) : Int) = stepsF (codeF b) (lawCounts_J1nn b low p r (IntKind.u16.wrap (pc + 2))) (uTakes r.U (codeF b).Op) := by
    have e : (runP [p] (iprog q) (codeL pc b low high)).2.2.length = lenP [p] ((bodyT.getD (clsOf (codeF b)) fun _ r => .ret r) (codeF b) (q.go (nx q.PC))) (codeL pc b low high) + 1 := by
      show lenP [p] ((bodyT.getD (clsOf (codeF (codeAt [p] (codeL pc b low high) q))) fun _ r => .ret r) (codeF (codeAt [p] (codeL pc b low high) q)) (q.go (nx q.PC))) (codeL pc b low high) + 1 = _
      rw [hcode]
    rw [e, steps_eq wb hj, qpc, n1]
    have hX : rng 256 (q.go (pc + 1)).U.X := by show rng 256 q.U.X; rw [qX]; exact wr.U.X
    have hY : rng 256 (q.go (pc + 1)).U.Y := by show rng 256 q.U.Y; rw [qY]; exact wr.U.Y
    have hlow : lowAt [p] (q.go (pc + 1)) (codeL pc b low high) = low := g1
    have hpt : ptAt [p] (q.go (pc + 1)) (codeL pc b low high) = p := by unfold ptAt; rw [hlow]; exact g2 low wl.1 (by have := wl.2; omega)
    have htk : uTakes (q.go (pc + 1)).U (codeF b).Op = uTakes r.U (codeF b).Op := by show uTakes q.U _ = _; rw [← hr]; exact takes_right r.U _ wr.U.P
    have h := cls_of wb
    have hlt := cls_lt h
    have a1 := wl.1; have a2 := wl.2; have a3 := wr.U.X.1; have a4 := wr.U.X.2; have a5 := wr.U.Y.1; have a6 := wr.U.Y.2; have a7 := wp.1; have a8 := wp.2
    rcases (show clsOf (codeF b) = 0 ∨ clsOf (codeF b) = 1 ∨ clsOf (codeF b) = 2 ∨ clsOf (codeF b) = 3 ∨ clsOf (codeF b) = 4 ∨ clsOf (codeF b) = 5 ∨ clsOf (codeF b) = 6 ∨ clsOf (codeF b) = 7 ∨ clsOf (codeF b) = 8 ∨ clsOf (codeF b) = 9 ∨ clsOf (codeF b) = 10 ∨ clsOf (codeF b) = 11 ∨ clsOf (codeF b) = 12 ∨ clsOf (codeF b) = 13 ∨ clsOf (codeF b) = 14 ∨ clsOf (codeF b) = 15 ∨ clsOf (codeF b) = 16 ∨ clsOf (codeF b) = 17 ∨ clsOf (codeF b) = 18 ∨ clsOf (codeF b) = 19 ∨ clsOf (codeF b) = 20 ∨ clsOf (codeF b) = 21 ∨ clsOf (codeF b) = 22 ∨ clsOf (codeF b) = 23 ∨ clsOf (codeF b) = 24 ∨ clsOf (codeF b) = 25 ∨ clsOf (codeF b) = 26 ∨ clsOf (codeF b) = 27 ∨ clsOf (codeF b) = 28 ∨ clsOf (codeF b) = 29 ∨ clsOf (codeF b) = 30 ∨ clsOf (codeF b) = 31 ∨ clsOf (codeF b) = 32 ∨ clsOf (codeF b) = 33 ∨ clsOf (codeF b) = 34 ∨ clsOf (codeF b) = 35 ∨ clsOf (codeF b) = 36 ∨ clsOf (codeF b) = 37 ∨ clsOf (codeF b) = 38 ∨ clsOf (codeF b) = 39 by omega) with e_ | e_ | e_ | e_ | e_ | e_ | e_ | e_ | e_ | e_ | e_ | e_ | e_ | e_ | e_ | e_ | e_ | e_ | e_ | e_ | e_ | e_ | e_ | e_ | e_ | e_ | e_ | e_ | e_ | e_ | e_ | e_ | e_ | e_ | e_ | e_ | e_ | e_ | e_ | e_
    all_goals rw [e_] at h ⊢
    all_goals simp only [cls, clsT, Bool.and_eq_true, Bool.or_eq_true, beq_iff_eq, List.getElem?_cons_succ, List.getElem?_cons_zero] at h
    · rfl
    · rfl
    · rfl
    · rfl
    · rfl
    · rfl
    · rfl
    · rfl
    · rfl
    · rfl
    · rfl
    · rfl
    · show ((lenP [p] (rP pl6 (codeF b) (q.go (pc + 1))) (codeL pc b low high) + 1 : Nat) : Int) = _
      rw [len_r6 [p] (codeF b) (q.go (pc + 1)) _ hX, hlow, show (q.go (pc + 1)).U.X = r.U.X from qX]
      unfold lawCounts_J1nn
      rw [h.1.1, if_pos (c := ((6 : Int) == 6) = true) rfl, i64_small a1 (by omega), i64_small a3 (by omega), i64_small (x := low + r.U.X) (by omega) (by omega)]
      by_cases hc : low + r.U.X > 255
      · rw [if_pos hc, decide_eq_true hc]; rfl
      · rw [if_neg hc, decide_eq_false hc]; rfl
    · show ((lenP [p] (cP pl6 (codeF b) (q.go (pc + 1))) (codeL pc b low high) + 1 : Nat) : Int) = _
      unfold cP
      rw [len_f6 [p] (q.go (pc + 1)) _ 3 _ (fun _ _ _ => rfl)]; rfl
    · show ((lenP [p] (sP pl6 (codeF b) (q.go (pc + 1))) (codeL pc b low high) + 1 : Nat) : Int) = _
      unfold sP
      rw [len_f6 [p] (q.go (pc + 1)) _ 1 _ (fun _ _ _ => rfl)]; rfl
    · show ((lenP [p] (rP pl7 (codeF b) (q.go (pc + 1))) (codeL pc b low high) + 1 : Nat) : Int) = _
      rw [len_r7 [p] (codeF b) (q.go (pc + 1)) _ hY, hlow, show (q.go (pc + 1)).U.Y = r.U.Y from qY]
      unfold lawCounts_J1nn lawCounts_J2nnn
      rw [h.1.1, if_neg (c := ((7 : Int) == 6) = true) (by decide), if_pos (c := ((7 : Int) == 7) = true) rfl, i64_small a1 (by omega), i64_small a5 (by omega), i64_small (x := low + r.U.Y) (by omega) (by omega)]
      by_cases hc : low + r.U.Y > 255
      · rw [if_pos hc, decide_eq_true hc]; rfl
      · rw [if_neg hc, decide_eq_false hc]; rfl
    · show ((lenP [p] (cP pl7 (codeF b) (q.go (pc + 1))) (codeL pc b low high) + 1 : Nat) : Int) = _
      unfold cP
      rw [len_f7 [p] (q.go (pc + 1)) _ 3 _ (fun _ _ _ => rfl)]; rfl
    · show ((lenP [p] (sP pl7 (codeF b) (q.go (pc + 1))) (codeL pc b low high) + 1 : Nat) : Int) = _
      unfold sP
      rw [len_f7 [p] (q.go (pc + 1)) _ 1 _ (fun _ _ _ => rfl)]; rfl
    · rfl
    · rfl
    · rfl
    · show ((lenP [p] (rP pl9 (codeF b) (q.go (pc + 1))) (codeL pc b low high) + 1 : Nat) : Int) = _
      rw [len_r9 [p] (codeF b) (q.go (pc + 1)) _ hY, hpt, show (q.go (pc + 1)).U.Y = r.U.Y from qY]
      unfold lawCounts_J1nn lawCounts_J2nnn lawCounts_J3nnnn
      rw [h.1.1, if_neg (c := ((9 : Int) == 6) = true) (by decide), if_neg (c := ((9 : Int) == 7) = true) (by decide), if_pos (c := ((9 : Int) == 9) = true) rfl, i64_small a7 (by omega), i64_small a5 (by omega), i64_small (x := p + r.U.Y) (by omega) (by omega)]
      by_cases hc : p + r.U.Y > 255
      · rw [if_pos hc, decide_eq_true hc]; rfl
      · rw [if_neg hc, decide_eq_false hc]; rfl
    · show ((lenP [p] (cP pl9 (codeF b) (q.go (pc + 1))) (codeL pc b low high) + 1 : Nat) : Int) = _
      unfold cP
      rw [len_f9 [p] (q.go (pc + 1)) _ 3 _ (fun _ _ _ => rfl)]; rfl
    · show ((lenP [p] (sP pl9 (codeF b) (q.go (pc + 1))) (codeL pc b low high) + 1 : Nat) : Int) = _
      unfold sP
      rw [len_f9 [p] (q.go (pc + 1)) _ 1 _ (fun _ _ _ => rfl)]; rfl
    · rfl
    · rfl
    · rfl
    · rfl
    · show ((lenP [p] (brP (codeF b) (q.go (pc + 1))) (codeL pc b low high) + 1 : Nat) : Int) = _
      rw [len_br [p] (codeF b) (q.go (pc + 1)), htk]
      have eto : toAt [p] (q.go (pc + 1)) (codeL pc b low high) = (pc + 2 + sgn low) % 65536 := by unfold toAt; rw [hlow]; show (nx (pc + 1) + _) % _ = _; rw [n2]
      rw [eto, show nx (q.go (pc + 1)).PC = pc + 2 from n2]
      unfold lawCounts_J1nn lawCounts_J2nnn lawCounts_J3nnnn lawCounts_J4nnnnn
      rw [h.1.1, if_neg (c := ((10 : Int) == 6) = true) (by decide), if_neg (c := ((10 : Int) == 7) = true) (by decide), if_neg (c := ((10 : Int) == 9) = true) (by decide), if_pos (c := ((10 : Int) == 10) = true) rfl]
      have ec := br_cross (pc := pc) (low := low) hp0 hp1 wl
      rw [ec]
      cases uTakes r.U (codeF b).Op with
      | false => rw [if_neg (by decide)]; rfl
      | true =>
        rw [if_pos rfl]
        by_cases hc : (pc + 2) / 256 * 256 + (pc + 2 + sgn low) % 65536 % 256 = (pc + 2 + sgn low) % 65536
        · rw [if_pos hc, decide_eq_true hc]; rfl
        · rw [if_neg hc, decide_eq_false hc]; rfl
    · rfl
    · rfl
    · rfl
    · rfl
    · rfl
    · rfl
    · rfl
    · rfl
    · rfl
    · rfl
    · exact absurd (h.2.resolve_left (by decide)) hj
  have len_le : ∀ _ : Regs, (runP [p] (iprog q) (codeL pc b low high)).2.2.length ≤ 9 := by
    intro _
    rw [steps_eq wb hj] at hlen
    have := lens_le (clsOf (codeF b)) (lawCounts_J1nn b low p r (IntKind.u16.wrap (pc + 2))) (uTakes r.U (codeF b).Op)
    omega
  refine of_eq (key (_, _, _) (by
    have := counts_loop (b := b) (low := low) (high := high) (p := p) (r := r) t 0 (by omega) (by
      have := len_le q; omega) (by
      have := len_le q; show (codeL pc b low high).length + _ ≤ 1000; show 3 + _ ≤ 1000; omega) hs.inv (.inl rfl)
    rw [Int.zero_add] at this; exact this)) ?_
  simpa using hlen
end Go.Proofs.YtmnhmplcpijanaaGreat
