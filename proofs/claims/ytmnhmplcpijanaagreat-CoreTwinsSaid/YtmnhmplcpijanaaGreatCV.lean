/-
  Instructions as trees of accesses: the core's own trees are these. No condition.
-/
import Derived.Test.YtmnhmplcpijanaaGreatCU
namespace Go.Proofs.YtmnhmplcpijanaaGreat
open Go VX
set_option linter.unusedVariables false
set_option linter.unusedSimpArgs false
set_option maxRecDepth 100000

def rd (a : Int) : Acc := ⟨a, false, 0⟩
def wr (a b : Int) : Acc := ⟨a, true, b⟩
def nx (pc : Int) : Int := IntKind.u16.wrap (pc + 1)
def dn (s : Int) : Int := IntKind.u8.wrap (s - 1)
def up (s : Int) : Int := IntKind.u8.wrap (s + 1)
def Regs.go (r : Regs) (pc : Int) : Regs := { r with PC := pc }
def Regs.u (r : Regs) (u : Un) : Regs := { r with U := u }
def Regs.s (r : Regs) (s : Int) : Regs := { r with U := { r.U with S := s } }
abbrev Kt := Int → Regs → Pr Regs
def hereP (r : Regs) (k : Kt) : Pr Regs := .acc (rd r.PC) fun g => k g (r.go (nx r.PC))
def pairP (a : Int) (k : Int → Pr Regs) : Pr Regs := .acc (rd a) fun lo => .acc (rd (a / 256 * 256 + (a + 1) % 256)) fun hi => k (lo + 256 * hi)
def farP (a more : Int) (reads : Bool) (k : Int → Pr Regs) : Pr Regs :=
  if reads = true ∧ a / 256 * 256 + (a + more) % 256 = (a + more) % 65536 then k ((a + more) % 65536) else .acc (rd (a / 256 * 256 + (a + more) % 256)) fun _ => k ((a + more) % 65536)
abbrev Pl := Bool → Regs → Kt → Pr Regs
def pl2 : Pl := fun _ r k => hereP r k
def pl3 : Pl := fun _ r k => hereP r fun a r => .acc (rd a) fun _ => k ((a + r.U.X) % 256) r
def pl4 : Pl := fun _ r k => hereP r fun a r => .acc (rd a) fun _ => k ((a + r.U.Y) % 256) r
def pl5 : Pl := fun _ r k => hereP r fun lo r => hereP r fun hi r => k (lo + 256 * hi) r
def pl6 : Pl := fun q r k => hereP r fun lo r => hereP r fun hi r => farP (lo + 256 * hi) r.U.X q fun a => k a r
def pl7 : Pl := fun q r k => hereP r fun lo r => hereP r fun hi r => farP (lo + 256 * hi) r.U.Y q fun a => k a r
def pl8 : Pl := fun _ r k => hereP r fun a r => .acc (rd a) fun _ => pairP ((a + r.U.X) % 256) fun a => k a r
def pl9 : Pl := fun q r k => hereP r fun a r => pairP a fun a => farP a r.U.Y q fun a => k a r
def rP (pl : Pl) (c : Code) (r : Regs) : Pr Regs := pl true r fun a r => .acc (rd a) fun g => .ret (r.u (uRead r.U c.Op g))
def cP (pl : Pl) (c : Code) (r : Regs) : Pr Regs := pl false r fun a r => .acc (rd a) fun g => .acc (wr a g) fun _ => .acc (wr a (uChange r.U c.Op g).2) fun _ => .ret (r.u (uChange r.U c.Op g).1)
def sP (pl : Pl) (c : Code) (r : Regs) : Pr Regs := pl false r fun a r => .acc (wr a (uStore r.U c.Op)) fun _ => .ret r
def impP (c : Code) (r : Regs) : Pr Regs := .acc (rd r.PC) fun _ => .ret (r.u (uSelf r.U c.Op))
def immP (c : Code) (r : Regs) : Pr Regs := hereP r fun g r => .ret (r.u (uRead r.U c.Op g))
def brP (c : Code) (r : Regs) : Pr Regs := hereP r fun d r =>
  if uTakes r.U c.Op = true then .acc (rd r.PC) fun _ =>
    if r.PC / 256 * 256 + (r.PC + sgn d) % 65536 % 256 = (r.PC + sgn d) % 65536 then .ret (r.go ((r.PC + sgn d) % 65536)) else .acc (rd (r.PC / 256 * 256 + (r.PC + sgn d) % 65536 % 256)) fun _ => .ret (r.go ((r.PC + sgn d) % 65536))
  else .ret r
def pushP (r : Regs) (b : Int) (k : Regs → Pr Regs) : Pr Regs := .acc (wr (256 + r.U.S) b) fun _ => k (r.s (dn r.U.S))
def upR (r : Regs) : Regs := r.s (up r.U.S)
def jmpP (c : Code) (r : Regs) : Pr Regs := hereP r fun lo r => .acc (rd r.PC) fun hi => .ret (r.go (lo + 256 * hi))
def jmpiP (c : Code) (r : Regs) : Pr Regs := pl5 false r fun a r => pairP a fun a => .ret (r.go a)
def jsrP (c : Code) (r : Regs) : Pr Regs := hereP r fun lo r => .acc (rd (256 + r.U.S)) fun _ => pushP r (r.PC / 256) fun r => pushP r (r.PC % 256) fun r => .acc (rd r.PC) fun hi => .ret (r.go (lo + 256 * hi))
def offP (r : Regs) (k : Int → Regs → Pr Regs) : Pr Regs := .acc (rd (256 + r.U.S)) fun g => k g r
def rtsP (c : Code) (r : Regs) : Pr Regs := .acc (rd r.PC) fun _ => .acc (rd (256 + r.U.S)) fun _ => .acc (rd (256 + (upR r).U.S)) fun lo => .acc (rd (256 + (upR (upR r)).U.S)) fun hi =>
  .acc (rd (lo + 256 * hi)) fun _ => .ret ((upR (upR r)).go (nx (lo + 256 * hi)))
def flagP (p : Int) (r : Regs) : Regs := { r with U := { r.U with P := p } }
def rtiP (c : Code) (r : Regs) : Pr Regs := .acc (rd r.PC) fun _ => .acc (rd (256 + r.U.S)) fun _ => .acc (rd (256 + (upR r).U.S)) fun p => .acc (rd (256 + (upR (upR r)).U.S)) fun lo =>
  .acc (rd (256 + (upR (upR (upR r))).U.S)) fun hi => .ret ((flagP (right p) (upR (upR (upR r)))).go (lo + 256 * hi))
def vecP (v : Int) (r : Regs) : Pr Regs := .acc (rd v) fun lo => .acc (rd (v + 1)) fun hi => .ret ((r.u (uFlag r.U 4 true)).go (lo + 256 * hi))
def awayP (p : Int) (r : Regs) (k : Regs → Pr Regs) : Pr Regs := pushP r (r.PC / 256) fun r => pushP r (r.PC % 256) fun r => pushP r p k
def brkP (c : Code) (r : Regs) : Pr Regs := hereP r fun _ r => awayP (bOr .u8 r.U.P 16) r (vecP 65534)
def phaP (c : Code) (r : Regs) : Pr Regs := .acc (rd r.PC) fun _ => pushP r r.U.A .ret
def phpP (c : Code) (r : Regs) : Pr Regs := .acc (rd r.PC) fun _ => pushP r (bOr .u8 r.U.P 16) .ret
def plaP (c : Code) (r : Regs) : Pr Regs := .acc (rd r.PC) fun _ => .acc (rd (256 + r.U.S)) fun _ => .acc (rd (256 + (upR r).U.S)) fun g => .ret ((upR r).u (uRead_9 (upR r).U g))
def plpP (c : Code) (r : Regs) : Pr Regs := .acc (rd r.PC) fun _ => .acc (rd (256 + r.U.S)) fun _ => .acc (rd (256 + (upR r).U.S)) fun g => .ret (flagP (right g) (upR r))
def bodyT : List (Code → Regs → Pr Regs) := [rP pl2, cP pl2, sP pl2, rP pl3, cP pl3, sP pl3, rP pl4, cP pl4, sP pl4, rP pl5, cP pl5, sP pl5, rP pl6, cP pl6, sP pl6, rP pl7, cP pl7, sP pl7, rP pl8, cP pl8, sP pl8, rP pl9, cP pl9, sP pl9, impP, impP, impP, immP, brP, jmpP, jmpiP, jsrP, rtsP, rtiP, brkP, phaP, phpP, plaP, plpP]
/-- An instruction. -/
def iprog (r : Regs) : Pr Regs := hereP r fun b r => (bodyT.getD (clsOf (codeF b)) fun _ r => .ret r) (codeF b) r
/-- The sequence of an interrupt; of a reset. -/
def intP (v : Int) (r : Regs) : Pr Regs := .acc (rd r.PC) fun _ => .acc (rd r.PC) fun _ => awayP r.U.P r (vecP v)
def downR (r : Regs) : Regs := r.s (dn r.U.S)
def resP (r : Regs) : Pr Regs := .acc (rd r.PC) fun _ => .acc (rd r.PC) fun _ => .acc (rd (256 + r.U.S)) fun _ => .acc (rd (256 + (downR r).U.S)) fun _ => .acc (rd (256 + (downR (downR r)).U.S)) fun _ => vecP 65532 (downR (downR (downR r)))

-- ---------------------------------------------------------------- the core goes so

theorem Rel.acc' {α β : Type} {R : α → β → Prop} {a a' : Acc} {k : Int → Pr α} {k' : Int → Pr β} (ha : a = a') (h : ∀ g, rng 256 g → Rel R (k g) (k' g)) : Rel R (.acc a k) (.acc a' k') := by subst ha; exact .acc h

theorem u_cons {x : Core} {p : Nat × Nat} {r : List (Nat × Nat)} (h : x.l = p :: r) (n : Nat) : unroll (n + 1) x = .acc (wantF p.1 x) fun b => unroll n (doF p.2 { x with l := r } b) := by simp only [unroll, h]
theorem u_nil {x : Core} (h : x.l = []) : ∀ n, unroll n x = .ret x
  | 0 => rfl
  | n + 1 => by simp only [unroll, h]

/-- What it comes to. -/
def Fin (j : Bool) (c : Core) (y : Regs) : Prop := c.l = [] ∧ c.r = y ∧ c.jam = j
/-- The place was found. -/
structure Found (j : Bool) (k : Code) (rest : List (Nat × Nat)) (a : Int) (r : Regs) (y : Core) : Prop where
  l : y.l = rest
  a : y.at_ = a
  r : y.r = r
  c : y.c = k
  j : y.jam = j

theorem pc_eq {c : Core} {pc : Int} : ({ c.r with PC := IntKind.u16.wrap (pc + 1) } : Regs) = c.r.go (nx pc) := rfl

theorem tail_r {j : Bool} {c : Code} {a : Int} {r : Regs} {y : Core} (h : Found j c [(87, 101)] a r y) (n : Nat) : Rel (Fin j) (unroll (n + 4) y) (.acc (rd a) fun g => .ret (r.u (uRead r.U c.Op g))) := by
  obtain ⟨hl, rfl, rfl, rfl, rfl⟩ := h
  rw [u_cons hl]
  refine .acc' rfl fun g hg => ?_
  rw [u_nil rfl]
  exact .ret ⟨rfl, rfl, rfl⟩

theorem tail_c {j : Bool} {c : Code} {a : Int} {r : Regs} {y : Core} (h : Found j c [(87, 98), (99, 100), (99, 43)] a r y) (n : Nat) :
    Rel (Fin j) (unroll (n + 4) y) (.acc (rd a) fun g => .acc (wr a g) fun _ => .acc (wr a (uChange r.U c.Op g).2) fun _ => .ret (r.u (uChange r.U c.Op g).1)) := by
  obtain ⟨hl, rfl, rfl, rfl, rfl⟩ := h
  rw [u_cons hl]
  refine .acc' rfl fun g hg => .acc' rfl fun _ _ => .acc' rfl fun _ _ => ?_
  rw [u_nil rfl]
  exact .ret ⟨rfl, rfl, rfl⟩

theorem tail_s {j : Bool} {c : Code} {a : Int} {r : Regs} {y : Core} (h : Found j c [(93, 43)] a r y) (n : Nat) : Rel (Fin j) (unroll (n + 4) y) (.acc (wr a (uStore r.U c.Op)) fun _ => .ret r) := by
  obtain ⟨hl, rfl, rfl, rfl, rfl⟩ := h
  rw [u_cons hl]
  refine .acc' rfl fun g hg => ?_
  rw [u_nil rfl]
  exact .ret ⟨rfl, rfl, rfl⟩

section
variable {j : Bool} {c : Code} {x : Core} {rest : List (Nat × Nat)} {k : Kt}

theorem head2 (hl : x.l = (38, 86) :: rest) (hk : ∀ a r y n, Found x.jam x.c rest a r y → Rel (Fin x.jam) (unroll (n + 4) y) (k a r)) (n : Nat) (q : Bool) : Rel (Fin x.jam) (unroll (n + 8) x) (pl2 q x.r k) := by
  rw [u_cons hl]
  refine .acc' rfl fun g hg => hk _ _ _ (n + 3) ⟨rfl, w16_in hg, pc_eq, rfl, rfl⟩

theorem add_eq {g m : Int} (hg : rng 256 g) : IntKind.u16.wrap (IntKind.u8.wrap (IntKind.u8.wrap (IntKind.u16.wrap g) + m)) = (g + m) % 256 := by
  rw [w16_in hg, w8_in hg, w16_in (rng_wrap_u8 _), w8]

theorem head3 (hl : x.l = (38, 86) :: (87, 81) :: rest) (hk : ∀ a r y n, Found x.jam x.c rest a r y → Rel (Fin x.jam) (unroll (n + 4) y) (k a r)) (n : Nat) (q : Bool) : Rel (Fin x.jam) (unroll (n + 8) x) (pl3 q x.r k) := by
  rw [u_cons hl]
  refine .acc' rfl fun g hg => .acc' (congrArg rd (w16_in hg)) fun _ _ => hk _ _ _ (n + 2) ⟨rfl, add_eq hg, pc_eq, rfl, rfl⟩
theorem head4 (hl : x.l = (38, 86) :: (87, 83) :: rest) (hk : ∀ a r y n, Found x.jam x.c rest a r y → Rel (Fin x.jam) (unroll (n + 4) y) (k a r)) (n : Nat) (q : Bool) : Rel (Fin x.jam) (unroll (n + 8) x) (pl4 q x.r k) := by
  rw [u_cons hl]
  refine .acc' rfl fun g hg => .acc' (congrArg rd (w16_in hg)) fun _ _ => hk _ _ _ (n + 2) ⟨rfl, add_eq hg, pc_eq, rfl, rfl⟩

theorem pc_eq2 {c : Core} {pc : Int} : ({ ({ c.r with PC := IntKind.u16.wrap (pc + 1) } : Regs) with PC := IntKind.u16.wrap (IntKind.u16.wrap (pc + 1) + 1) } : Regs) = (c.r.go (nx pc)).go (nx (nx pc)) := rfl

theorem head5 (hl : x.l = (38, 88) :: (38, 89) :: rest) (hk : ∀ a r y n, Found x.jam x.c rest a r y → Rel (Fin x.jam) (unroll (n + 4) y) (k a r)) (n : Nat) (q : Bool) : Rel (Fin x.jam) (unroll (n + 8) x) (pl5 q x.r k) := by
  rw [u_cons hl]
  refine .acc' rfl fun lo h1 => .acc' rfl fun hi h2 => hk _ _ _ (n + 2) ⟨rfl, pair_bits h1 h2, pc_eq2, rfl, rfl⟩

theorem pt_eq {a : Int} (ha : rng 65536 a) : bOr .u16 (bAnd .u16 a 65280) (IntKind.u16.wrap (IntKind.u8.wrap (IntKind.u8.wrap a + 1))) = a / 256 * 256 + (a + 1) % 256 := by
  rw [page_bits ha, w8]; congr 1; omega

theorem rng_mod (a : Int) : rng 65536 (a % 256) := ⟨by omega, by omega⟩
theorem rng_in {g : Int} (h : rng 256 g) : rng 65536 g := ⟨h.1, by have := h.2; omega⟩
theorem rng_pair {lo hi : Int} (h1 : rng 256 lo) (h2 : rng 256 hi) : rng 65536 (lo + 256 * hi) := ⟨by have := h1.1; have := h2.1; omega, by have := h1.2; have := h2.2; omega⟩

theorem head8 (hl : x.l = (38, 86) :: (87, 81) :: (87, 90) :: (87, 91) :: rest) (hk : ∀ a r y n, Found x.jam x.c rest a r y → Rel (Fin x.jam) (unroll (n + 4) y) (k a r)) (n : Nat) (q : Bool) : Rel (Fin x.jam) (unroll (n + 8) x) (pl8 q x.r k) := by
  rw [u_cons hl]
  refine .acc' rfl fun g hg => .acc' (congrArg rd (w16_in hg)) fun _ _ => .acc' (congrArg rd (add_eq hg)) fun lo h1 => .acc' (congrArg rd ?_) fun hi h2 => hk _ _ _ n ⟨rfl, pair_bits h1 h2, pc_eq, rfl, rfl⟩
  have e := add_eq (m := x.r.U.X) hg
  refine Eq.trans (pt_eq (a := IntKind.u16.wrap (IntKind.u8.wrap (IntKind.u8.wrap (IntKind.u16.wrap g) + x.r.U.X))) (by rw [e]; exact rng_mod _)) ?_
  rw [e]; rfl

/-- Over a page, or not. -/
theorem far_rel {reads : Bool} (y : Core) (b m : Int) {lo : Int} {r : Regs} (hl : y.l = (85, 43) :: rest) (hr : y.r = r) (hy : y.low = lo) (hk0 : (aKind y.c.Op == 1) = reads) (hlo : rng 256 lo) (hb : rng 256 b) (hm : rng 256 m)
    (hk : ∀ z n, Found y.jam y.c rest ((lo + 256 * b + m) % 65536) r z → Rel (Fin y.jam) (unroll (n + 4) z) (k ((lo + 256 * b + m) % 65536) r)) (n : Nat) :
    Rel (Fin y.jam) (unroll (n + 5) (c_over y b m)) (farP (lo + 256 * b) m reads fun a => k a r) := by
  subst hr hy
  have ew : (c_whole y b).at_ = y.low + 256 * b := pair_bits hlo hb
  have ha := rng_pair hlo hb
  have e1 : bOr .u16 (bAnd .u16 (c_whole y b).at_ 65280) (IntKind.u16.wrap (IntKind.u8.wrap ((IntKind.u8.wrap (c_whole y b).at_) + m))) = (y.low + 256 * b) / 256 * 256 + (y.low + 256 * b + m) % 256 := by
    rw [ew, page_bits ha, w8]; congr 1; omega
  have e2 : IntKind.u16.wrap ((c_whole y b).at_ + IntKind.u16.wrap m) = (y.low + 256 * b + m) % 65536 := by rw [ew, w16_in hm, w16]
  unfold farP c_over
  rw [e1, e2]
  have hkk : ((aKind ((c_whole y b).c).Op : Int) == 1) = reads := hk0
  rw [hkk]
  cases reads with
  | true =>
    by_cases h : (y.low + 256 * b) / 256 * 256 + (y.low + 256 * b + m) % 256 = (y.low + 256 * b + m) % 65536
    · rw [if_pos rfl, if_pos (by simpa using h), if_pos ⟨rfl, h⟩]
      exact hk _ (n + 1) ⟨by show List.tail y.l = rest; rw [hl]; rfl, rfl, rfl, rfl, rfl⟩
    · rw [if_pos rfl, if_neg (by simpa using h), if_neg (fun q => h q.2)]
      rw [u_cons (x := { c_whole y b with at_ := (y.low + 256 * b + m) % 65536, near := (y.low + 256 * b) / 256 * 256 + (y.low + 256 * b + m) % 256 }) hl]
      exact .acc' rfl fun _ _ => hk _ n ⟨rfl, rfl, rfl, rfl, rfl⟩
  | false =>
    rw [if_neg (by decide), if_neg (fun q => by cases q.1)]
    rw [u_cons (x := { c_whole y b with at_ := (y.low + 256 * b + m) % 65536, near := (y.low + 256 * b) / 256 * 256 + (y.low + 256 * b + m) % 256 }) hl]
    exact .acc' rfl fun _ _ => hk _ n ⟨rfl, rfl, rfl, rfl, rfl⟩

theorem head6 {reads : Bool} (hl : x.l = (38, 88) :: (38, 82) :: (85, 43) :: rest) (hk0 : (aKind x.c.Op == 1) = reads) (hm : rng 256 x.r.U.X) (hk : ∀ a r y n, Found x.jam x.c rest a r y → Rel (Fin x.jam) (unroll (n + 4) y) (k a r)) (n : Nat) : Rel (Fin x.jam) (unroll (n + 8) x) (pl6 reads x.r k) := by
  rw [u_cons hl]
  refine .acc' rfl fun lo h1 => .acc' rfl fun hi h2 => ?_
  exact far_rel (k := k) (r := (x.r.go (nx x.r.PC)).go (nx (nx x.r.PC))) { x with l := (85, 43) :: rest, r := ({ ({ x.r with PC := IntKind.u16.wrap (x.r.PC + 1) } : Regs) with PC := IntKind.u16.wrap (IntKind.u16.wrap (x.r.PC + 1) + 1) } : Regs), low := lo } hi x.r.U.X rfl pc_eq2 rfl hk0 h1 h2 hm (fun z n hz => hk _ _ _ n hz) (n + 1)

theorem head7 {reads : Bool} (hl : x.l = (38, 88) :: (38, 84) :: (85, 43) :: rest) (hk0 : (aKind x.c.Op == 1) = reads) (hm : rng 256 x.r.U.Y) (hk : ∀ a r y n, Found x.jam x.c rest a r y → Rel (Fin x.jam) (unroll (n + 4) y) (k a r)) (n : Nat) : Rel (Fin x.jam) (unroll (n + 8) x) (pl7 reads x.r k) := by
  rw [u_cons hl]
  refine .acc' rfl fun lo h1 => .acc' rfl fun hi h2 => ?_
  exact far_rel (k := k) (r := (x.r.go (nx x.r.PC)).go (nx (nx x.r.PC))) { x with l := (85, 43) :: rest, r := ({ ({ x.r with PC := IntKind.u16.wrap (x.r.PC + 1) } : Regs) with PC := IntKind.u16.wrap (IntKind.u16.wrap (x.r.PC + 1) + 1) } : Regs), low := lo } hi x.r.U.Y rfl pc_eq2 rfl hk0 h1 h2 hm (fun z n hz => hk _ _ _ n hz) (n + 1)

theorem head9 {reads : Bool} (hl : x.l = (38, 86) :: (87, 90) :: (87, 92) :: (85, 43) :: rest) (hk0 : (aKind x.c.Op == 1) = reads) (hm : rng 256 x.r.U.Y) (hk : ∀ a r y n, Found x.jam x.c rest a r y → Rel (Fin x.jam) (unroll (n + 4) y) (k a r)) (n : Nat) : Rel (Fin x.jam) (unroll (n + 8) x) (pl9 reads x.r k) := by
  rw [u_cons hl]
  refine .acc' rfl fun g hg => .acc' (congrArg rd (w16_in hg)) fun lo h1 => .acc' (congrArg rd ?_) fun hi h2 => ?_
  · refine Eq.trans (pt_eq (a := IntKind.u16.wrap g) (by rw [w16_in hg]; exact rng_in hg)) ?_
    rw [w16_in hg]
  · exact far_rel (k := k) (r := x.r.go (nx x.r.PC)) { x with l := (85, 43) :: rest, r := ({ x.r with PC := IntKind.u16.wrap (x.r.PC + 1) } : Regs), low := lo, at_ := bOr .u16 (bAnd .u16 (IntKind.u16.wrap g) 65280) (IntKind.u16.wrap (IntKind.u8.wrap (IntKind.u8.wrap (IntKind.u16.wrap g) + 1))) } hi x.r.U.Y rfl pc_eq rfl hk0 h1 h2 hm (fun z n hz => hk _ _ _ n hz) n
end
end Go.Proofs.YtmnhmplcpijanaaGreat
