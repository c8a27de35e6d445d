/-
  What a core does from one beginning to the next, as a tree of accesses; a core that goes with a memory follows it. No condition.
-/
import Derived.Test.YtmnhmplcpijanaaGreatCO
namespace Go.Proofs.YtmnhmplcpijanaaGreat
open Go VX
set_option linter.unusedVariables false
set_option linter.unusedSimpArgs false
set_option maxRecDepth 100000

/-- Accesses, each of which may hang on the bytes that came before. -/
inductive Pr (α : Type) where
  | ret (x : α)
  | acc (a : Acc) (k : Int → Pr α)

/-- A core's own accesses. -/
def unroll : Nat → Core → Pr Core
  | 0, c => .ret c
  | n + 1, c => match c.l with
    | [] => .ret c
    | p :: r => .acc (wantF p.1 c) fun b => unroll n (doF p.2 { c with l := r } b)

/-- The byte of an access, and the memory behind it. -/
def byteOf (P : List Int) (L : List RAcc) (a : Acc) : Int := if a.Put = true then 0 else IntKind.u8.wrap (getF P L (IntKind.i64.wrap a.At))
def memOf (L : List RAcc) (a : Acc) : List RAcc := if a.Put = true then L ++ [⟨IntKind.i64.wrap a.At, true, IntKind.i64.wrap a.B⟩] else L

/-- A tree in a memory: what it comes to, the memory, the accesses. -/
def runP {α : Type} (P : List Int) : Pr α → List RAcc → α × List RAcc × List Acc
  | .ret x, L => (x, L, [])
  | .acc a k, L => let q := runP P (k (byteOf P L a)) (memOf L a); (q.1, q.2.1, a :: q.2.2)

/-- A core with other lines, and other registers of before. -/
def Core.io (c : Core) (w n f : Bool) (x : Regs) : Core := { c with waits := w, line := n, fresh := f, was := x }

theorem wantF_io (w : Nat) (c : Core) (a n f : Bool) (x : Regs) : wantF w (c.io a n f x) = wantF w c := by
  unfold wantF; repeat' split
  all_goals rfl

theorem over_io (c : Core) (b m : Int) (a n f : Bool) (x : Regs) : c_over (c.io a n f x) b m = (c_over c b m).io a n f x := by
  unfold c_over
  have e : c_whole (c.io a n f x) b = (c_whole c b).io a n f x := rfl
  rw [e, apply_ite (fun q : Core => q.io a n f x), apply_ite (fun q : Core => q.io a n f x)]
  rfl

theorem branch_io (c : Core) (b : Int) (a n f : Bool) (x : Regs) : c_branch (c.io a n f x) b = (c_branch c b).io a n f x := by
  unfold c_branch
  rw [apply_ite (fun q : Core => q.io a n f x)]
  rfl

theorem turn_io (c : Core) (b : Int) (a n f : Bool) (x : Regs) : c_turn (c.io a n f x) b = (c_turn c b).io a n f x := by
  unfold c_turn
  rw [apply_ite (fun q : Core => q.io a n f x)]
  rfl

theorem fetch_io (c : Core) (b : Int) (a n f : Bool) (x : Regs) : fetchF (c.io a n f x) b = (fetchF c b).io a n f x := by
  unfold fetchF
  have key : ∀ i, (fetchT.getD i fun c _ => c) (c.io a n f x) b = ((fetchT.getD i fun c _ => c) c b).io a n f x := by
    intro i
    rcases Nat.lt_or_ge i 40 with h | h
    · have : ∀ i : Nat, i < 40 → i = 0 ∨ i = 1 ∨ i = 2 ∨ i = 3 ∨ i = 4 ∨ i = 5 ∨ i = 6 ∨ i = 7 ∨ i = 8 ∨ i = 9 ∨ i = 10 ∨ i = 11 ∨ i = 12 ∨ i = 13 ∨ i = 14 ∨ i = 15 ∨ i = 16 ∨ i = 17 ∨ i = 18 ∨ i = 19 ∨ i = 20 ∨ i = 21 ∨ i = 22 ∨ i = 23 ∨ i = 24 ∨ i = 25 ∨ i = 26 ∨ i = 27 ∨ i = 28 ∨ i = 29 ∨ i = 30 ∨ i = 31 ∨ i = 32 ∨ i = 33 ∨ i = 34 ∨ i = 35 ∨ i = 36 ∨ i = 37 ∨ i = 38 ∨ i = 39 := by omega
      rcases this i h with h | h | h | h | h | h | h | h | h | h | h | h | h | h | h | h | h | h | h | h | h | h | h | h | h | h | h | h | h | h | h | h | h | h | h | h | h | h | h | h <;> subst h <;> rfl
    · have e : fetchT[i]? = none := by simp only [List.getElem?_eq_none_iff]; exact h
      simp only [List.getD, e]; rfl
  exact key _

theorem doF_io (d : Nat) (c : Core) (b : Int) (a n f : Bool) (x : Regs) : doF d (c.io a n f x) b = (doF d c b).io a n f x := by
  by_cases hd : d ∈ dos
  · simp only [dos, List.mem_cons, List.not_mem_nil, or_false] at hd
    rcases hd with rfl | rfl | rfl | rfl | rfl | rfl | rfl | rfl | rfl | rfl | rfl | rfl | rfl | rfl | rfl | rfl | rfl | rfl | rfl | rfl | rfl | rfl | rfl | rfl | rfl | rfl | rfl | rfl | rfl | rfl | rfl
    all_goals first
      | rfl
      | exact fetch_io c b a n f x
      | exact branch_io c b a n f x
      | exact turn_io c b a n f x
      | exact over_io { c with r := { c.r with PC := IntKind.u16.wrap (c.r.PC + 1) } } b c.r.U.X a n f x
      | exact over_io { c with r := { c.r with PC := IntKind.u16.wrap (c.r.PC + 1) } } b c.r.U.Y a n f x
      | exact over_io c b c.r.U.Y a n f x
  · have e : ∀ c : Core, doF d c b = c := by
      intro c
      simp only [dos, List.mem_cons, List.not_mem_nil, or_false, not_or] at hd
      simp only [doF, hd, if_false]
    rw [e, e]

/-- A cycle, of a core that has more of them. -/
theorem cycle_eq (c : Core) (P : List Int) (L : List RAcc) (irq nmi : Bool) {p : Nat × Nat} {r : List (Nat × Nat)} (hl : c.l = p :: r) :
    cycleF c P L irq nmi = (fin ((doF p.2 { c with l := r } (byteOf P L (wantF p.1 c))).io (c.waits || (nmi && !c.line)) nmi false c.was) irq, memOf L (wantF p.1 c), wantF p.1 c) := by
  have e1 : c_Wants c = wantF p.1 c := by unfold c_Wants hdW; rw [hl]; rfl
  have e2 : ∀ b, clockF c b irq nmi = fin ((doF p.2 { c with l := r } b).io (c.waits || (nmi && !c.line)) nmi false c.was) irq := by
    intro b
    unfold clockF hdD
    have e3 : take1 c nmi = ({ c with l := r } : Core).io (c.waits || (nmi && !c.line)) nmi false c.was := by
      unfold take1 Core.io; rw [hl]; rfl
    rw [e3, doF_io, hl]; rfl
  unfold cycleF byteOf memOf putF
  rw [e1]
  split
  · rw [e2]
  · rw [e2]

theorem fin_cons {c : Core} (h : c.l ≠ []) (irq : Bool) : fin c irq = c := by unfold fin; rw [if_pos h]
theorem fin_nil {c : Core} (h : c.l = []) (hw : c.waits = false) : fin c false = c_begin c [(38, 39)] := by
  unfold fin
  rw [if_neg (fun q => q h), if_neg (by rw [hw]; decide), if_neg (by simp)]

/-- Cycles from one to the next beginning, without lines: the accesses, the core and the memory then. -/
inductive Tr (P : List Int) : Core → List RAcc → List Acc → Core → List RAcc → Prop
  | one {c c' : Core} {L L' : List RAcc} {a : Acc} (h : cycleF c P L false false = (c', L', a)) (hf : c'.fresh = true) : Tr P c L [a] c' L'
  | more {c c1 c' : Core} {L L1 L' : List RAcc} {a : Acc} {l : List Acc} (h : cycleF c P L false false = (c1, L1, a)) (hf : c1.fresh = false) (t : Tr P c1 L1 l c' L') : Tr P c L (a :: l) c' L'

theorem io_fix {c : Core} (hw : c.waits = false) (hn : c.line = false) : c = c.io false false c.fresh c.was := by
  unfold Core.io; cases c; simp only at hw hn; subst hw hn; rfl

theorem unroll_io (a n f : Bool) (x : Regs) : ∀ (fuel : Nat) (c : Core) (P : List Int) (L : List RAcc), runP P (unroll fuel (c.io a n f x)) L = ((runP P (unroll fuel c) L).1.io a n f x, (runP P (unroll fuel c) L).2)
  | 0, c, P, L => rfl
  | fuel + 1, c, P, L => by
    have hl : (c.io a n f x).l = c.l := rfl
    simp only [unroll, hl]
    cases c.l with
    | nil => rfl
    | cons p r =>
      simp only [runP, wantF_io]
      have e : ∀ b, doF p.2 { c.io a n f x with l := r } b = (doF p.2 { c with l := r } b).io a n f x := fun b => doF_io p.2 { c with l := r } b a n f x
      simp only [e, unroll_io a n f x fuel]

/-- A core follows its tree. -/
theorem tr_of_run (P : List Int) : ∀ (fuel : Nat) (c : Core) (L : List RAcc), c.waits = false → c.line = false → c.l ≠ [] → (runP P (unroll fuel c) L).1.l = [] →
    Tr P c L (runP P (unroll fuel c) L).2.2 (c_begin ((runP P (unroll fuel c) L).1.io false false false c.was) [(38, 39)]) (runP P (unroll fuel c) L).2.1
  | 0, c, L, hw, hn, hl, he => absurd he hl
  | fuel + 1, c, L, hw, hn, hl, he => by
    cases hc : c.l with
    | nil => exact absurd hc hl
    | cons p r =>
      have hcy := cycle_eq c P L false false hc
      rw [show (c.waits || (false && !c.line)) = false from by rw [hw]; rfl] at hcy
      have hrun : runP P (unroll (fuel + 1) c) L = ((runP P (unroll fuel (doF p.2 { c with l := r } (byteOf P L (wantF p.1 c)))) (memOf L (wantF p.1 c))).1, (runP P (unroll fuel (doF p.2 { c with l := r } (byteOf P L (wantF p.1 c)))) (memOf L (wantF p.1 c))).2.1,
          wantF p.1 c :: (runP P (unroll fuel (doF p.2 { c with l := r } (byteOf P L (wantF p.1 c)))) (memOf L (wantF p.1 c))).2.2) := by
        simp only [unroll, hc, runP]
      rw [hrun] at he ⊢
      simp only at he ⊢
      generalize hd : doF p.2 { c with l := r } (byteOf P L (wantF p.1 c)) = d at hcy he ⊢
      by_cases hdl : d.l = []
      · have hq : runP P (unroll fuel d) (memOf L (wantF p.1 c)) = (d, memOf L (wantF p.1 c), []) := by
          cases fuel with
          | zero => rfl
          | succ m => simp only [unroll, hdl, runP]
        rw [hq]
        rw [fin_nil (c := d.io false false false c.was) hdl rfl] at hcy
        exact .one hcy rfl
      · rw [fin_cons (c := d.io false false false c.was) hdl] at hcy
        have ih := tr_of_run P fuel (d.io false false false c.was) (memOf L (wantF p.1 c)) rfl rfl hdl (by rw [unroll_io]; exact he)
        rw [unroll_io] at ih
        exact .more hcy rfl ih

/-- Two trees that go alike, whatever the bytes. -/
inductive Rel {α β : Type} (R : α → β → Prop) : Pr α → Pr β → Prop
  | ret {x : α} {y : β} (h : R x y) : Rel R (.ret x) (.ret y)
  | acc {a : Acc} {k : Int → Pr α} {k' : Int → Pr β} (h : ∀ g, rng 256 g → Rel R (k g) (k' g)) : Rel R (.acc a k) (.acc a k')

theorem rng_byteOf (P : List Int) (L : List RAcc) (a : Acc) : rng 256 (byteOf P L a) := by
  unfold byteOf; split
  · decide
  · exact rng_wrap_u8 _

theorem Rel.run {α β : Type} {R : α → β → Prop} {t : Pr α} {u : Pr β} (h : Rel R t u) (P : List Int) : ∀ L, R (runP P t L).1 (runP P u L).1 ∧ (runP P t L).2 = (runP P u L).2 := by
  induction h with
  | ret h => exact fun L => ⟨h, rfl⟩
  | @acc a k k' h ih =>
    intro L
    have := ih (byteOf P L a) (rng_byteOf P L a) (memOf L a)
    simp only [runP]
    exact ⟨this.1, by rw [this.2]⟩
end Go.Proofs.YtmnhmplcpijanaaGreat
