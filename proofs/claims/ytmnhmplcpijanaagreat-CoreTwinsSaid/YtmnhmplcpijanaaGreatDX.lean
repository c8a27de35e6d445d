/-
  CoreTwins: two cores of one beginning go alike; a copy goes on by itself. No condition.
-/
import Derived.Test.YtmnhmplcpijanaaGreatDW
import Derived.Test.YtmnhmplcpijanaaGreatCY
namespace Go.Proofs.YtmnhmplcpijanaaGreat
open Go VX
set_option linter.unusedVariables false
set_option linter.unusedSimpArgs false
set_option maxRecDepth 100000

theorem fetch_s (c : Core) (b : Int) (w_b : rng 256 b) : (fetchF c b).l.length ≤ 7 := by
  have hlt := cls_lt (cls_of w_b)
  unfold fetchF
  have key : ∀ i, i < 40 → ((fetchT.getD i fun c _ => c) c b).l.length ≤ 7 := by
    intro i hi
    have : i = 0 ∨ i = 1 ∨ i = 2 ∨ i = 3 ∨ i = 4 ∨ i = 5 ∨ i = 6 ∨ i = 7 ∨ i = 8 ∨ i = 9 ∨ i = 10 ∨ i = 11 ∨ i = 12 ∨ i = 13 ∨ i = 14 ∨ i = 15 ∨ i = 16 ∨ i = 17 ∨ i = 18 ∨ i = 19 ∨ i = 20 ∨ i = 21 ∨ i = 22 ∨ i = 23 ∨ i = 24 ∨ i = 25 ∨ i = 26 ∨ i = 27 ∨ i = 28 ∨ i = 29 ∨ i = 30 ∨ i = 31 ∨ i = 32 ∨ i = 33 ∨ i = 34 ∨ i = 35 ∨ i = 36 ∨ i = 37 ∨ i = 38 ∨ i = 39 := by omega
    rcases this with h | h | h | h | h | h | h | h | h | h | h | h | h | h | h | h | h | h | h | h | h | h | h | h | h | h | h | h | h | h | h | h | h | h | h | h | h | h | h | h <;> subst h <;> exact Nat.le_of_ble_eq_true rfl
  exact key _ (by omega)

theorem do_s (d : Nat) (c : Core) (b : Int) (w_b : rng 256 b) (h : c.l.length ≤ 7) : (doF d c b).l.length ≤ 7 := by
  have hb : (c_branch c b).l = c.l ∨ (c_branch c b).l = [(38, 119)] := by
    unfold c_branch; repeat' split
    all_goals first | exact .inl rfl | exact .inr rfl
  have ht : (c_turn c b).l = c.l ∨ (c_turn c b).l = [(85, 135)] := by
    unfold c_turn; repeat' split
    all_goals first | exact .inl rfl | exact .inr rfl
  have ho' : ∀ (x : Core) (m : Int), x.l.length ≤ 7 → (c_over x b m).l.length ≤ 7 := by
    intro x m hx
    have ho : (c_over x b m).l = x.l ∨ (c_over x b m).l = x.l.tail := by
      unfold c_over; repeat' split
      all_goals first | exact .inl rfl | exact .inr rfl
    rcases ho with e | e <;> rw [e]
    · exact hx
    · rw [List.length_tail]; omega
  by_cases hd : d ∈ dos
  · simp only [dos, List.mem_cons, List.not_mem_nil, or_false] at hd
    rcases hd with rfl | rfl | rfl | rfl | rfl | rfl | rfl | rfl | rfl | rfl | rfl | rfl | rfl | rfl | rfl | rfl | rfl | rfl | rfl | rfl | rfl | rfl | rfl | rfl | rfl | rfl | rfl | rfl | rfl | rfl | rfl
    all_goals first
      | exact h
      | exact fetch_s c b w_b
      | (show (c_branch c b).l.length ≤ 7; rcases hb with e | e <;> rw [e] <;> first | exact h | exact Nat.le_of_ble_eq_true rfl)
      | (show (c_turn c b).l.length ≤ 7; rcases ht with e | e <;> rw [e] <;> first | exact h | exact Nat.le_of_ble_eq_true rfl)
      | exact ho' _ _ h
      | exact Nat.le_of_ble_eq_true rfl
  · have e : doF d c b = c := by
      simp only [dos, List.mem_cons, List.not_mem_nil, or_false, not_or] at hd
      simp only [doF, hd, if_false]
    rw [e]; exact h

theorem short_clock {c : Core} (h : c.l.length ≤ 7) {b : Int} (w_b : rng 256 b) (irq nmi : Bool) : (clockF c b irq nmi).l.length ≤ 7 := by
  have hl : (doF (hdD c.l) (take1 c nmi) b).l.length ≤ 7 := do_s _ _ _ w_b (by show c.l.tail.length ≤ 7; rw [List.length_tail]; omega)
  unfold clockF fin
  repeat' split
  all_goals first | exact hl | exact Nat.le_of_ble_eq_true rfl

theorem short_cycle {c : Core} (h : c.l.length ≤ 7) (P : List Int) (L : List RAcc) (irq nmi : Bool) : (cycleF c P L irq nmi).1.l.length ≤ 7 := by
  unfold cycleF
  split
  · exact short_clock h (by decide) irq nmi
  · exact short_clock h (rng_wrap_u8 _) irq nmi

/-- What holds of a core and its memory. -/
structure Fine (c : Core) (L : List RAcc) (k : Nat) : Prop where
  inv : Inv c
  s : c.l.length ≤ 7
  len : L.length ≤ k
theorem Fine.step {c : Core} {L : List RAcc} {k : Nat} (h : Fine c L k) (P : List Int) (irq nmi : Bool) : Fine (cycleF c P L irq nmi).1 (cycleF c P L irq nmi).2.1 (k + 1) :=
  ⟨inv_cycle h.inv P L irq nmi, short_cycle h.s P L irq nmi, Nat.le_trans (len_cycle c P L irq nmi) (Nat.add_le_add_right h.len 1)⟩

/-- Cycles without lines. -/
def runC (P : List Int) : Nat → Core → List RAcc → Core × List RAcc
  | 0, c, L => (c, L)
  | k + 1, c, L => runC P k (cycleF c P L false false).1 (cycleF c P L false false).2.1
theorem runC_fine (P : List Int) : ∀ (n k : Nat) (c : Core) (L : List RAcc), Fine c L k → Fine (runC P n c L).1 (runC P n c L).2 (k + n)
  | 0, k, c, L, h => h
  | n + 1, k, c, L, h => by
    have := runC_fine P n (k + 1) _ _ (h.step P false false)
    rw [show k + (n + 1) = k + 1 + n by omega]
    exact this

section
variable {N d : Nat} {p : Nat → Int} {r : Regs} {n : Int} {M e : Nat} {l : Nat → Int}
theorem i64_nat {k : Nat} (h : k < 999999) : IntKind.i64.wrap ((k : Int) + 1) = ((k + 1 : Nat) : Int) := by rw [i64_small (by omega) (by omega)]; omega
theorem twins_1 {T : Nat} (hT : IntKind.i64.wrap (Int.tmod n 60) = (T : Int)) (hT2 : T ≤ 60) : ∀ (m i : Nat) (c : Core) (L : List RAcc), i + m = T → Fine c L i →
    ∃ (c' : Core) (L' : List RAcc), LoopR (lawTwins_L1n N d p r n M e l) (L, L, (i : Int), c, c) (L', L', (T : Int), c', c') ∧ Fine c' L' T
  | 0, i, c, L, hi, h => by
    have : i = T := by omega
    subst this
    exact ⟨c, L, .last (.p2 (decide_eq_false (by rw [hT]; show ¬ ((i : Int) < (i : Int)); omega))), h⟩
  | m + 1, i, c, L, hi, h => by
    have hl := h.len
    have st := lawTwins_L1n.p1 (N_p := N) (d_p := d) (p := p) (r := r) (n := n) (N_lines := M) (d_lines := e) (lines := l) (xd := (L, L, (i : Int), c, c)) (decide_eq_true (by rw [hT]; show (i : Int) < (T : Int); omega)) (by show 0 ≤ (i : Int); omega) h.inv (by show L.length + 1 ≤ _; omega) h.inv (by show L.length + 1 ≤ _; omega)
    simp only [i64_nat (show i < 999999 by omega)] at st
    generalize (((bAnd .u8 (lawTwins_J2ny N d p n M e l (L, L, (i : Int), c, c) (decide ((i : Int) < ((M : Nat) : Int)))) 1) : Int) != 0) = q1 at st
    generalize (((bAnd .u8 (lawTwins_J2ny N d p n M e l (L, L, (i : Int), c, c) (decide ((i : Int) < ((M : Nat) : Int)))) 2) : Int) != 0) = q2 at st
    obtain ⟨c', L', t, h'⟩ := twins_1 hT hT2 m (i + 1) _ _ (by omega) (h.step (cutF N d p 100) q1 q2)
    exact ⟨c', L', .more st t, h'⟩

theorem twins_3 {r1 : (List RAcc) × (List RAcc) × Int × Core × Core} : ∀ (m i : Nat) (c : Core) (L : List RAcc), i + m = 20 → Fine c L (60 + i) →
    LoopR (lawTwins_L3n N d p r n M e l r1) (L, (i : Int), c) ((runC (cutF N d p 100) m c L).2, 20, (runC (cutF N d p 100) m c L).1)
  | 0, i, c, L, hi, h => by
    have : i = 20 := by omega
    subst this
    exact .last (.p2 (decide_eq_false (by show ¬ (((20 : Nat) : Int) < 20); omega)))
  | m + 1, i, c, L, hi, h => by
    have hl := h.len
    have st := lawTwins_L3n.p1 (N_p := N) (d_p := d) (p := p) (r := r) (n := n) (N_lines := M) (d_lines := e) (lines := l) (r1 := r1) (xd := (L, (i : Int), c)) (decide_eq_true (by show (i : Int) < 20; omega)) h.inv (by show L.length + 1 ≤ _; omega)
    simp only [i64_nat (show i < 999999 by omega)] at st
    exact .more st (twins_3 m (i + 1) _ _ (by omega) (h.step _ false false))

theorem twins_4 {r1 : (List RAcc) × (List RAcc) × Int × Core × Core} {r3 : (List RAcc) × Int × Core} : ∀ (m i : Nat) (c : Core) (L : List RAcc), i + m = 20 → Fine c L (60 + i) →
    LoopR (lawTwins_L4n N d p r n M e l r1 r3) (L, L, (i : Int), false, c, c) (.inl ((runC (cutF N d p 100) m c L).2, (runC (cutF N d p 100) m c L).2, 20, false, (runC (cutF N d p 100) m c L).1, (runC (cutF N d p 100) m c L).1))
  | 0, i, c, L, hi, h => by
    have : i = 20 := by omega
    subst this
    exact .last (.p7 (decide_eq_false (by show ¬ (((20 : Nat) : Int) < 20); omega)))
  | m + 1, i, c, L, hi, h => by
    have hl := h.len
    have st := lawTwins_L4n.p6 (N_p := N) (d_p := d) (p := p) (r := r) (n := n) (N_lines := M) (d_lines := e) (lines := l) (r1 := r1) (r3 := r3) (xd := (L, L, (i : Int), false, c, c)) (decide_eq_true (by show (i : Int) < 20; omega)) h.inv.ne h.inv.hw h.inv.ne h.inv.hw (by simp) (by simp) (by simp) (by simp) h.inv (by show L.length + 1 ≤ _; omega) h.inv (by show L.length + 1 ≤ _; omega) (by simp)
    simp only [i64_nat (show i < 999999 by omega)] at st
    exact .more st (twins_4 m (i + 1) _ _ (by omega) (h.step _ false false))
end

theorem twins_j5 (c : Core) (L L1 L2 : List RAcc) (i j : Int) : lawTwins_J5ny (L, i, c) (L1, L2, j, false, c, c) = true := by
  unfold lawTwins_J5ny
  simp

theorem twins_true (N d : Nat) (p : Nat → Int) (r : Regs) (n : Int) (M e : Nat) (l : Nat → Int) (wp : ∀ j, rng 256 (p j)) (hN : (N : Int) ≤ 9223372036854775807) (w : Regs.ok r) (wn : rng 256 n) (wl : ∀ j, rng 256 (l j)) (hM : (M : Int) ≤ 9223372036854775807) :
    FnSpec Tryz.prog 8 1002 [.slice (some ⟨1000, 0, (some d)⟩) N 0, Regs.enc r, .int .u8 n, .slice (some ⟨1001, 0, (some e)⟩) M 0] [(1000, ⟨[.gap d, .ints .u8 N p], 5, true⟩), (1001, ⟨[.gap e, .ints .u8 M l], 5, true⟩)] (.bool true) [] := by
  have hz : (!awakeF) = false := by rw [awake_tt]; rfl
  have hT : IntKind.i64.wrap (Int.tmod n 60) = ((n % 60).toNat : Int) := by
    obtain ⟨a, b⟩ := wn
    rw [Int.tmod_eq_emod_of_nonneg a, i64_small (by omega) (by omega)]; omega
  have h0 : Fine (coreFrom r) [] 0 := ⟨inv_from w, Nat.le_of_ble_eq_true rfl, Nat.le_refl _⟩
  obtain ⟨c, L, t1, h1⟩ := twins_1 (N := N) (d := d) (p := p) (r := r) (M := M) (e := e) (l := l) hT (by omega) (n % 60).toNat 0 (coreFrom r) [] (by omega) h0
  have h2 : Fine c L (60 + 0) := ⟨h1.inv, h1.s, Nat.le_trans h1.len (by omega)⟩
  have h3 := runC_fine (cutF N d p 100) 20 _ _ _ h2
  have hlen := h2.len
  have t3 := twins_3 (N := N) (d := d) (p := p) (r := r) (n := n) (M := M) (e := e) (l := l) (r1 := (L, L, ((n % 60).toNat : Int), c, c)) 20 0 c L rfl h2
  have t4 := twins_4 (N := N) (d := d) (p := p) (r := r) (n := n) (M := M) (e := e) (l := l) (r1 := (L, L, ((n % 60).toNat : Int), c, c)) (r3 := ((runC (cutF N d p 100) 20 c L).2, 20, (runC (cutF N d p 100) 20 c L).1)) 20 0 c L rfl h2
  generalize runC (cutF N d p 100) 20 c L = q at h3 t3 t4
  have k := lawTwins_p1 N d p r n M e l hN hM hz (L, L, ((n % 60).toNat : Int), c, c) t1 h1.inv.ne h1.s (show L.length ≤ 1048576 by omega) (q.2, 20, q.1) t3 (q.2, q.2, 20, false, q.1, q.1) t4 h3.inv.ne h3.inv.hw h3.inv.ne h3.inv.hw
  exact of_eq k (twins_j5 q.1 q.2 q.2 q.2 20 20)
end Go.Proofs.YtmnhmplcpijanaaGreat
