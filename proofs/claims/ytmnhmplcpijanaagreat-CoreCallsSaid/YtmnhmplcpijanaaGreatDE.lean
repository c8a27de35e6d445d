/-
  CoreCalls: what is called comes back behind the call, what is pushed is pulled. No condition.
-/
import Derived.Test.YtmnhmplcpijanaaGreatDA
import Derived.Test.YtmnhmplcpijanaaGreatDD
namespace Go.Proofs.YtmnhmplcpijanaaGreat
open Go VX
set_option linter.unusedVariables false
set_option linter.unusedSimpArgs false
set_option maxRecDepth 100000

/-- Rounds of a relation that go on. -/
inductive Reach {S R : Type} (rel : S → S ⊕ R → Prop) : S → S → Prop
  | refl (s : S) : Reach rel s s
  | step {s s1 s2 : S} (h : rel s (.inl s1)) (t : Reach rel s1 s2) : Reach rel s s2
theorem Reach.trans {S R : Type} {rel : S → S ⊕ R → Prop} {a b c : S} (h : Reach rel a b) (k : Reach rel b c) : Reach rel a c := by
  induction h with
  | refl => exact k
  | step h _ ih => exact .step h (ih k)
theorem Reach.loop {S R : Type} {rel : S → S ⊕ R → Prop} {a b : S} {r : R} (h : Reach rel a b) (k : LoopR rel b r) : LoopR rel a r := by
  induction h with
  | refl => exact k
  | step h _ ih => exact .more h (ih k)

theorem Tr.len {P : List Int} {c c' : Core} {L L' : List RAcc} {l : List Acc} (t : Tr P c L l c' L') : L'.length ≤ L.length + l.length := by
  induction t with
  | @one c c' L L' a h hf => have := len_cycle c P L false false; rw [h] at this; simpa using this
  | @more c c1 c' L L1 L' a l h hf t ih => have := len_cycle c P L false false; rw [h] at this; simp only [List.length_cons] at ih ⊢; simp only at this; omega

/-- What an instruction comes to, its code being known. -/
theorem run_code {P : List Int} {L : List RAcc} {q : Regs} {b : Int} {i : Nat} {body : Code → Regs → Pr Regs} (hc : codeAt P L q = b) (hi : clsOf (codeF b) = i) (hb : (bodyT.getD i fun _ r => .ret r) = body) :
    runP P (iprog q) L = ((runP P (body (codeF b) (q.go (nx q.PC))) L).1, (runP P (body (codeF b) (q.go (nx q.PC))) L).2.1, rd q.PC :: (runP P (body (codeF b) (q.go (nx q.PC))) L).2.2) := by
  have e : runP P (iprog q) L = ((runP P ((bodyT.getD (clsOf (codeF (codeAt P L q))) fun _ r => .ret r) (codeF (codeAt P L q)) (q.go (nx q.PC))) L).1, (runP P ((bodyT.getD (clsOf (codeF (codeAt P L q))) fun _ r => .ret r) (codeF (codeAt P L q)) (q.go (nx q.PC))) L).2.1,
      rd q.PC :: (runP P ((bodyT.getD (clsOf (codeF (codeAt P L q))) fun _ r => .ret r) (codeF (codeAt P L q)) (q.go (nx q.PC))) L).2.2) := rfl
  rw [e, hc, hi, hb]

theorem code_72 : clsOf (codeF 72) = 35 := by kernel_rfl
theorem code_8 : clsOf (codeF 8) = 36 := by kernel_rfl
theorem code_104 : clsOf (codeF 104) = 37 := by kernel_rfl
theorem code_40 : clsOf (codeF 40) = 38 := by kernel_rfl
theorem code_32 : clsOf (codeF 32) = 31 := by kernel_rfl
theorem code_96 : clsOf (codeF 96) = 32 := by kernel_rfl
theorem jam_ne {b : Int} {i : Nat} (w : rng 256 b) (h : clsOf (codeF b) = i) (hi : i ≠ 39) : (codeF b).Op ≠ 69 := by
  intro hj
  have hc := cls_of w
  have hl := cls_lt hc
  rw [h] at hc hl
  have : ∀ i : Nat, i < 40 → i = 39 ∨ (match clsT[i]? with | some (m, K, o) => (decide (K ≠ 6) || decide (o ≠ 69)) | none => true) = true := by decide
  rcases this i hl with h2 | h2
  · exact hi h2
  · unfold cls at hc
    cases e : clsT[i]? with
    | none => rw [e] at hc; cases hc
    | some x =>
      obtain ⟨m, K, o⟩ := x
      rw [e] at hc h2
      simp only [Bool.and_eq_true, Bool.or_eq_true, beq_iff_eq, decide_eq_true_eq] at hc h2
      obtain ⟨⟨_, hk⟩, ho⟩ := hc
      have hk6 : aKind (codeF b).Op = 6 := by rw [hj, kind_of]; rfl
      rcases h2 with h2 | h2
      · exact h2 (by rw [← hk, hk6])
      · rcases ho with ho | ho
        · have h39 : ∀ i : Nat, i < 40 → (match clsT[i]? with | some (m, K, o) => (decide (K = 6) && decide (o = -1)) | none => false) = false := by decide
          have := h39 i hl
          rw [e] at this
          simp only [Bool.and_eq_false_imp, decide_eq_true_eq, decide_eq_false_iff_not] at this
          exact this (by rw [← hk, hk6]) ho
        · exact h2 (by rw [← ho, hj])

section
variable {r : Regs} {to : Int} {php : Bool}
/-- Cycles of the law's loop. -/
theorem calls_go {c c1 : Core} {L L1 : List RAcc} {a : Acc} {n : Int} {met : Bool} (h : cycleF c [234] L false false = (c1, L1, a)) (h0 : 0 ≤ n) (h1 : n < 40) (h2 : L.length < 1000) (hv : Inv c)
    (hn : n = 0 ∨ c.fresh = false ∨ ((((IntKind.i64.wrap (c.was.PC)) : Int) != (IntKind.i64.wrap ((IntKind.i64.wrap (bOr .u16 16384 (bAnd .u16 r.PC 16368))) + 5))) = true)) :
    lawCalls_L2n r to php (L, n, met, c) (.inl (L1, n + 1, met || (c.fresh && (c.was.PC == (bOr .u16 36864 (bAnd .u16 to 4095)))), c1)) := by
  have hd : (decide (n < 40)) = true := decide_eq_true h1
  have hl : L.length + 1 ≤ 1048576 := by omega
  have e : ∀ m : Bool, ((cycleF c ([234] : List Int) L false false).2.1, (IntKind.i64.wrap (n + 1)), m, (cycleF c ([234] : List Int) L false false).1) = (L1, n + 1, m, c1) := by intro m; rw [h, i64_small (by omega) (by omega)]
  by_cases hz : n = 0
  · have hz' : ((n : Int) == 0) = true := by simpa using hz
    cases met with
    | true => rw [Bool.true_or, ← e]; exact .p1 hd hz' rfl hv hl
    | false =>
      cases hf : c.fresh with
      | true => rw [Bool.false_or, Bool.true_and, ← e]; exact .p2 hd hz' rfl hf hv hl
      | false => rw [Bool.false_or, Bool.false_and, ← e]; exact .p3 hd hz' rfl hf hv hl
  · have hz' : ((n : Int) == 0) = false := by simpa using hz
    have hn := hn.resolve_left hz
    cases hf : c.fresh with
    | false =>
      have hr : (!(c_Ready c)) = true := by rw [ready_fresh, hf]; rfl
      cases met with
      | true => rw [Bool.true_or, ← e]; exact .p4 hd hz' hr rfl hv hl
      | false => rw [Bool.false_or, Bool.false_and, ← e]; exact .p6 hd hz' hr rfl hf hv hl
    | true =>
      have hr : (!(c_Ready c)) = false := by rw [ready_fresh, hf]; rfl
      have hn := hn.resolve_left (by rw [hf]; exact fun h => nomatch h)
      cases met with
      | true => rw [Bool.true_or, ← e]; exact .p7 hd hz' hr hn rfl hv hl
      | false => rw [Bool.false_or, Bool.true_and, ← e]; exact .p8 hd hz' hr hn rfl hf hv hl

theorem calls_tr {c c' : Core} {L L' : List RAcc} {l : List Acc} (t : Tr [234] c L l c' L') : ∀ (n : Int) (met : Bool), 0 ≤ n → n + l.length ≤ 40 → L.length + l.length ≤ 1000 → Inv c →
    (n = 0 ∨ c.fresh = false ∨ ((((IntKind.i64.wrap (c.was.PC)) : Int) != (IntKind.i64.wrap ((IntKind.i64.wrap (bOr .u16 16384 (bAnd .u16 r.PC 16368))) + 5))) = true)) →
    Reach (lawCalls_L2n r to php) (L, n, met, c) (L', n + (l.length : Int), met || (c.fresh && (c.was.PC == (bOr .u16 36864 (bAnd .u16 to 4095)))), c') := by
  induction t with
  | @one c c' L L' a h hf =>
    intro n met h0 h1 h2 hv hn
    simp only [List.length_cons, List.length_nil] at h1 h2 ⊢
    exact .step (calls_go h h0 (by omega) (by omega) hv hn) (.refl _)
  | @more c c1 c' L L1 L' a l h hf t ih =>
    intro n met h0 h1 h2 hv hn
    simp only [List.length_cons] at h1 h2 ⊢
    have hv1 : Inv c1 := by have := inv_cycle hv [234] L false false; rw [h] at this; exact this
    have hl1 : L1.length ≤ L.length + 1 := by have := len_cycle c [234] L false false; rw [h] at this; exact this
    have := ih (n + 1) (met || (c.fresh && (c.was.PC == (bOr .u16 36864 (bAnd .u16 to 4095))))) (by omega) (by omega) (by omega) hv1 (.inr (.inl hf))
    rw [hf, Bool.false_and, Bool.or_false, show n + 1 + (l.length : Int) = n + ((l.length + 1 : Nat) : Int) by omega] at this
    exact .step (calls_go h h0 (by omega) (by omega) hv hn) this
end

-- ---------------------------------------------------------------- numbers

/-- Flags behind a load are the document's. -/
def sgnB (P : Nat) : Bool := [(false, false), (false, true), (true, false), (true, true)].all fun x =>
  rFlags (IntKind.i64.wrap (uFlag (uFlag ⟨0, 0, 0, 0, right (P : Int)⟩ 128 x.1) 2 x.2).P) == (rSet_2 (rSet_128 ⟨0, 0, 0, 0, rFlags (IntKind.i64.wrap (P : Int))⟩ (bif x.1 then 1 else 0)) (bif x.2 then 1 else 0)).P
theorem sgn_all : allN sgnB 8 0 = true := by kernel_rfl
theorem flag_P (u : Un) (k : Int) (on : Bool) : (uFlag u k on).P = (uFlag ⟨0, 0, 0, 0, u.P⟩ k on).P ∧ (uFlag u k on).A = u.A ∧ (uFlag u k on).X = u.X ∧ (uFlag u k on).Y = u.Y ∧ (uFlag u k on).S = u.S := by
  unfold uFlag uFlag_J1
  cases on <;> exact ⟨rfl, rfl, rfl, rfl, rfl⟩
theorem sign_own (P m : Int) (wP : rng 256 P) (wm : rng 256 m) : rFlags (IntKind.i64.wrap (uFlag (uFlag ⟨0, 0, 0, 0, right P⟩ 128 (((bAnd .u8 m 128) : Int) != 0)) 2 ((m : Int) == 0)).P) =
    (rSet_2 (rSet_128 ⟨0, 0, 0, 0, rFlags (IntKind.i64.wrap P)⟩ (IntKind.i64.wrap (Int.tdiv (IntKind.i64.wrap m) 128))) (rYes (((IntKind.i64.wrap m) : Int) == 0))).P := by
  have h := allN_int sgn_all P wP.1 (by have := wP.2; simpa using this)
  unfold sgnB at h
  rw [Int.toNat_of_nonneg wP.1, List.all_eq_true] at h
  obtain ⟨m1, m2⟩ := wm
  have e1 : IntKind.i64.wrap m = m := i64_small m1 (by omega)
  have e2 : bAnd .u8 m 128 = m / 128 * 128 := by
    have := bAnd_field (k := .u8) rfl 7 1 (a := m) (m := 128) (by rfl) m1 (by show m < 256; omega) (by decide)
    rw [this]
    show m / 128 % 2 * 128 = m / 128 * 128
    omega
  have e3 : Int.tdiv m 128 = m / 128 := Int.tdiv_eq_ediv_of_nonneg m1
  rw [e1, e2, e3]
  have e4 : IntKind.i64.wrap (m / 128) = m / 128 := i64_small (by omega) (by omega)
  rw [e4]
  have e5 : rYes ((m : Int) == 0) = bif ((m : Int) == 0) then 1 else 0 := by unfold rYes; cases ((m : Int) == 0) <;> rfl
  have e6 : m / 128 = bif ((m / 128 * 128 : Int) != 0) then 1 else 0 := by
    rcases (show m / 128 = 0 ∨ m / 128 = 1 by omega) with h | h <;> rw [h] <;> rfl
  have hx := h (((m / 128 * 128 : Int) != 0), ((m : Int) == 0)) (by cases ((m / 128 * 128 : Int) != 0) <;> cases ((m : Int) == 0) <;> simp)
  simp only [beq_iff_eq] at hx
  rw [e5]
  conv => rhs; rw [e6]
  exact hx
/-- Flags that were pushed. -/
def pushB (P : Nat) : Bool := rFlags (IntKind.i64.wrap (right (bOr .u8 (right (P : Int)) 16))) == rFlags (IntKind.i64.wrap (P : Int)) && (bOr .u8 (right (P : Int)) 16 == IntKind.u8.wrap (IntKind.i64.wrap (bOr .u8 (right (P : Int)) 16)))
theorem push_all : allN pushB 8 0 = true := by kernel_rfl
theorem push_own (P : Int) (wP : rng 256 P) : rFlags (IntKind.i64.wrap (right (bOr .u8 (right P) 16))) = rFlags (IntKind.i64.wrap P) := by
  have h := allN_int push_all P wP.1 (by have := wP.2; simpa using this)
  unfold pushB at h
  rw [Int.toNat_of_nonneg wP.1] at h
  simp only [Bool.and_eq_true, beq_iff_eq] at h
  exact h.1

theorem up_dn {s : Int} (h : rng 256 s) : up (dn s) = s := by unfold up dn; rw [w8, w8]; obtain ⟨a, b⟩ := h; omega
theorem dn_ne {s : Int} (h : rng 256 s) : dn s ≠ s ∧ dn (dn s) ≠ s ∧ dn (dn s) ≠ dn s := by unfold dn; rw [w8, w8]; obtain ⟨a, b⟩ := h; omega
end Go.Proofs.YtmnhmplcpijanaaGreat
