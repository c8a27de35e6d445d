/-
  Helpers of the core's laws: rounds that go on, what is read of a memory. No condition.
-/
import Derived.Test.YtmnhmplcpijanaaGreatCX
import Derived.Test.YtmnhmplcpijanaaGreatCJ
import Derived.Test.YtmnhmplcpijanaaGreatVN
namespace Go.Proofs.YtmnhmplcpijanaaGreat
open Go VX
set_option linter.unusedVariables false
set_option linter.unusedSimpArgs false
set_option maxRecDepth 100000

theorem awake_tt : awakeF = true := by kernel_rfl

theorem i64_small {x : Int} (h0 : 0 ≤ x) (h : x < 1000000) : IntKind.i64.wrap x = x := by rw [IntKind.wrap_i64]; omega
theorem byte_rd {P : List Int} {L : List RAcc} {a v : Int} (ha : rng 65536 a) (h : getF P L a = v) (hv : rng 256 v) : byteOf P L (rd a) = v := by
  show IntKind.u8.wrap (getF P L (IntKind.i64.wrap a)) = v
  rw [i64_small ha.1 (by have := ha.2; omega), h, w8_in hv]
theorem get_none {P : List Int} {L : List RAcc} {a : Int} (h : lastAt a L = none) : getF P L a = if P.length = 0 then 0 else IntKind.i64.wrap (P.getD (Int.toNat (Int.tmod a (P.length : Int))) 0) := by unfold getF; rw [h]
theorem get_one {p a : Int} {L : List RAcc} (hp : rng 256 p) (h : lastAt a L = none) : getF [p] L a = p := by
  rw [get_none h, if_neg (by simp)]
  have : Int.tmod a (([p] : List Int).length : Int) = 0 := Int.tmod_one a
  rw [this]
  exact i64_small hp.1 (by have := hp.2; show p < _; omega)
theorem get_some {P : List Int} {L : List RAcc} {a b : Int} (h : lastAt a L = some b) : getF P L a = b := by unfold getF; rw [h]

theorem ready_fresh (c : Core) : c_Ready c = c.fresh := rfl

theorem of_eq {P : Program} {g n : Nat} {A : List Value} {H H' : Heap} {x y : Bool} (h : FnSpec P g n A H (.bool x) H') (e : x = y) : FnSpec P g n A H (.bool y) H' := e ▸ h
/-- Rounds of a relation that go on. -/
inductive Reach {S R : Type} (rel : S → S ⊕ R → Prop) : S → S → Prop
  | refl (s : S) : Reach rel s s
  | step {s s1 s2 : S} (h : rel s (.inl s1)) (t : Reach rel s1 s2) : Reach rel s s2
theorem Reach.trans {S R : Type} {rel : S → S ⊕ R → Prop} {a b c : S} (h : Reach rel a b) (k : Reach rel b c) : Reach rel a c := by
  induction h with
  | refl => exact k
  | step h _ ih => exact .step h (ih k)
theorem Reach.loop {S R : Type} {rel : S → S ⊕ R → Prop} {a b : S} {r : R} (h : Reach rel a b) (k : LoopR rel b r) : LoopR rel a r := by
  induction h with
  | refl => exact k
  | step h _ ih => exact .more h (ih k)

theorem Tr.len {P : List Int} {c c' : Core} {L L' : List RAcc} {l : List Acc} (t : Tr P c L l c' L') : L'.length ≤ L.length + l.length := by
  induction t with
  | @one c c' L L' a h hf => have := len_cycle c P L false false; rw [h] at this; simpa using this
  | @more c c1 c' L L1 L' a l h hf t ih => have := len_cycle c P L false false; rw [h] at this; simp only [List.length_cons] at ih ⊢; simp only at this; omega

/-- What an instruction comes to, its code being known. -/
theorem run_code {P : List Int} {L : List RAcc} {q : Regs} {b : Int} {i : Nat} {body : Code → Regs → Pr Regs} (hc : codeAt P L q = b) (hi : clsOf (codeF b) = i) (hb : (bodyT.getD i fun _ r => .ret r) = body) :
    runP P (iprog q) L = ((runP P (body (codeF b) (q.go (nx q.PC))) L).1, (runP P (body (codeF b) (q.go (nx q.PC))) L).2.1, rd q.PC :: (runP P (body (codeF b) (q.go (nx q.PC))) L).2.2) := by
  have e : runP P (iprog q) L = ((runP P ((bodyT.getD (clsOf (codeF (codeAt P L q))) fun _ r => .ret r) (codeF (codeAt P L q)) (q.go (nx q.PC))) L).1, (runP P ((bodyT.getD (clsOf (codeF (codeAt P L q))) fun _ r => .ret r) (codeF (codeAt P L q)) (q.go (nx q.PC))) L).2.1,
      rd q.PC :: (runP P ((bodyT.getD (clsOf (codeF (codeAt P L q))) fun _ r => .ret r) (codeF (codeAt P L q)) (q.go (nx q.PC))) L).2.2) := rfl
  rw [e, hc, hi, hb]

theorem jam_ne {b : Int} {i : Nat} (w : rng 256 b) (h : clsOf (codeF b) = i) (hi : i ≠ 39) : (codeF b).Op ≠ 69 := by
  intro hj
  have hc := cls_of w
  have hl := cls_lt hc
  rw [h] at hc hl
  have : ∀ i : Nat, i < 40 → i = 39 ∨ (match clsT[i]? with | some (m, K, o) => (decide (K ≠ 6) || decide (o ≠ 69)) | none => true) = true := by decide
  rcases this i hl with h2 | h2
  · exact hi h2
  · unfold cls at hc
    cases e : clsT[i]? with
    | none => rw [e] at hc; cases hc
    | some x =>
      obtain ⟨m, K, o⟩ := x
      rw [e] at hc h2
      simp only [Bool.and_eq_true, Bool.or_eq_true, beq_iff_eq, decide_eq_true_eq] at hc h2
      obtain ⟨⟨_, hk⟩, ho⟩ := hc
      have hk6 : aKind (codeF b).Op = 6 := by rw [hj, kind_of]; rfl
      rcases h2 with h2 | h2
      · exact h2 (by rw [← hk, hk6])
      · rcases ho with ho | ho
        · have h39 : ∀ i : Nat, i < 40 → (match clsT[i]? with | some (m, K, o) => (decide (K = 6) && decide (o = -1)) | none => false) = false := by decide
          have := h39 i hl
          rw [e] at this
          simp only [Bool.and_eq_false_imp, decide_eq_true_eq, decide_eq_false_iff_not] at this
          exact this (by rw [← hk, hk6]) ho
        · exact h2 (by rw [← ho, hj])

theorem flag_P (u : Un) (k : Int) (on : Bool) : (uFlag u k on).P = (uFlag ⟨0, 0, 0, 0, u.P⟩ k on).P ∧ (uFlag u k on).A = u.A ∧ (uFlag u k on).X = u.X ∧ (uFlag u k on).Y = u.Y ∧ (uFlag u k on).S = u.S := by
  unfold uFlag uFlag_J1
  cases on <;> exact ⟨rfl, rfl, rfl, rfl, rfl⟩
theorem up_dn {s : Int} (h : rng 256 s) : up (dn s) = s := by unfold up dn; rw [w8, w8]; obtain ⟨a, b⟩ := h; omega
theorem dn_ne {s : Int} (h : rng 256 s) : dn s ≠ s ∧ dn (dn s) ≠ s ∧ dn (dn s) ≠ dn s := by unfold dn; rw [w8, w8]; obtain ⟨a, b⟩ := h; omega
theorem last_app (a : Int) (L M : List RAcc) : lastAt a (L ++ M) = match lastAt a M with | some b => some b | none => lastAt a L := by
  induction L with
  | nil => simp only [List.nil_append, lastAt]; cases lastAt a M <;> rfl
  | cons x L ih =>
    simp only [List.cons_append, lastAt, ih]
    cases lastAt a M <;> rfl
end Go.Proofs.YtmnhmplcpijanaaGreat
