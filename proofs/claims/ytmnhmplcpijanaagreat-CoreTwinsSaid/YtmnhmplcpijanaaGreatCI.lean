/-
  A cycle of the clock as one function, and what holds of the core behind each. No condition.
-/
import Derived.Test.YtmnhmplcpijanaaGreatCH
namespace Go.Proofs.YtmnhmplcpijanaaGreat
open Go VX
set_option linter.unusedVariables false
set_option linter.unusedSimpArgs false
set_option maxRecDepth 100000

/-- What follows, where there are no more cycles. -/
def fin (c : Core) (irq : Bool) : Core :=
  if c.l ≠ [] then c
  else if c.waits = true then c_interrupt { c with waits := false } 65530
  else if irq = true ∧ bAnd .u8 c.r.U.P 4 = 0 then c_interrupt c 65534
  else c_begin c [(38, 39)]
/-- A cycle of the clock. -/
def clockF (c : Core) (b : Int) (irq nmi : Bool) : Core := fin (doF (hdD c.l) (take1 c nmi) b) irq

theorem len_pos {l : List (Nat × Nat)} : (decide (((List.length l : Nat) : Int) > 0)) = true ↔ l ≠ [] := by
  cases l with
  | nil => simp
  | cons a r => simp

theorem clock_eq (c : Core) (b : Int) (irq nmi : Bool) : c_Clock c b irq nmi = clockF c b irq nmi := by
  have key : ∀ x : Core, (if (decide (((List.length x.l : Nat) : Int) > 0)) = true then x else if x.waits = true then c_interrupt { x with waits := false } 65530 else if irq = true then (if (((bAnd .u8 ((x.r).U).P 4) : Int) == 0) = true then c_interrupt x 65534 else c_begin x [(38, 39)]) else c_begin x [(38, 39)]) = fin x irq := by
    intro x
    unfold fin
    by_cases h1 : x.l ≠ []
    · rw [if_pos (len_pos.2 h1), if_pos h1]
    · rw [if_neg (fun h => h1 (len_pos.1 h)), if_neg h1]
      by_cases h2 : x.waits = true
      · rw [if_pos h2, if_pos h2]
      · rw [if_neg h2, if_neg h2]
        cases irq with
        | true =>
          rw [if_pos rfl]
          by_cases h3 : bAnd .u8 x.r.U.P 4 = 0
          · rw [if_pos (by simpa using h3), if_pos ⟨rfl, h3⟩]
          · rw [if_neg (by simpa using h3), if_neg (fun h => h3 h.2)]
        | false => rw [if_neg (by decide), if_neg (by simp)]
  unfold clockF c_Clock take1
  cases hw : c.waits with
  | true => rw [if_pos rfl]; simpa using key (doF (hdD c.l) { c with l := List.tail c.l, fresh := false, waits := true, line := nmi } b)
  | false =>
    rw [if_neg (by decide)]
    cases nmi with
    | true => rw [if_pos rfl]; simpa using key (doF (hdD c.l) { c with l := List.tail c.l, fresh := false, waits := (!c.line), line := true } b)
    | false => rw [if_neg (by decide)]; simpa using key (doF (hdD c.l) { c with l := List.tail c.l, fresh := false, waits := false, line := false } b)

/-- Cycles that can be gone through. -/
def LOk : List (Nat × Nat) → Prop
  | [] => True
  | p :: r => p.1 ∈ wants ∧ p.2 ∈ dos ∧ (p.2 = 82 ∨ p.2 = 84 ∨ p.2 = 92 → r ≠ []) ∧ LOk r
/-- What holds of a core between cycles. -/
structure Inv (c : Core) : Prop where
  ok : Core.ok c
  ne : c.l ≠ []
  l : LOk c.l

theorem LOk.tail : ∀ {l : List (Nat × Nat)}, LOk l → LOk l.tail
  | [], _ => trivial
  | _ :: _, h => h.2.2.2

theorem Inv.hw {c : Core} (h : Inv c) : hdW c.l ∈ wants := by
  have h1 := h.ne; have h2 := h.l
  cases e : c.l with
  | nil => exact absurd e h1
  | cons p r => rw [e] at h2; exact h2.1
theorem Inv.hd {c : Core} (h : Inv c) (nmi : Bool) : DoOk (hdD c.l) (take1 c nmi) := by
  have h1 := h.ne; have h2 := h.l
  unfold take1
  cases e : c.l with
  | nil => exact absurd e h1
  | cons p r => rw [e] at h2; exact ⟨h2.2.1, h2.2.2.1⟩

def lokB : List (Nat × Nat) → Bool
  | [] => true
  | p :: r => wants.contains p.1 && dos.contains p.2 && (!(p.2 == 82 || p.2 == 84 || p.2 == 92) || !r.isEmpty) && lokB r
theorem lok_of : ∀ {l : List (Nat × Nat)}, lokB l = true → LOk l
  | [], _ => trivial
  | p :: r, h => by
    simp only [lokB, Bool.and_eq_true, List.contains_iff_mem] at h
    refine ⟨h.1.1.1, h.1.1.2, fun hp e => ?_, lok_of h.2⟩
    have h3 := h.1.2
    subst e
    rcases hp with e | e | e <;> rw [e] at h3 <;> revert h3 <;> decide

theorem fetch_l (c : Core) (b : Int) (w_b : rng 256 b) : (fetchF c b).l ≠ [] ∧ LOk (fetchF c b).l := by
  have hlt := cls_lt (cls_of w_b)
  unfold fetchF
  have key : ∀ i, i < 40 → ((fetchT.getD i fun c _ => c) c b).l ≠ [] ∧ LOk ((fetchT.getD i fun c _ => c) c b).l := by
    intro i hi
    have : i = 0 ∨ i = 1 ∨ i = 2 ∨ i = 3 ∨ i = 4 ∨ i = 5 ∨ i = 6 ∨ i = 7 ∨ i = 8 ∨ i = 9 ∨ i = 10 ∨ i = 11 ∨ i = 12 ∨ i = 13 ∨ i = 14 ∨ i = 15 ∨ i = 16 ∨ i = 17 ∨ i = 18 ∨ i = 19 ∨ i = 20 ∨ i = 21 ∨ i = 22 ∨ i = 23 ∨ i = 24 ∨ i = 25 ∨ i = 26 ∨ i = 27 ∨ i = 28 ∨ i = 29 ∨ i = 30 ∨ i = 31 ∨ i = 32 ∨ i = 33 ∨ i = 34 ∨ i = 35 ∨ i = 36 ∨ i = 37 ∨ i = 38 ∨ i = 39 := by omega
    rcases this with h | h | h | h | h | h | h | h | h | h | h | h | h | h | h | h | h | h | h | h | h | h | h | h | h | h | h | h | h | h | h | h | h | h | h | h | h | h | h | h <;> subst h <;> exact ⟨(fun h => nomatch h), lok_of rfl⟩
  exact key _ (by omega)

theorem do_l (d : Nat) (c : Core) (b : Int) (w_b : rng 256 b) (h : LOk c.l) : LOk (doF d c b).l := by
  have hb : (c_branch c b).l = c.l ∨ (c_branch c b).l = [(38, 119)] := by
    unfold c_branch; repeat' split
    all_goals first | exact .inl rfl | exact .inr rfl
  have ht : (c_turn c b).l = c.l ∨ (c_turn c b).l = [(85, 135)] := by
    unfold c_turn; repeat' split
    all_goals first | exact .inl rfl | exact .inr rfl
  have ho : ∀ (x : Core) (m : Int), (c_over x b m).l = x.l ∨ (c_over x b m).l = x.l.tail := by
    intro x m
    unfold c_over; repeat' split
    all_goals first | exact .inl rfl | exact .inr rfl
  have ho' : ∀ (x : Core) (m : Int), LOk x.l → LOk (c_over x b m).l := by
    intro x m hx
    rcases ho x m with e | e <;> rw [e]
    · exact hx
    · exact hx.tail
  by_cases hd : d ∈ dos
  · simp only [dos, List.mem_cons, List.not_mem_nil, or_false] at hd
    rcases hd with rfl | rfl | rfl | rfl | rfl | rfl | rfl | rfl | rfl | rfl | rfl | rfl | rfl | rfl | rfl | rfl | rfl | rfl | rfl | rfl | rfl | rfl | rfl | rfl | rfl | rfl | rfl | rfl | rfl | rfl | rfl
    all_goals first
      | exact h
      | exact (fetch_l c b w_b).2
      | (show LOk (c_branch c b).l; rcases hb with e | e <;> rw [e] <;> first | exact h | exact lok_of rfl)
      | (show LOk (c_turn c b).l; rcases ht with e | e <;> rw [e] <;> first | exact h | exact lok_of rfl)
      | exact ho' _ _ h
      | exact lok_of rfl
  · have e : doF d c b = c := by
      simp only [dos, List.mem_cons, List.not_mem_nil, or_false, not_or] at hd
      simp only [doF, hd, if_false]
    rw [e]; exact h

theorem take1_ok {c : Core} (h : Core.ok c) (nmi : Bool) : Core.ok (take1 c nmi) := by
  unfold take1; exact ⟨h.r, h.was, h.c, h.at_, h.near, h.vector, h.low, h.m⟩

theorem inv_clock {c : Core} (h : Inv c) {b : Int} (w_b : rng 256 b) (irq nmi : Bool) : Inv (clockF c b irq nmi) := by
  have hok : Core.ok (clockF c b irq nmi) := by rw [← clock_eq]; exact c_Clock_w c b irq nmi h.ok w_b h.ne (h.hd nmi)
  have hl : LOk (doF (hdD c.l) (take1 c nmi) b).l := do_l _ _ _ w_b h.l.tail
  refine ⟨hok, ?_, ?_⟩ <;> unfold clockF fin <;> repeat' split
  all_goals first | assumption | exact (fun h => nomatch h) | exact lok_of rfl

theorem inv_clock_ok (c : Core) (b : Int) (irq nmi : Bool) (w_b : rng 256 b) (hv : Inv c) : FnSpec Tryz.prog 28 1001 [.pointer (some ⟨1000, 0, none⟩), .int .u8 b, .bool irq, .bool nmi] [(1000, Core.blk c)] (.tuple ⟨[]⟩) [(1000, Core.blk (clockF c b irq nmi))] := by
  rw [← clock_eq]; exact c_Clock_ok c b irq nmi hv.ok w_b hv.ne (hv.hd nmi)
abbrev clockF_ok := inv_clock_ok
theorem inv_from {r : Regs} (w : Regs.ok r) : Inv (coreFrom r) := ⟨coreFrom_w r w, (fun h => nomatch h), lok_of rfl⟩
theorem inv_new : Inv coreNew := ⟨coreNew_w, (fun h => nomatch h), lok_of rfl⟩
theorem inv_reset {c : Core} (w : Core.ok c) : Inv (c_Reset c) := ⟨c_Reset_w c w, (fun h => nomatch h), lok_of rfl⟩
end Go.Proofs.YtmnhmplcpijanaaGreat
