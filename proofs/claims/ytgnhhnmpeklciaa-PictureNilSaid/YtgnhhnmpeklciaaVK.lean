/-
  Code and functions: what the executor comes to is what the model does. No condition.
-/
import Derived.Test.YtgnhhnmpeklciaaVJ
import Derived.LoopN
namespace Go.Proofs.Ytgnhhnmpeklciaa.VX
open Go
set_option linter.unusedSimpArgs false
set_option linter.unusedVariables false

def Ex.to : Ex → Exit
  | .normal => .normal
  | .exit id => .exit id
  | .ret => .ret

theorem Runs.elim {P : Program} {N : Nat} {c : Code} {T T' : Tm} {H H' : Heap} {n n' : Nat} {e : Ex} (r : Runs P N c T H n e T' H' n') {μ : Mu} {a : Act} {w : World} (hg : Gl P μ) (ht : TRel N μ (tget T) a.tmps) (hr : Rep μ (lk H) w)
    (hd : a.defers = []) (hf : ∀ i, n ≤ i → μ i = none) {Q : Exit → Act → World → Prop}
    (hQ : ∀ μ' a' w', μ.le μ' → (∀ i, i < n → μ' i = μ i) → (∀ i, n' ≤ i → μ' i = none) → TRel N μ' (tget T') a'.tmps → Rep μ' (lk H') w' → a'.defers = [] → Keeps μ (lk H) w μ' (lk H') w' → Q e.to a' w') : c.wp P Q a w := by
  refine r.2 μ a w hg ht hr hd hf Q ?_
  intro μ' a' w' h1 h2 h3 h4 h5 h6 h7
  have := hQ μ' a' w' h1 h2 h3 h4 h5 h6 h7
  cases e <;> exact this

theorem Runs.intro {P : Program} {N : Nat} {c : Code} {T T' : Tm} {H H' : Heap} {n n' : Nat} {e : Ex} (hn : n ≤ n')
    (h : ∀ (μ : Mu) (a : Act) (w : World), Gl P μ → TRel N μ (tget T) a.tmps → Rep μ (lk H) w → a.defers = [] → (∀ i, n ≤ i → μ i = none) →
      ∀ Q : Exit → Act → World → Prop, (∀ μ' a' w', μ.le μ' → (∀ i, i < n → μ' i = μ i) → (∀ i, n' ≤ i → μ' i = none) → TRel N μ' (tget T') a'.tmps → Rep μ' (lk H') w' → a'.defers = [] → Keeps μ (lk H) w μ' (lk H') w' → Q e.to a' w') → c.wp P Q a w) :
    Runs P N c T H n e T' H' n' := by
  refine ⟨hn, fun μ a w hg ht hr hd hf Q hQ => h μ a w hg ht hr hd hf Q ?_⟩
  intro μ' a' w' h1 h2 h3 h4 h5 h6 h7
  have := hQ μ' a' w' h1 h2 h3 h4 h5 h6 h7
  cases e <;> exact this

/-- One piece behind the other. -/
theorem Runs.seq {P : Program} {N : Nat} {c d : Code} {T T1 T2 : Tm} {H H1 H2 : Heap} {n n1 n2 : Nat} {e : Ex} (a : Runs P N c T H n .normal T1 H1 n1) (b : Runs P N d T1 H1 n1 e T2 H2 n2) : Runs P N (.seq c d) T H n e T2 H2 n2 := by
  have hn1 := a.1
  have hn2 := b.1
  refine .intro (Nat.le_trans hn1 hn2) fun μ ac w hg ht hr hd hf Q hQ => ?_
  refine wp_seq (a.elim hg ht hr hd hf ?_)
  intro μ1 a1 w1 hle1 hsame1 hf1 ht1 hr1 hd1 hk1
  show d.wp P Q a1 w1
  refine b.elim (hg.le hle1) ht1 hr1 hd1 hf1 ?_
  intro μ2 a2 w2 hle2 hsame2 hf2 ht2 hr2 hd2 hk2
  exact hQ μ2 a2 w2 (Mu.le_trans hle1 hle2) (fun i hi => by rw [hsame2 i (by omega), hsame1 i hi]) hf2 ht2 hr2 hd2 (hk1.trans hk2)

theorem Runs.seq_out {P : Program} {N : Nat} {c d : Code} {T T1 : Tm} {H H1 : Heap} {n n1 : Nat} {e : Ex} (he : e ≠ .normal) (a : Runs P N c T H n e T1 H1 n1) : Runs P N (.seq c d) T H n e T1 H1 n1 := by
  refine .intro a.1 fun μ ac w hg ht hr hd hf Q hQ => ?_
  refine wp_seq (a.elim hg ht hr hd hf ?_)
  intro μ1 a1 w1 h1 h2 h3 h4 h5 h6 h7
  have := hQ μ1 a1 w1 h1 h2 h3 h4 h5 h6 h7
  cases e with
  | normal => exact absurd rfl he
  | exit id => exact this
  | ret => exact this

/-- Where a block's inside ends, the block ends. -/
def outOf (id : Nat) : Ex → Ex
  | .exit i => bif Nat.beq i id then .normal else .exit i
  | e => e

theorem Runs.block {P : Program} {N : Nat} {id : Nat} {c : Code} {T T1 : Tm} {H H1 : Heap} {n n1 : Nat} {e : Ex} (a : Runs P N c T H n e T1 H1 n1) :
    Runs P N (.block id c) T H n (outOf id e) T1 H1 n1 := by
  refine .intro a.1 fun μ ac w hg ht hr hd hf Q hQ => ?_
  refine wp_block (a.elim hg ht hr hd hf ?_)
  intro μ1 a1 w1 h1 h2 h3 h4 h5 h6 h7
  have := hQ μ1 a1 w1 h1 h2 h3 h4 h5 h6 h7
  cases e with
  | normal => exact this
  | ret => exact this
  | exit i =>
    simp only [Ex.to, Exit.inBlock, outOf] at this ⊢
    cases hb : Nat.beq i id
    · rw [hb] at this
      rw [if_neg (beq_ff hb)]
      exact this
    · rw [hb] at this
      rw [if_pos (beq_tt hb)]
      exact this

theorem Runs.skip {P : Program} {N : Nat} (T : Tm) (H : Heap) (n : Nat) : Runs P N .skip T H n .normal T H n :=
  .intro (Nat.le_refl _) fun μ a w hg ht hr hd hf Q hQ => wp_skip (hQ μ a w (Mu.le_refl _) (fun _ _ => rfl) hf ht hr hd (Keeps.refl _ _ _))

theorem Runs.exit {P : Program} {N : Nat} (id : Nat) (T : Tm) (H : Heap) (n : Nat) : Runs P N (.exit id) T H n (.exit id) T H n :=
  .intro (Nat.le_refl _) fun μ a w hg ht hr hd hf Q hQ => wp_exit (hQ μ a w (Mu.le_refl _) (fun _ _ => rfl) hf ht hr hd (Keeps.refl _ _ _))

theorem Runs.ret {P : Program} {N : Nat} (T : Tm) (H : Heap) (n : Nat) : Runs P N .ret T H n .ret T H n :=
  .intro (Nat.le_refl _) fun μ a w hg ht hr hd hf Q hQ => wp_ret (hQ μ a w (Mu.le_refl _) (fun _ _ => rfl) hf ht hr hd (Keeps.refl _ _ _))

theorem Runs.cond {P : Program} {N : Nat} {x : Operand} {c d : Code} {T T1 : Tm} {H H1 : Heap} {n n1 : Nat} {e : Ex} {t : Bool} (hx : ev P T x = .bool t) (a : Runs P N (bif t then c else d) T H n e T1 H1 n1) : Runs P N (.cond x c d) T H n e T1 H1 n1 := by
  refine .intro a.1 fun μ ac w hg ht hr hd hf Q hQ => ?_
  have hv := ev_rel hg ht x
  rw [hx] at hv
  have he : ac.eval x = .bool t := by
    revert hv; generalize ac.eval x = X; intro hv; cases hv; rfl
  refine wp_cond he ?_
  have := a.elim hg ht hr hd hf hQ
  cases t <;> exact this

/-- The rounds of a loop, at most m of them. -/
def LRuns (P : Program) (N : Nat) (c : Code) (m : Nat) (T : Tm) (H : Heap) (n : Nat) (e : Ex) (T' : Tm) (H' : Heap) (n' : Nat) : Prop :=
  n ≤ n' ∧ ∀ (μ : Mu) (a : Act) (w : World), Gl P μ → TRel N μ (tget T) a.tmps → Rep μ (lk H) w → a.defers = [] → (∀ i, n ≤ i → μ i = none) →
    ∀ Q : Exit → Act → World → Prop, (∀ μ' a' w', μ.le μ' → (∀ i, i < n → μ' i = μ i) → (∀ i, n' ≤ i → μ' i = none) → TRel N μ' (tget T') a'.tmps → Rep μ' (lk H') w' → a'.defers = [] → Keeps μ (lk H) w μ' (lk H') w' → Q e.to a' w') →
      Code.rounds P c Q m a w

theorem LRuns.last {P : Program} {N : Nat} {c : Code} {T T1 : Tm} {H H1 : Heap} {n n1 : Nat} {e : Ex} (he : e ≠ .normal) (a : Runs P N c T H n e T1 H1 n1) (m : Nat) : LRuns P N c (m + 1) T H n e T1 H1 n1 := by
  refine ⟨a.1, fun μ ac w hg ht hr hd hf Q hQ => ?_⟩
  rw [rounds_succ]
  refine a.elim hg ht hr hd hf ?_
  intro μ1 a1 w1 h1 h2 h3 h4 h5 h6 h7
  have := hQ μ1 a1 w1 h1 h2 h3 h4 h5 h6 h7
  cases e with
  | normal => exact absurd rfl he
  | exit id => exact this
  | ret => exact this

theorem LRuns.more {P : Program} {N : Nat} {c : Code} {T T1 T2 : Tm} {H H1 H2 : Heap} {n n1 n2 m : Nat} {e : Ex} (a : Runs P N c T H n .normal T1 H1 n1) (b : LRuns P N c m T1 H1 n1 e T2 H2 n2) : LRuns P N c (m + 1) T H n e T2 H2 n2 := by
  have hn1 := a.1
  refine ⟨Nat.le_trans hn1 b.1, fun μ ac w hg ht hr hd hf Q hQ => ?_⟩
  rw [rounds_succ]
  refine a.elim hg ht hr hd hf ?_
  intro μ1 a1 w1 hle1 hsame1 hf1 ht1 hr1 hd1 hk1
  show Code.rounds P c Q m a1 w1
  refine b.2 μ1 a1 w1 (hg.le hle1) ht1 hr1 hd1 hf1 Q ?_
  intro μ2 a2 w2 hle2 hsame2 hf2 ht2 hr2 hd2 hk2
  exact hQ μ2 a2 w2 (Mu.le_trans hle1 hle2) (fun i hi => by rw [hsame2 i (by omega), hsame1 i hi]) hf2 ht2 hr2 hd2 (hk1.trans hk2)

theorem LRuns.loop {P : Program} {N : Nat} {c : Code} {T T1 : Tm} {H H1 : Heap} {n n1 m : Nat} {e : Ex} (a : LRuns P N c m T H n e T1 H1 n1) : Runs P N (.loop c) T H n e T1 H1 n1 :=
  .intro a.1 fun μ ac w hg ht hr hd hf Q hQ => wp_loop_rounds m (a.2 μ ac w hg ht hr hd hf Q hQ)

-- ---------------------------------------------------------------- less known at the beginning, more around

theorem tget_live (T : Tm) : ∀ (live : List Nat) (t : Nat), tget (live.map fun t => (t, tget T t)) t = tget T t ∨ tget (live.map fun t => (t, tget T t)) t = .tuple ⟨[]⟩
  | [], t => .inr rfl
  | x :: r, t => by
    simp only [List.map_cons, tget]
    cases e : Nat.beq t x
    · simpa using tget_live T r t
    · rw [beq_tt e]; simp

theorem TRel.live {N : Nat} {μ : Mu} {T : Tm} {tmps : Array Value} (r : TRel N μ (tget T) tmps) (live : List Nat) : TRel N μ (tget (live.map fun t => (t, tget T t))) tmps := by
  refine ⟨r.1, fun t => ?_⟩
  rcases tget_live T live t with h | h <;> rw [h]
  · exact r.2 t
  · exact .junk _

def pickH (H : HF) : List Nat → Option Heap
  | [] => some []
  | i :: r => match H i, pickH H r with
    | some B, some h => some ((i, B) :: h)
    | _, _ => none

theorem pickH_lk {H : HF} : ∀ {ids : List Nat} {h : Heap}, pickH H ids = some h → ∀ i, lk h i = bif memB i ids then H i else none
  | [], h, hp, i => by simp [pickH] at hp; subst hp; rfl
  | x :: r, h, hp, i => by
    simp only [pickH] at hp
    cases hx : H x with
    | none => simp [hx] at hp
    | some B =>
      cases hr : pickH H r with
      | none => simp [hx, hr] at hp
      | some h1 =>
        simp [hx, hr] at hp; subst hp
        simp only [lk, memB]
        cases e : Nat.beq i x
        · simpa using pickH_lk hr i
        · simp [beq_tt e, hx]

def dropH (ids : List Nat) : Heap → Heap
  | [] => []
  | (i, B) :: r => bif memB i ids then dropH ids r else (i, B) :: dropH ids r

theorem dropH_lk {ids : List Nat} : ∀ (h : Heap) (i : Nat), lk (dropH ids h) i = bif memB i ids then none else lk h i
  | [], i => by simp only [dropH, lk]; cases memB i ids <;> rfl
  | (j, B) :: r, i => by
    simp only [dropH]
    cases hm : memB j ids
    · simp only [cond_false, lk]
      cases e : Nat.beq i j
      · simpa using dropH_lk r i
      · rw [beq_tt e, hm]; rfl
    · simp only [cond_true]
      rw [dropH_lk r i]
      cases hi : memB i ids
      · simp only [cond_false, lk]
        cases e : Nat.beq i j
        · rfl
        · rw [beq_tt e, hm] at hi; cases hi
      · rfl

theorem lk_append (a b : Heap) (i : Nat) : lk (a ++ b) i = match lk a i with | some B => some B | none => lk b i := by
  induction a with
  | nil => rfl
  | cons x r ih =>
    obtain ⟨j, B⟩ := x
    simp only [List.cons_append, lk]
    cases Nat.beq i j
    · simpa using ih
    · simp

theorem Rep.framed {μ μ' : Mu} {h h0 h1 h2 : HF} {w w' : World} (r : Rep μ h w) (h0le : ∀ i B, h0 i = some B → h i = some B) (hle : μ.le μ') (r1 : Rep μ' h1 w') (k : Keeps μ h0 w μ' h1 w')
    (e2 : ∀ i B, h2 i = some B → h1 i = some B ∨ (μ' i = μ i ∧ h0 i = none ∧ h i = some B)) : Rep μ' h2 w' ∧ Keeps μ h w μ' h2 w' := by
  have untouched : ∀ i B b, h i = some B → h0 i = none → μ i = some b → ¬ Own μ h0 b := by
    rintro i B b hB hno hb ⟨j, A, hA, hAro, hj⟩
    have hij : i ≠ j := by rintro rfl; rw [hno] at hA; cases hA
    have := (r.apart i j B A b hB (h0le j A hA) hb hj hij).2
    rw [hAro] at this; cases this
  have mixed : ∀ i B b j C, h i = some B → h0 i = none → μ i = some b → h1 j = some C → μ' j = some b → C.ro = true ∧ B.ro = true := by
    intro i B b j C hB hno hb hC hj
    obtain ⟨j0, A0, hA0, hm0, hr0⟩ := k.old j C b hC hj (r.bound i b hb)
    have hij : i ≠ j0 := by rintro rfl; rw [hno] at hA0; cases hA0
    have := r.apart i j0 B A0 b hB (h0le j0 A0 hA0) hb hm0 hij
    refine ⟨?_, this.1⟩
    cases hc : C.ro with
    | true => rfl
    | false => rw [hr0 hc] at this; cases this.2
  constructor
  · refine ⟨?_, ?_, r1.bound, ?_, r1.frz, ?_⟩
    · intro i B hB hne
      rcases e2 i B hB with h | ⟨hs, hno, h⟩
      · exact r1.blk i B h hne
      · obtain ⟨b, hb, hrel⟩ := r.blk i B h (by rw [hs] at hne; exact hne)
        refine ⟨b, hle i b hb, ?_⟩
        rw [k.same b (r.bound i b hb) (untouched i B b h hno hb)]
        exact hrel.mono hle
    · intro i j A B b hA hB hi hj hne
      rcases e2 i A hA with h1' | ⟨hs, hno, h1'⟩ <;> rcases e2 j B hB with h2' | ⟨hs', hno', h2'⟩
      · exact r1.apart i j A B b h1' h2' hi hj hne
      · rw [hs'] at hj
        exact mixed j B b i A h2' hno' hj h1' hi
      · rw [hs] at hi
        exact (mixed i A b j B h1' hno hi h2' hj).symm
      · rw [hs] at hi; rw [hs'] at hj
        exact r.apart i j A B b h1' h2' hi hj hne
    · intro i B b hB hro hi
      rcases e2 i B hB with h1' | ⟨hsm, hno, h1'⟩
      · exact r1.size i B b h1' hro hi
      · rw [hsm] at hi
        obtain ⟨cs, t, fr, he, hs⟩ := r.size i B b h1' hro hi
        have hlt := r.bound i b hi
        exact ⟨cs, t, fr, by rw [k.same b hlt (untouched i B b h1' hno hi)]; exact he, hs.trans (k.ksz b hlt).symm⟩
    · intro i B b hB hro hi
      rcases e2 i B hB with h1' | ⟨hsm, hno, h1'⟩
      · exact r1.nofz i B b h1' hro hi
      · rw [hsm] at hi
        cases hf : μ'.fz b with
        | none => rfl
        | some cs =>
          rcases k.nfz b cs hf with h4 | h4 | h4
          · rw [r.nofz i B b h1' hro hi] at h4; cases h4
          · exact (untouched i B b h1' hno hi h4).elim
          · have := r.bound i b hi; omega
  · refine ⟨k.os, k.tape, k.output, k.size, ?_, ?_, k.ksz, k.kfz, ?_⟩
    · intro b hb hno
      exact k.same b hb fun ⟨i, B, e, ro, m⟩ => hno ⟨i, B, h0le i B e, ro, m⟩
    · intro i B b hB hm hb
      rcases e2 i B hB with h | ⟨hs, hno, h⟩
      · obtain ⟨i0, B0, h0', m0, r0⟩ := k.old i B b h hm hb
        exact ⟨i0, B0, h0le i0 B0 h0', m0, r0⟩
      · rw [hs] at hm
        exact ⟨i, B, h, hm, fun h => h⟩
    · intro b cs hf
      rcases k.nfz b cs hf with h4 | ⟨i, B, e, ro, m⟩ | h4
      · exact .inl h4
      · exact .inr (.inl ⟨i, B, h0le i B e, ro, m⟩)
      · exact .inr (.inr h4)

/-- The names of a heap lie below. -/
def belowI (n : Nat) : Heap → Bool
  | [] => true
  | (i, _) :: r => Nat.blt i n && belowI n r

theorem belowI_lk {n : Nat} : ∀ {H : Heap}, belowI n H = true → ∀ i B, lk H i = some B → i < n
  | [], _, i, B, h => by simp [lk] at h
  | (j, C) :: r, hb, i, B, h => by
    simp only [belowI, Bool.and_eq_true] at hb
    simp only [lk] at h
    cases e : Nat.beq i j <;> rw [e] at h
    · exact belowI_lk hb.2 i B (by simpa using h)
    · rw [beq_tt e]; exact blt_tt hb.1

theorem Runs.framed {P : Program} {N : Nat} {c : Code} {T T1 : Tm} {H H0 H1 : Heap} {n n1 : Nat} {e : Ex} {live ids : List Nat} (hp : pickH (lk H) ids = some H0) (hlow : belowI n (dropH ids H) = true) (a : Runs P N c (live.map fun t => (t, tget T t)) H0 n e T1 H1 n1) :
    Runs P N c T H n e T1 (H1 ++ dropH ids H) n1 := by
  have hlk := pickH_lk hp
  have h0le : ∀ i B, lk H0 i = some B → lk H i = some B := by
    intro i B hB
    rw [hlk] at hB
    cases hm : memB i ids <;> rw [hm] at hB
    · simp at hB
    · simpa using hB
  refine .intro a.1 fun μ ac w hg ht hr hd hf Q hQ => ?_
  refine a.elim hg (ht.live live) (hr.sub h0le) hd hf ?_
  intro μ1 a1 w1 hle1 hsame1 hf1 ht1 hr1 hd1 hk1
  obtain ⟨r2, k2⟩ := hr.framed h0le hle1 hr1 hk1 (h2 := lk (H1 ++ dropH ids H)) (by
    intro i B hB
    rw [lk_append] at hB
    cases h1 : lk H1 i with
    | some C => simp [h1] at hB; exact .inl (by rw [hB])
    | none =>
      simp only [h1] at hB
      have hin := belowI_lk hlow i B hB
      rw [dropH_lk] at hB
      refine .inr ⟨hsame1 i hin, ?_, ?_⟩
      · rw [hlk]
        cases hm : memB i ids
        · rfl
        · rw [hm] at hB; simp at hB
      · cases hm : memB i ids <;> rw [hm] at hB
        · simpa using hB
        · simp at hB)
  exact hQ μ1 a1 w1 hle1 hsame1 hf1 ht1 r2 hd1 k2

-- ---------------------------------------------------------------- code

structure St where
  T : Tm
  H : Heap
  n : Nat
  hs : List Hint
  ob : List Prop

/-- A piece of code by what is proved of it. -/
def xseg (P : Program) (N : Nat) (c : Code) (s : St) : List Hint → Option (Ex × St)
  | .seg live ids e T1 H1 n1 :: hs =>
    match pickH (lk s.H) ids with
    | some H0 => bif belowI s.n (dropH ids s.H) then some (e, { T := T1, H := H1 ++ dropH ids s.H, n := n1, hs, ob := s.ob ++ [Runs P N c (live.map fun t => (t, tget s.T t)) H0 s.n e T1 H1 n1] }) else none
    | none => none
  | _ => none

/-- A piece by its contract: k is 0 for a region, 1 for a block, 2 for a cond; i its number. -/
def xsegk (P : Program) (N : Nat) (k i : Nat) (c : Code) (s : St) : List Hint → Option (Ex × St)
  | .segk k' id live ids e T1 H1 n1 :: hs => bif Nat.beq k k' && Nat.beq i id then xseg P N c s (.seg live ids e T1 H1 n1 :: hs) else none
  | _ => none

def xcode (P : Program) (N : Nat) : Nat → Code → St → Option (Ex × St)
  | 0, _, _ => none
  | f + 1, c, s =>
    match c with
    | .skip => some (.normal, s)
    | .exit id => some (.exit id, s)
    | .ret => some (.ret, s)
    | .region id ops draw =>
      match xsegk P N 0 id (.region id ops draw) s s.hs with
      | some r => some r
      | none =>
      match xreg P N ops ops.toList s.T s.H s.n s.hs with
      | some (recs, T', H', n', hs') => bif !draw || orderOk ops recs then some (.normal, { T := T', H := H', n := n', hs := hs', ob := s.ob ++ obsOf recs }) else none
      | none => none
    | .seq a b =>
      match xcode P N f a s with
      | some (.normal, s') => xcode P N f b s'
      | r => r
    | .cond x a b =>
      match xsegk P N 2 0 (.cond x a b) s s.hs with
      | some r => some r
      | none =>
        match ev P s.T x with
        | .bool t =>
          match takeB t s.hs with
          | some (d, hs, ob) => xcode P N f (bif d then a else b) { s with hs := hs, ob := s.ob ++ ob }
          | none => none
        | _ => none
    | .block id b =>
      match xseg P N (.block id b) s s.hs with
      | some r => some r
      | none =>
      match xsegk P N 1 id (.block id b) s s.hs with
      | some r => some r
      | none =>
        match xcode P N f b s with
        | some (.exit i, s') => some (bif Nat.beq i id then .normal else .exit i, s')
        | r => r
    | .loop b =>
      match s.hs with
      | .unroll :: hs =>
        match xcode P N f b { s with hs := hs } with
        | some (.normal, s') => xcode P N f (.loop b) s'
        | r => r
      | _ => none
    | _ => none

theorem xseg_ok {P : Program} {N : Nat} {c : Code} {s s' : St} {hs : List Hint} {e : Ex} (h : xseg P N c s hs = some (e, s')) : (∀ q ∈ s.ob, q ∈ s'.ob) ∧ ((∀ q ∈ s'.ob, q) → Runs P N c s.T s.H s.n e s'.T s'.H s'.n) := by
  unfold xseg at h
  split at h
  · rename_i live ids e1 T1 H1 n1 hs'
    cases hp : pickH (lk s.H) ids with
    | none => simp [hp] at h
    | some H0 =>
      simp only [hp] at h
      cases hl : belowI s.n (dropH ids s.H) <;> rw [hl] at h
      · cases h
      simp only [cond_true, Option.some.injEq, Prod.mk.injEq] at h
      obtain ⟨rfl, rfl⟩ := h
      exact ⟨fun q hq => by simp [hq], fun hob => Runs.framed (live := live) hp hl (hob _ (by simp))⟩
  · simp at h

theorem xsegk_ok {P : Program} {N k i : Nat} {c : Code} {s s' : St} {hs : List Hint} {e : Ex} (h : xsegk P N k i c s hs = some (e, s')) : (∀ q ∈ s.ob, q ∈ s'.ob) ∧ ((∀ q ∈ s'.ob, q) → Runs P N c s.T s.H s.n e s'.T s'.H s'.n) := by
  unfold xsegk at h
  split at h
  · rename_i k' id live ids e1 T1 H1 n1 hs'
    cases hb : (Nat.beq k k' && Nat.beq i id) <;> rw [hb] at h
    · cases h
    · simp only [cond_true] at h; exact xseg_ok h
  · cases h

theorem xcode_ok {P : Program} {N : Nat} (hG : P.globals.size ≤ 1000) (hM : P.follows .mixedOrders = true) : ∀ (f : Nat) (c : Code) (s s' : St) (e : Ex), xcode P N f c s = some (e, s') →
    (∀ q ∈ s.ob, q ∈ s'.ob) ∧ ((∀ q ∈ s'.ob, q) → Runs P N c s.T s.H s.n e s'.T s'.H s'.n ∧ ∀ b, c = .loop b → ∃ m, LRuns P N b m s.T s.H s.n e s'.T s'.H s'.n)
  | 0, c, s, s', e, h => by simp [xcode] at h
  | f + 1, c, s, s', e, h => by
    have nl : ∀ {R : Prop}, R → (∀ b, c ≠ .loop b) → R ∧ ∀ b, c = .loop b → ∃ m, LRuns P N b m s.T s.H s.n e s'.T s'.H s'.n := fun r hn => ⟨r, fun b hb => absurd hb (hn b)⟩
    simp only [xcode] at h
    split at h
    case h_1 =>
      simp only [Option.some.injEq, Prod.mk.injEq] at h
      obtain ⟨rfl, rfl⟩ := h
      exact ⟨fun q hq => hq, fun _ => nl (Runs.skip _ _ _) (by simp)⟩
    case h_2 id =>
      simp only [Option.some.injEq, Prod.mk.injEq] at h
      obtain ⟨rfl, rfl⟩ := h
      exact ⟨fun q hq => hq, fun _ => nl (Runs.exit _ _ _ _) (by simp)⟩
    case h_3 =>
      simp only [Option.some.injEq, Prod.mk.injEq] at h
      obtain ⟨rfl, rfl⟩ := h
      exact ⟨fun q hq => hq, fun _ => nl (Runs.ret _ _ _) (by simp)⟩
    case h_4 id ops draw =>
      split at h
      · rename_i r hs
        simp only [Option.some.injEq] at h
        subst h
        obtain ⟨m1, r1⟩ := xsegk_ok hs
        exact ⟨m1, fun hob => nl (r1 hob) (by simp)⟩
      split at h
      · rename_i recs T' H' n' hs' hx
        cases hc : (!draw || orderOk ops recs) <;> rw [hc] at h
        · simp at h
        · simp only [cond_true, Option.some.injEq, Prod.mk.injEq] at h
          obtain ⟨rfl, rfl⟩ := h
          refine ⟨fun q hq => by simp [hq], fun hob => nl (region_ok hG hM hx ?_ fun q hq => hob q (by simp [hq])) (by simp)⟩
          intro hd
          simpa [hd] using hc
      · simp at h
    case h_5 a b =>
      split at h
      · rename_i s1 ha
        obtain ⟨m1, r1⟩ := xcode_ok hG hM f a s s1 .normal ha
        obtain ⟨m2, r2⟩ := xcode_ok hG hM f b s1 s' e h
        refine ⟨fun q hq => m2 q (m1 q hq), fun hob => nl ?_ (by simp)⟩
        exact Runs.seq (r1 fun q hq => hob q (m2 q hq)).1 (r2 hob).1
      · rename_i r hne
        obtain ⟨m1, r1⟩ := xcode_ok hG hM f a s s' e h
        refine ⟨m1, fun hob => nl (Runs.seq_out ?_ (r1 hob).1) (by simp)⟩
        rintro rfl
        exact hne _ h
    case h_6 x a b =>
      split at h
      · rename_i r hs
        simp only [Option.some.injEq] at h
        subst h
        obtain ⟨m1, r1⟩ := xsegk_ok hs
        exact ⟨m1, fun hob => nl (r1 hob) (by simp)⟩
      · split at h
        · rename_i t ht
          split at h
          · rename_i d hs ob htk
            obtain ⟨m1, r1⟩ := xcode_ok hG hM f _ _ s' e h
            refine ⟨fun q hq => m1 q (by simp [hq]), fun hob => nl ?_ (by simp)⟩
            have hd : t = d := takeB_spec htk fun q hq => hob q (m1 q (by simp [hq]))
            subst hd
            exact Runs.cond ht (r1 hob).1
          · simp at h
        · simp at h
    case h_7 id b =>
      split at h
      · rename_i r hs
        simp only [Option.some.injEq] at h
        subst h
        obtain ⟨m1, r1⟩ := xseg_ok hs
        exact ⟨m1, fun hob => nl (r1 hob) (by simp)⟩
      split at h
      · rename_i r hs
        simp only [Option.some.injEq] at h
        subst h
        obtain ⟨m1, r1⟩ := xsegk_ok hs
        exact ⟨m1, fun hob => nl (r1 hob) (by simp)⟩
      · split at h
        · rename_i i s1 hb
          simp only [Option.some.injEq, Prod.mk.injEq] at h
          obtain ⟨rfl, rfl⟩ := h
          obtain ⟨m1, r1⟩ := xcode_ok hG hM f b s s1 _ hb
          exact ⟨m1, fun hob => nl (Runs.block (r1 hob).1) (by simp)⟩
        · rename_i r hne
          obtain ⟨m1, r1⟩ := xcode_ok hG hM f b s s' e h
          refine ⟨m1, fun hob => nl ?_ (by simp)⟩
          have := Runs.block (id := id) (r1 hob).1
          cases e with
          | normal => exact this
          | ret => exact this
          | exit i => exact absurd h (hne i s')
    case h_8 b =>
      split at h
      · rename_i hs hhs
        split at h
        · rename_i s1 hb
          obtain ⟨m1, r1⟩ := xcode_ok hG hM f b _ s1 .normal hb
          obtain ⟨m2, r2⟩ := xcode_ok hG hM f (.loop b) s1 s' e h
          refine ⟨fun q hq => m2 q (m1 q hq), fun hob => ?_⟩
          obtain ⟨m, hm⟩ := (r2 hob).2 b rfl
          have := LRuns.more (r1 fun q hq => hob q (m2 q hq)).1 hm
          exact ⟨this.loop, fun b' hb' => by injection hb' with hb'; subst hb'; exact ⟨_, this⟩⟩
        · rename_i r hne
          obtain ⟨m1, r1⟩ := xcode_ok hG hM f b _ s' e h
          refine ⟨m1, fun hob => ?_⟩
          have he : e ≠ .normal := by rintro rfl; exact hne _ h
          have := LRuns.last he (r1 hob).1 0
          exact ⟨this.loop, fun b' hb' => by injection hb' with hb'; subst hb'; exact ⟨_, this⟩⟩
      · simp at h
    case h_9 => simp at h

-- ---------------------------------------------------------------- functions

def xresL (P : Program) (H : HF) (T : Tm) : List ResultVar → Option (List Value × List Prop)
  | [] => some ([], [])
  | .tmp t :: r => match xresL P H T r with
    | some (vs, ob) => some (tget T t :: vs, ob)
    | none => none
  | .cell a t :: r => match xload P H t (tget T a), xresL P H T r with
    | some (v, _, ob1), some (vs, ob) => some (v :: vs, ob1 ++ ob)
    | _, _ => none

def tupleOf : List Value → Value
  | [v] => v
  | vs => .tuple ⟨vs⟩

def argsT : Nat → List Value → Tm
  | _, [] => []
  | i, v :: r => (i, v) :: argsT (i + 1) r

def xfun (P : Program) (fn : Func) (fuel : Nat) (A : List Value) (H : Heap) (n0 : Nat) (hs : List Hint) : Option (Value × Heap × List Prop) :=
  match fn.body with
  | some c =>
    bif Nat.ble A.length fn.ntmps then
      match xcode P fn.ntmps fuel c { T := argsT 0 A, H, n := n0, hs, ob := [] } with
      | some (.exit _, _) => none
      | some (_, s) =>
        match xresL P (lk s.H) s.T fn.results.toList with
        | some (vs, ob) => some (tupleOf vs, s.H, s.ob ++ ob)
        | none => none
      | none => none
    else none
  | none => none

def conjP : List Prop → Prop → Prop
  | [], q => q
  | p :: r, q => p ∧ conjP r q

theorem conjP_spec : ∀ {l : List Prop} {q : Prop}, conjP l q → (∀ p ∈ l, p) ∧ q
  | [], q, h => ⟨by simp, h⟩
  | p :: r, q, h => by
    obtain ⟨a, b⟩ := conjP_spec h.2
    refine ⟨fun x hx => ?_, b⟩
    simp only [List.mem_cons] at hx
    rcases hx with rfl | hx
    · exact h.1
    · exact a x hx

/-- The blocks that are told of at the end are there. -/
def subP (H : HF) : Heap → Prop
  | [] => True
  | (i, B) :: r => H i = some B ∧ subP H r

theorem subP_spec {H : HF} : ∀ {h : Heap}, subP H h → ∀ i B, lk h i = some B → H i = some B
  | [], _, i, B, hl => by simp [lk] at hl
  | (j, C) :: r, h, i, B, hl => by
    simp only [lk] at hl
    cases e : Nat.beq i j <;> rw [e] at hl
    · exact subP_spec h.2 i B (by simpa using hl)
    · simp at hl; subst hl; rw [beq_tt e]; exact h.1

/-- The executor comes to v and H', if what it leaves to be proved holds. -/
def xok (P : Program) (fn : Func) (fuel : Nat) (A : List Value) (H : Heap) (n0 : Nat) (hs : List Hint) (v : Value) (H' : Heap) : Prop :=
  match xfun P fn fuel A H n0 hs with
  | some (v', Hend, ob) => conjP ob (v' = v ∧ subP (lk Hend) H')
  | none => False

def resOne (tmps : Array Value) : ResultVar → Sem Value
  | .tmp t => pure (tmps.getD t undef)
  | .cell a t => do loadVar t (← asAddr (tmps.getD a undef))

theorem results_eq (fn : Func) (tmps : Array Value) : results fn tmps = (do
    let vs ← fn.results.mapM (resOne tmps)
    pure (if h : vs.size = 1 then vs[0] else .tuple vs)) := by
  unfold results
  congr 1

theorem xresL_ok {P : Program} {h : HF} {T : Tm} {N : Nat} {μ : Mu} {tmps : Array Value} {w : World} (ht : TRel N μ (tget T) tmps) (hr : Rep μ h w) : ∀ {l : List ResultVar} {vs : List Value} {ob : List Prop}, xresL P h T l = some (vs, ob) → (∀ q ∈ ob, q) →
    ∃ rvs, VRels μ vs rvs ∧ (l.mapM (resOne tmps)).run P w = .ok rvs w
  | [], vs, ob, h, _ => by
    simp only [xresL, Option.some.injEq, Prod.mk.injEq] at h
    obtain ⟨rfl, rfl⟩ := h
    exact ⟨[], .nil, rfl⟩
  | .tmp t :: r, vs, ob, h, hob => by
    simp only [xresL] at h
    split at h
    · rename_i vs1 ob1 h1
      simp only [Option.some.injEq, Prod.mk.injEq] at h
      obtain ⟨rfl, rfl⟩ := h
      obtain ⟨rvs, a, b⟩ := xresL_ok ht hr h1 hob
      refine ⟨_, .cons (ht.2 t) a, ?_⟩
      simp only [List.mapM_cons, resOne, Sem.run_bind, Sem.run_pure, Result.andThen_ok, b]
    · simp at h
  | .cell p t :: r, vs, ob, h, hob => by
    simp only [xresL] at h
    split at h
    · rename_i v i ob0 vs1 ob1 hl h1
      simp only [Option.some.injEq, Prod.mk.injEq] at h
      obtain ⟨rfl, rfl⟩ := h
      obtain ⟨rvs, a, b⟩ := xresL_ok ht hr h1 (fun q hq => hob q (by simp [hq]))
      obtain ⟨rv, hrun, hv⟩ := xload_ok hl (fun q hq => hob q (by simp [hq])) rfl hr (ht.2 p)
      refine ⟨_, .cons hv a, ?_⟩
      have hone : (resOne tmps (.cell p t)).run P w = .ok rv w := by
        show ((do loadVar t (← asAddr (tmps.getD p undef)) : Sem Value)).run P w = .ok rv w
        revert hrun
        generalize tmps.getD p undef = X
        intro hrun
        cases X with
        | pointer q => cases q with
          | some ad => exact hrun
          | none => simp [Instr.loadAt, Instr.sureAddr, stuck, Sem.run] at hrun
        | _ => simp [Instr.loadAt, Instr.sureAddr, stuck, Sem.run] at hrun
      simp only [List.mapM_cons, Sem.run_bind, hone, Result.andThen_ok, b, Sem.run_pure]
    · simp at h

theorem tget_argsT : ∀ (A : List Value) (i t : Nat), tget (argsT i A) t = if i ≤ t then (A[t - i]?).getD (.tuple ⟨[]⟩) else .tuple ⟨[]⟩
  | [], i, t => by simp [argsT, tget]
  | v :: r, i, t => by
    simp only [argsT, tget]
    cases e : Nat.beq t i
    · simp only [cond_false]
      have hne := beq_ff e
      rw [tget_argsT r (i + 1) t]
      by_cases h : i ≤ t
      · rw [if_pos h, if_pos (by omega), show t - i = (t - (i + 1)) + 1 by omega]
        simp
      · rw [if_neg h, if_neg (by omega)]
    · rw [beq_tt e]; simp

theorem args_tmps {μ : Mu} {A rargs : List Value} {N : Nat} (hA : VRels μ A rargs) (hle : A.length ≤ N) : TRel N μ (tget (argsT 0 A)) (⟨rargs⟩ ++ Array.replicate (N - rargs.length) undef) := by
  have hl := hA.length
  refine ⟨by simp; omega, fun t => ?_⟩
  rw [tget_argsT]
  simp only [Nat.zero_le, if_true, Nat.sub_zero]
  cases h : A[t]? with
  | none => simp; exact .junk _
  | some v =>
    obtain ⟨y, hy, hv⟩ := hA.get t v h
    have hlt : t < rargs.length := (List.getElem?_eq_some_iff.1 hy).1
    rw [Array.getD_eq_getD_getElem?, Array.getElem?_append_left (by simpa using hlt)]
    simp [hy]
    exact hv

/-- A function's contract, out of the executor's run: all the blocks that it leaves. -/
theorem fn_of_xokE {P : Program} (hG : P.globals.size ≤ 1000) (hM : P.follows .mixedOrders = true) {g : FuncId} {fn : Func} (hf : P.funcs[g]? = some fn) (hb : fn.body.isSome = true) (hn : (fn.name == "runtime.NumGoroutine") = false) {fuel : Nat} {A : List Value} {H : Heap} {n0 : Nat}
    {hs : List Hint} {v' : Value} {Hend : Heap} {ob : List Prop} (hx : xfun P fn fuel A H n0 hs = some (v', Hend, ob)) (hob : ∀ q ∈ ob, q) : FnSpec P g n0 A H v' Hend := by
  unfold xfun at hx
  obtain ⟨c, hc⟩ := Option.isSome_iff_exists.1 hb
  simp only [hc] at hx
  cases hle : Nat.ble A.length fn.ntmps <;> rw [hle] at hx
  · simp at hx
  simp only [cond_true] at hx
  constructor
  · intro args w
    unfold callFunc program
    simp only [Sem.run_bind, Sem.run, Result.andThen_ok, hf]
    rw [if_neg (by simp [hn]), if_neg (by simp [hc])]
    rfl
  · intro μ w rargs hg hfr hA hr
    refine calls_of_wp hf hc ?_
    have htm := args_tmps hA (ble_tt hle)
    have key : ∀ (e : Ex) (s : St), xcode P fn.ntmps fuel c { T := argsT 0 A, H, n := n0, hs, ob := [] } = some (e, s) → (∀ i, e ≠ .exit i) → (match xresL P (lk s.H) s.T fn.results.toList with
        | some (vs, ob) => some (tupleOf vs, s.H, s.ob ++ ob)
        | none => none) = some (v', Hend, ob) → c.wp P (bodyPost P fn fun e w' => ∃ μ' rv, (μ.le μ' ∧ ∀ i, i < n0 → μ' i = μ i) ∧ Rep μ' (lk Hend) w' ∧ VRel μ' v' rv ∧ e = .returned rv ∧ Keeps μ (lk H) w μ' (lk Hend) w') { tmps := ⟨rargs⟩ ++ Array.replicate (fn.ntmps - (⟨rargs⟩ : Array Value).size) undef, defers := [] } w := by
      intro e s hxc he hres
      split at hres
      · rename_i vs ob1 hxr
        simp only [Option.some.injEq, Prod.mk.injEq] at hres
        obtain ⟨rfl, rfl, rfl⟩ := hres
        have hruns := ((xcode_ok hG hM fuel c _ s e hxc).2 fun q hq => hob q (by simp [hq])).1
        refine hruns.elim hg htm hr rfl hfr ?_
        intro μ1 a1 w1 hle1 hsame1 hf1 ht1 hr1 hd1 hk1
        obtain ⟨rvs, hrv, hrun⟩ := xresL_ok (P := P) ht1 hr1 hxr (fun q hq => hob q (by simp [hq]))
        have hres : (results fn a1.tmps).run P w1 = .ok (if h : (⟨rvs⟩ : Array Value).size = 1 then (⟨rvs⟩ : Array Value)[0] else .tuple ⟨rvs⟩) w1 := by
          rw [results_eq]
          simp only [Sem.run_bind, Array.mapM_eq_mapM_toList, Sem.run_map, hrun, Result.andThen_ok, Sem.run_pure]
        have hfin : ∃ rv, (results fn a1.tmps).run P w1 = .ok rv w1 ∧ VRel μ1 (tupleOf vs) rv := by
          refine ⟨_, hres, ?_⟩
          have hlen := hrv.length
          match vs, rvs, hrv with
          | [], [], _ => simp [tupleOf]; exact .junk _
          | [x], [y], hh => cases hh with | cons a b => simpa [tupleOf] using a
          | x :: x' :: r, y :: y' :: r', hh => simp [tupleOf]; exact .tup hh
          | [], _ :: _, hh => nomatch hh
          | _ :: _, [], hh => nomatch hh
          | [_], _ :: _ :: _, hh => exact absurd hh.length (by simp)
          | _ :: _ :: _, [_], hh => exact absurd hh.length (by simp)
        obtain ⟨rv, hrun1, hv⟩ := hfin
        have post : a1.defers = [] ∧ ∃ v, (results fn a1.tmps).run P w1 = .ok v w1 ∧ ∃ μ' rv, (μ.le μ' ∧ ∀ i, i < n0 → μ' i = μ i) ∧ Rep μ' (lk s.H) w1 ∧ VRel μ' (tupleOf vs) rv ∧ Ending.returned v = .returned rv ∧ Keeps μ (lk H) w μ' (lk s.H) w1 :=
          ⟨hd1, rv, hrun1, μ1, rv, ⟨hle1, hsame1⟩, hr1, hv, rfl, hk1⟩
        cases e with
        | normal => exact post
        | ret => exact post
        | exit i => exact absurd rfl (he i)
      · simp at hres
    split at hx
    · simp at hx
    · rename_i e s hne hxc
      refine key e s hxc ?_ hx
      rintro i rfl
      exact hne i rfl
    · simp at hx

/-- Fewer blocks are told of. -/
theorem FnSpec.sub {P : Program} {g : FuncId} {A : List Value} {H : Heap} {n0 : Nat} {v : Value} {Hend H' : Heap} (f : FnSpec P g n0 A H v Hend) (hs : subP (lk Hend) H') : FnSpec P g n0 A H v H' :=
  ⟨f.enters, fun μ w rargs hg hfr hA hr => (f.runs μ w rargs hg hfr hA hr).mono fun e w' ⟨μ', rv, h1, h2, h3, h4, h5⟩ => ⟨μ', rv, h1, h2.sub (subP_spec hs), h3, h4, h5.sub (subP_spec hs)⟩⟩

/-- A function's contract, out of the executor's run. -/
theorem fn_of_xok {P : Program} (hG : P.globals.size ≤ 1000) (hM : P.follows .mixedOrders = true) {g : FuncId} {fn : Func} (hf : P.funcs[g]? = some fn) (hb : fn.body.isSome = true) (hn : (fn.name == "runtime.NumGoroutine") = false) {fuel : Nat} {A : List Value} {H : Heap} {n0 : Nat}
    {hs : List Hint} {v : Value} {H' : Heap} (h : xok P fn fuel A H n0 hs v H') : FnSpec P g n0 A H v H' := by
  unfold xok at h
  split at h
  case h_2 => exact h.elim
  case h_1 v' Hend ob hx =>
  obtain ⟨hob, rfl, hsub⟩ := conjP_spec h
  exact (fn_of_xokE hG hM hf hb hn hx hob).sub hsub

-- ---------------------------------------------------------------- the form in which it is used

def allP : List Prop → Prop
  | [] => True
  | p :: r => p ∧ allP r

theorem allP_spec : ∀ {l : List Prop}, allP l → ∀ p ∈ l, p
  | [], _, p, hp => by simp at hp
  | q :: r, h, p, hp => by
    simp only [List.mem_cons] at hp
    rcases hp with rfl | hp
    · exact h.1
    · exact allP_spec h.2 p hp

theorem conjP_of : ∀ {l : List Prop} {q : Prop}, (∀ p ∈ l, p) → q → conjP l q
  | [], _, _, h => h
  | _ :: _, _, h, hq => ⟨h _ (by simp), conjP_of (fun p hp => h p (by simp [hp])) hq⟩

/-- 'xok' in two halves: what is left to be proved; what it comes to. -/
def xok2 (P : Program) (fn : Func) (fuel : Nat) (A : List Value) (H : Heap) (n0 : Nat) (hs : List Hint) (v : Value) (H' : Heap) : Prop :=
  match xfun P fn fuel A H n0 hs with
  | some (v', Hend, ob) => allP ob ∧ (v' = v ∧ subP (lk Hend) H')
  | none => False

def subT : Heap → Prop
  | [] => True
  | (_, B) :: r => some B = some B ∧ subT r

theorem subT_all : ∀ h : Heap, subT h
  | [] => trivial
  | (_, _) :: r => ⟨rfl, subT_all r⟩

theorem fn_of_x {P : Program} (hG : P.globals.size ≤ 1000) (hM : P.follows .mixedOrders = true) {g : FuncId} {fn : Func} (hf : P.funcs[g]? = some fn) (hb : fn.body.isSome = true) (hn : (fn.name == "runtime.NumGoroutine") = false) (fuel : Nat) (hs : List Hint)
    {A : List Value} {H : Heap} {n0 : Nat} {v : Value} {H' : Heap} {O : Prop} (o : O) (h : (O ∧ (v = v ∧ subT H')) = xok2 P fn fuel A H n0 hs v H') : FnSpec P g n0 A H v H' := by
  have h2 : xok2 P fn fuel A H n0 hs v H' := h ▸ ⟨o, rfl, subT_all H'⟩
  refine fn_of_xok hG hM hf hb hn (fuel := fuel) (hs := hs) ?_
  unfold xok2 at h2
  unfold xok
  split at h2
  · exact conjP_of (allP_spec h2.1) h2.2
  · exact h2.elim

theorem J {a b : Prop} (h : a) (k : b) : a ∧ b := ⟨h, k⟩

/-- The rows of a heap hold words without addresses. -/
def rowsS : List Seg → Prop → Prop
  | [], k => k
  | .rows _ _ g :: r, k => (∀ j, (g j).all scalar = true) ∧ rowsS r k
  | _ :: r, k => rowsS r k
def rowsP : Heap → Prop
  | [] => True
  | (_, B) :: r => rowsS B.segs (rowsP r)

/-- A piece of code, by the executor's run of it. -/
def xrun2 (P : Program) (N : Nat) (c : Code) (fuel : Nat) (T : Tm) (H : Heap) (n : Nat) (hs : List Hint) (e : Ex) (live : Tm) (H' : Heap) (n' : Nat) : Prop :=
  match xcode P N fuel c { T, H, n, hs, ob := [] } with
  | some (e', s) => allP s.ob ∧ (e' = e ∧ (tmP s.T live ∧ (subP (lk s.H) H' ∧ (freshP n' n s.n H' live ∧ rowsP H'))))
  | none => False
  where
  tmP (T : Tm) : Tm → Prop
    | [] => True
    | (t, v) :: r => tget T t = v ∧ tmP T r
  freshP (n' n m : Nat) (H' : Heap) (live : Tm) : Prop := (Nat.ble n n' && (Nat.ble m n' || (below n' H' && belowT n' live))) = true
  below (n' : Nat) : Heap → Bool
    | [] => true
    | (i, B) :: r => Nat.blt i n' && belowS n' B.segs && below n' r
  belowS (n' : Nat) : List Seg → Bool
    | [] => true
    | .one v :: r => belowV n' 6 v && belowS n' r
    | _ :: r => belowS n' r
  belowT (n' : Nat) : Tm → Bool
    | [] => true
    | (_, v) :: r => belowV n' 6 v && belowT n' r
  belowV (n' : Nat) : Nat → Value → Bool
    | _, .pointer (some a) => Nat.blt a.block n'
    | _, .slice (some a) _ _ => Nat.blt a.block n'
    | d + 1, .agg ⟨cs⟩ => cs.all (belowV n' d)
    | d + 1, .tuple ⟨cs⟩ => cs.all (belowV n' d)
    | d + 1, .func _ ⟨fs⟩ ⟨cs⟩ => fs.all (belowV n' d) && cs.all (belowV n' d)
    | d + 1, .iface _ v => belowV n' d v
    | 0, .agg _ => false
    | 0, .tuple _ => false
    | 0, .func .. => false
    | 0, .iface .. => false
    | _, _ => true

end Go.Proofs.Ytgnhhnmpeklciaa.VX
