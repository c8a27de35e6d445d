/-
  Layer 11: an act, on a voice and on the reference's one. No condition.
-/
import Derived.Test.YtngeghiaakkdbaaDoorTUc
namespace Go.Proofs.YtngeghiaakkdbaaDoor
open Go VX IntWalk
set_option maxRecDepth 100000
set_option linter.unusedSimpArgs false
set_option linter.unusedVariables false

theorem store_emb (t t' : Tone) : upd (upd (upd (upd (emb t).Reg 0 ((emb t').Reg 0)) 1 ((emb t').Reg 1)) 2 ((emb t').Reg 2)) 3 ((emb t').Reg 3) = (emb t').Reg := by
  funext j
  match j with
  | 0 => rfl
  | 1 => rfl
  | 2 => rfl
  | 3 => rfl
  | j + 4 =>
    have e : ∀ k, k < 4 → Nat.beq (j + 4) k = false := fun k hk => by cases h : Nat.beq (j + 4) k with | false => rfl | true => have := Nat.eq_of_beq_eq_true h; omega
    show upd (upd (upd (upd (CH t.reg) 0 _) 1 _) 2 _) 3 _ (j + 4) = CH t'.reg (j + 4)
    unfold CH upd
    rw [e 3 (by decide), e 2 (by decide), e 1 (by decide), e 0 (by decide)]; rfl

theorem fresh_emb (t' : Tone) : upd (upd (upd (upd (fun _ => 0) 0 ((emb t').Reg 0)) 1 ((emb t').Reg 1)) 2 ((emb t').Reg 2)) 3 ((emb t').Reg 3) = (emb t').Reg := rfl

/-- Four quarters with two halves. -/
def beats (t : Tone) : Tone := tHalf (tQuarter (tQuarter (tHalf (tQuarter (tQuarter t)))))

def doT (t : Tone) (a : Act) : Tone :=
  if a.Do % 10 = 4 then tEnable t (decide (a.B % 4 > 0))
  else if a.Do % 10 = 5 ∨ a.Do % 10 = 6 then clocks (a.N % 3000).toNat t
  else if a.Do % 10 = 7 then tQuarter t
  else if a.Do % 10 = 8 then tHalf t
  else if a.Do % 10 = 9 then beats t
  else tPut t a.Reg a.B

theorem doT_inv {t : Tone} (h : Inv t) {a : Act} (wa : Act.ok a) : Inv (doT t a) := by
  unfold doT
  split
  · exact inv_enable h _
  split
  · exact inv_clocks _ h
  split
  · exact inv_quarter h
  split
  · exact inv_half h
  split
  · exact inv_half (inv_quarter (inv_quarter (inv_half (inv_quarter (inv_quarter h)))))
  · exact inv_put h _ _ wa.Reg wa.B

def doF (t : Tone) (x : RTone) (a : Act) : Tone × RTone := (doT t a, emb (doT t a))

theorem emb_clocks : ∀ (n : Nat) {t : Tone}, Inv t → iterS (fun s : Tone × RTone => (tClock s.1, rClock s.2)) n (t, emb t) = (clocks n t, emb (clocks n t))
  | 0, t, h => rfl
  | n + 1, t, h => by
    simp only [iterS]
    rw [emb_clock h, emb_clocks n (inv_clock h)]

theorem doF_ok (t : Tone) (x : RTone) (a : Act) (hi : Inv t) (hx : x = emb t) (wa : Act.ok a) : FnSpec Tryd.prog 27 1001 [.pointer (some ⟨1000, 0, none⟩), RTone.enc x, Act.enc a] [(0, ⟨[.ints .u16 16 noisesT], 60, true⟩), (2, ⟨[.ints .u8 32 lengthsT], 64, true⟩), (1000, Tone.blk t)] (RTone.enc ((doF t x a).2)) [(1000, Tone.blk ((doF t x a).1))] := by
  subst hx
  have hg := emb_good hi
  obtain ⟨d0, d1⟩ := wa.Do
  obtain ⟨b0, b1⟩ := wa.B
  obtain ⟨g0, g1⟩ := wa.Reg
  obtain ⟨n0, n1⟩ := wa.N
  have ed : Int.tmod a.Do 10 = a.Do % 10 := Int.tmod_eq_emod_of_nonneg d0
  have eb : Int.tmod a.B 4 = a.B % 4 := Int.tmod_eq_emod_of_nonneg b0
  have en : Int.tmod a.N 3000 = a.N % 3000 := Int.tmod_eq_emod_of_nonneg n0
  have bx := box_emb t
  have clk : ∃ r1, r1 = (a.N % 3000, clocks (a.N % 3000).toNat t, emb (clocks (a.N % 3000).toNat t)) ∧ iter (lDo_L1ny t (emb t) a) ((a.N % 3000).toNat + 1) (0, t, ({ (emb t) with Reg := (fun j => List.getD [((emb t).Reg 0), ((emb t).Reg 1), ((emb t).Reg 2), ((emb t).Reg 3)] j 0) } : RTone)) = some r1 := by
    refine ⟨_, rfl, ?_⟩
    rw [bx]
    have hN : a.N % 3000 = (((a.N % 3000).toNat : Nat) : Int) := by omega
    have L := iter_seq (f := lDo_L1ny t (emb t) a) (fun k => (((k : Nat) : Int), clocks k t, emb (clocks k t))) (a.N % 3000).toNat (a.N % 3000, clocks (a.N % 3000).toNat t, emb (clocks (a.N % 3000).toNat t))
      (fun k hk => by
        unfold lDo_L1ny
        rw [if_pos (by rw [en]; simp; omega)]
        have hik := inv_clocks k hi
        simp only
        rw [emb_clock hik, store_emb, u16_in _ (by omega)]
        have e1 : clocks (k + 1) t = tClock (clocks k t) := iterS_succ _ _ _
        rw [e1]
        have e2 : ((k : Int) + 1) = ((k + 1 : Nat) : Int) := by omega
        rw [e2])
      (by
        unfold lDo_L1ny
        rw [if_neg (by rw [en]; simp; omega), ← hN])
    exact L
  obtain ⟨r1, hr1, L1⟩ := clk
  show FnSpec _ _ _ _ _ (RTone.enc (emb (doT t a))) [(1000, Tone.blk (doT t a))]
  unfold doT
  by_cases c4 : a.Do % 10 = 4
  · rw [if_pos c4]
    have := lDo_p1 t (emb t) a hi.ok wa hg (by rw [ed, c4]; rfl)
    rw [bx, eb, emb_enable, fresh_emb] at this
    exact this
  rw [if_neg c4]
  have h4 : (((Int.tmod a.Do 10) : Int) == 4) = false := by rw [ed]; simpa using c4
  by_cases c5 : a.Do % 10 = 5
  · rw [if_pos (.inl c5)]
    have := lDo_p2 t (emb t) a hi.ok wa hg h4 (by rw [ed, c5]; rfl) _ _ L1
    rw [hr1] at this
    simp only at this
    rw [fresh_emb] at this
    exact this
  have h5 : (((Int.tmod a.Do 10) : Int) == 5) = false := by rw [ed]; simpa using c5
  by_cases c6 : a.Do % 10 = 6
  · rw [if_pos (.inr c6)]
    have := lDo_p3 t (emb t) a hi.ok wa hg h4 h5 (by rw [ed, c6]; rfl) _ _ L1
    rw [hr1] at this
    simp only at this
    rw [fresh_emb] at this
    exact this
  rw [if_neg (by omega)]
  have h6 : (((Int.tmod a.Do 10) : Int) == 6) = false := by rw [ed]; simpa using c6
  by_cases c7 : a.Do % 10 = 7
  · rw [if_pos c7]
    have := lDo_p4 t (emb t) a hi.ok wa hg h4 h5 h6 (by rw [ed, c7]; rfl)
    rw [bx, emb_quarter hi, fresh_emb] at this
    exact this
  rw [if_neg c7]
  have h7 : (((Int.tmod a.Do 10) : Int) == 7) = false := by rw [ed]; simpa using c7
  by_cases c8 : a.Do % 10 = 8
  · rw [if_pos c8]
    have := lDo_p5 t (emb t) a hi.ok wa hg h4 h5 h6 h7 (by rw [ed, c8]; rfl) (by rw [bx]; exact hg)
    rw [bx, emb_half hi, fresh_emb] at this
    exact this
  rw [if_neg c8]
  have h8 : (((Int.tmod a.Do 10) : Int) == 8) = false := by rw [ed]; simpa using c8
  by_cases c9 : a.Do % 10 = 9
  · rw [if_pos c9]
    have i1 := inv_quarter hi
    have i2 := inv_quarter i1
    have i3 := inv_half i2
    have i4 := inv_quarter i3
    have i5 := inv_quarter i4
    have quart : ∀ (i : Int) (s : Tone), Inv s → 0 ≤ i → i < 4 → i % 2 = 0 → lDo_L1nnnnny t (emb t) a (i, s, emb s) (.inl (i + 1, tQuarter s, emb (tQuarter s))) := by
      intro i s hs i0 i1 i2
      have := lDo_L1nnnnny.p2 (t := t) (x := emb t) (a := a) (xd := (i, s, emb s)) (by simpa using i1) (by rw [Int.tmod_eq_emod_of_nonneg i0, i2]; rfl)
      simp only at this
      rw [emb_quarter hs, store_emb, i64_in _ (by omega)] at this
      exact this
    have both : ∀ (i : Int) (s : Tone), Inv s → 0 ≤ i → i < 4 → i % 2 = 1 → lDo_L1nnnnny t (emb t) a (i, s, emb s) (.inl (i + 1, tHalf (tQuarter s), emb (tHalf (tQuarter s)))) := by
      intro i s hs i0 i1 i2
      have hq := inv_quarter hs
      have hq2 : ({ (rQuarter (emb s)) with Reg := (upd (upd (upd (upd (emb s).Reg 0 (((rQuarter (emb s)).Reg) 0)) 1 (((rQuarter (emb s)).Reg) 1)) 2 (((rQuarter (emb s)).Reg) 2)) 3 (((rQuarter (emb s)).Reg) 3)) } : RTone) = emb (tQuarter s) := by
        rw [emb_quarter hs, store_emb]
      have := lDo_L1nnnnny.p1 (t := t) (x := emb t) (a := a) (xd := (i, s, emb s)) (by simpa using i1) (by rw [Int.tmod_eq_emod_of_nonneg i0, i2]; rfl) (by rw [hq2]; exact emb_good hq)
      simp only at this
      rw [hq2, emb_quarter hs, store_emb, emb_half hq, store_emb, i64_in _ (by omega)] at this
      exact this
    have L : LoopR (lDo_L1nnnnny t (emb t) a) (0, t, ({ (emb t) with Reg := (fun j => List.getD [((emb t).Reg 0), ((emb t).Reg 1), ((emb t).Reg 2), ((emb t).Reg 3)] j 0) } : RTone)) (4, beats t, emb (beats t)) := by
      rw [bx]
      exact .more (quart 0 t hi (by decide) (by decide) (by decide)) (.more (both 1 _ i1 (by decide) (by decide) (by decide)) (.more (quart 2 _ i3 (by decide) (by decide) (by decide)) (.more (both 3 _ i4 (by decide) (by decide) (by decide)) (.last (.p3 (show decide ((4 : Int) < 4) = false by decide))))))
    have := lDo_p6 t (emb t) a hi.ok wa hg h4 h5 h6 h7 h8 (by rw [ed, c9]; rfl) _ L
    simp only at this
    rw [fresh_emb] at this
    exact this
  · rw [if_neg c9]
    have h9 : (((Int.tmod a.Do 10) : Int) == 9) = false := by rw [ed]; simpa using c9
    have w1 : IntKind.i64.wrap a.Reg = a.Reg := i64_in _ (by omega)
    have w2 : IntKind.i64.wrap a.B = a.B := i64_in _ (by omega)
    have := lDo_p7 t (emb t) a hi.ok wa hg h4 h5 h6 h7 h8 h9 (by rw [w1]; omega) (by rw [w2]; omega) (by rw [bx]; exact hg)
    rw [bx, w1, w2, emb_put hi a.Reg a.B ⟨g0, by omega⟩ ⟨b0, by omega⟩, fresh_emb] at this
    exact this

end Go.Proofs.YtngeghiaakkdbaaDoor
