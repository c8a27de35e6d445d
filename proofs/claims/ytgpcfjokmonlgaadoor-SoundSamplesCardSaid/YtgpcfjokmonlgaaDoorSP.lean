/-
  A register, the count, and what is told, each as one function. Written by gen_sound.py. No condition.
-/
import Derived.Test.YtgpcfjokmonlgaaDoorSO
import Derived.Test.YtgpcfjokmonlgaaDoorSD
import Derived.Test.YtgpcfjokmonlgaaDoorVY
namespace Go.Proofs.YtgpcfjokmonlgaaDoor
open Go VX
set_option linter.unusedVariables false
set_option linter.unusedSimpArgs false
set_option maxRecDepth 100000

/-- (*kotatsu/sound.Sound).Put -/
def sPut_lo (s : Snd) (at_ : Int) (b : Int) : Unit :=
  ()
theorem sPut_lo_p1 (s : Snd) (at_ : Int) (b : Int) (h1 : (decide ((at_ : Int) < 16384)) = true) : FnSpec Tryd.prog 12 1005 [.pointer (some ⟨1000, 0, none⟩), .int .u16 at_, .int .u8 b] (Snd.H 1000 1001 1002 1003 1004 s) (.tuple ⟨[]⟩) (Snd.H 1000 1001 1002 1003 1004 s) := by
  exact fn_of_x hG hM Tryd.func12 (by kernel_rfl) (by kernel_rfl) 400 [.no, .no, .no, .yes, .yes, .yes, .yes] (J (Eq.refl false) (J (Eq.refl false) (J (Eq.refl false) (J h1 (J h1 (J h1 (J (Eq.refl true) trivial))))))) (by kernel_rfl)
theorem sPut_lo_ok (s : Snd) (at_ : Int) (b : Int) (h1 : (decide ((at_ : Int) < 16384)) = true) : FnSpec Tryd.prog 12 1005 [.pointer (some ⟨1000, 0, none⟩), .int .u16 at_, .int .u8 b] (Snd.H 1000 1001 1002 1003 1004 s) (.tuple ⟨[]⟩) (Snd.H 1000 1001 1002 1003 1004 s) := by
  exact sPut_lo_p1 s at_ b h1

/-- (*kotatsu/sound.Sound).Put -/
def sPut_hi (s : Snd) (at_ : Int) (b : Int) : Unit :=
  ()
theorem sPut_hi_p1 (s : Snd) (at_ : Int) (b : Int) (h1 : (decide ((at_ : Int) < 16384)) = false) (h2 : (decide ((at_ : Int) > 16407)) = true) : FnSpec Tryd.prog 12 1005 [.pointer (some ⟨1000, 0, none⟩), .int .u16 at_, .int .u8 b] (Snd.H 1000 1001 1002 1003 1004 s) (.tuple ⟨[]⟩) (Snd.H 1000 1001 1002 1003 1004 s) := by
  exact fn_of_x hG hM Tryd.func12 (by kernel_rfl) (by kernel_rfl) 400 [.no, .no, .no, .no, .no, .no, .yes] (J (Eq.refl false) (J (Eq.refl false) (J (Eq.refl false) (J h1 (J h1 (J h1 (J h2 trivial))))))) (by kernel_rfl)
theorem sPut_hi_ok (s : Snd) (at_ : Int) (b : Int) (h1 : (decide ((at_ : Int) < 16384)) = false) (h2 : (decide ((at_ : Int) > 16407)) = true) : FnSpec Tryd.prog 12 1005 [.pointer (some ⟨1000, 0, none⟩), .int .u16 at_, .int .u8 b] (Snd.H 1000 1001 1002 1003 1004 s) (.tuple ⟨[]⟩) (Snd.H 1000 1001 1002 1003 1004 s) := by
  exact sPut_hi_p1 s at_ b h1 h2

def sPuts : List (Snd → Int → Snd) := [sPut_0, sPut_1, sPut_2, sPut_3, sPut_4, sPut_5, sPut_6, sPut_7, sPut_8, sPut_9, sPut_10, sPut_11, sPut_12, sPut_13, sPut_14, sPut_15, sPut_16, sPut_17, sPut_18, sPut_19, (fun s _ => s), sPut_21, (fun s _ => s), sPut_23]
/-- A register of the sound, or none. -/
def sPut (s : Snd) (at_ b : Int) : Snd := if 16384 ≤ at_ ∧ at_ ≤ 16407 then (sPuts.getD (at_ - 16384).toNat fun s _ => s) s b else s

theorem sPut_ok (s : Snd) (at_ b : Int) (w_s : Snd.ok s) (w_at : rng 65536 at_) (w_b : rng 256 b) : FnSpec Tryd.prog 12 1005 [.pointer (some ⟨1000, 0, none⟩), .int .u16 at_, .int .u8 b] ([tb0, tb4] ++ (Snd.H 1000 1001 1002 1003 1004 s)) (.tuple ⟨[]⟩) (Snd.H 1000 1001 1002 1003 1004 (sPut s at_ b)) := by
  by_cases h1 : at_ < 16384
  · have e : sPut s at_ b = s := by unfold sPut; rw [if_neg (by omega)]
    rw [e]
    exact (sPut_lo_ok s at_ b (by simpa using h1)).wid ([tb0, tb4] ++ (Snd.H 1000 1001 1002 1003 1004 s)) ⟨rfl, rfl, rfl, rfl, rfl, trivial⟩
  by_cases h2 : at_ > 16407
  · have e : sPut s at_ b = s := by unfold sPut; rw [if_neg (by omega)]
    rw [e]
    exact (sPut_hi_ok s at_ b (by simpa using h1) (by simpa using h2)).wid ([tb0, tb4] ++ (Snd.H 1000 1001 1002 1003 1004 s)) ⟨rfl, rfl, rfl, rfl, rfl, trivial⟩
  obtain h | h | h | h | h | h | h | h | h | h | h | h | h | h | h | h | h | h | h | h | h | h | h | h := (show at_ = 16384 ∨ at_ = 16385 ∨ at_ = 16386 ∨ at_ = 16387 ∨ at_ = 16388 ∨ at_ = 16389 ∨ at_ = 16390 ∨ at_ = 16391 ∨ at_ = 16392 ∨ at_ = 16393 ∨ at_ = 16394 ∨ at_ = 16395 ∨ at_ = 16396 ∨ at_ = 16397 ∨ at_ = 16398 ∨ at_ = 16399 ∨ at_ = 16400 ∨ at_ = 16401 ∨ at_ = 16402 ∨ at_ = 16403 ∨ at_ = 16404 ∨ at_ = 16405 ∨ at_ = 16406 ∨ at_ = 16407 by omega)
  · subst h; exact (sPut_0_ok s b ).wid ([tb0, tb4] ++ (Snd.H 1000 1001 1002 1003 1004 s)) ⟨rfl, rfl, rfl, rfl, rfl, trivial⟩
  · subst h; exact (sPut_1_ok s b ).wid ([tb0, tb4] ++ (Snd.H 1000 1001 1002 1003 1004 s)) ⟨rfl, rfl, rfl, rfl, rfl, trivial⟩
  · subst h; exact (sPut_2_ok s b ).wid ([tb0, tb4] ++ (Snd.H 1000 1001 1002 1003 1004 s)) ⟨rfl, rfl, rfl, rfl, rfl, rfl, trivial⟩
  · subst h; exact (sPut_3_ok s b w_b).wid ([tb0, tb4] ++ (Snd.H 1000 1001 1002 1003 1004 s)) ⟨rfl, rfl, rfl, rfl, rfl, rfl, trivial⟩
  · subst h; exact (sPut_4_ok s b ).wid ([tb0, tb4] ++ (Snd.H 1000 1001 1002 1003 1004 s)) ⟨rfl, rfl, rfl, rfl, rfl, trivial⟩
  · subst h; exact (sPut_5_ok s b ).wid ([tb0, tb4] ++ (Snd.H 1000 1001 1002 1003 1004 s)) ⟨rfl, rfl, rfl, rfl, rfl, trivial⟩
  · subst h; exact (sPut_6_ok s b ).wid ([tb0, tb4] ++ (Snd.H 1000 1001 1002 1003 1004 s)) ⟨rfl, rfl, rfl, rfl, rfl, rfl, trivial⟩
  · subst h; exact (sPut_7_ok s b w_b).wid ([tb0, tb4] ++ (Snd.H 1000 1001 1002 1003 1004 s)) ⟨rfl, rfl, rfl, rfl, rfl, rfl, trivial⟩
  · subst h; exact (sPut_8_ok s b ).wid ([tb0, tb4] ++ (Snd.H 1000 1001 1002 1003 1004 s)) ⟨rfl, rfl, rfl, rfl, rfl, trivial⟩
  · subst h; exact (sPut_9_ok s b ).wid ([tb0, tb4] ++ (Snd.H 1000 1001 1002 1003 1004 s)) ⟨rfl, rfl, rfl, rfl, rfl, trivial⟩
  · subst h; exact (sPut_10_ok s b ).wid ([tb0, tb4] ++ (Snd.H 1000 1001 1002 1003 1004 s)) ⟨rfl, rfl, rfl, rfl, rfl, rfl, trivial⟩
  · subst h; exact (sPut_11_ok s b w_b).wid ([tb0, tb4] ++ (Snd.H 1000 1001 1002 1003 1004 s)) ⟨rfl, rfl, rfl, rfl, rfl, rfl, trivial⟩
  · subst h; exact (sPut_12_ok s b ).wid ([tb0, tb4] ++ (Snd.H 1000 1001 1002 1003 1004 s)) ⟨rfl, rfl, rfl, rfl, rfl, trivial⟩
  · subst h; exact (sPut_13_ok s b ).wid ([tb0, tb4] ++ (Snd.H 1000 1001 1002 1003 1004 s)) ⟨rfl, rfl, rfl, rfl, rfl, trivial⟩
  · subst h; exact (sPut_14_ok s b ).wid ([tb0, tb4] ++ (Snd.H 1000 1001 1002 1003 1004 s)) ⟨rfl, rfl, rfl, rfl, rfl, rfl, trivial⟩
  · subst h; exact (sPut_15_ok s b w_b).wid ([tb0, tb4] ++ (Snd.H 1000 1001 1002 1003 1004 s)) ⟨rfl, rfl, rfl, rfl, rfl, rfl, trivial⟩
  · subst h; exact (sPut_16_ok s b ).wid ([tb0, tb4] ++ (Snd.H 1000 1001 1002 1003 1004 s)) ⟨rfl, rfl, rfl, rfl, rfl, trivial⟩
  · subst h; exact (sPut_17_ok s b ).wid ([tb0, tb4] ++ (Snd.H 1000 1001 1002 1003 1004 s)) ⟨rfl, rfl, rfl, rfl, rfl, trivial⟩
  · subst h; exact (sPut_18_ok s b ).wid ([tb0, tb4] ++ (Snd.H 1000 1001 1002 1003 1004 s)) ⟨rfl, rfl, rfl, rfl, rfl, trivial⟩
  · subst h; exact (sPut_19_ok s b ).wid ([tb0, tb4] ++ (Snd.H 1000 1001 1002 1003 1004 s)) ⟨rfl, rfl, rfl, rfl, rfl, trivial⟩
  · subst h; exact (sPut_20_ok s b ).wid ([tb0, tb4] ++ (Snd.H 1000 1001 1002 1003 1004 s)) ⟨rfl, rfl, rfl, rfl, rfl, trivial⟩
  · subst h; exact (sPut_21_ok s b ).wid ([tb0, tb4] ++ (Snd.H 1000 1001 1002 1003 1004 s)) ⟨rfl, rfl, rfl, rfl, rfl, trivial⟩
  · subst h; exact (sPut_22_ok s b ).wid ([tb0, tb4] ++ (Snd.H 1000 1001 1002 1003 1004 s)) ⟨rfl, rfl, rfl, rfl, rfl, trivial⟩
  · subst h; exact (sPut_23_ok s b ).wid ([tb0, tb4] ++ (Snd.H 1000 1001 1002 1003 1004 s)) ⟨rfl, rfl, rfl, rfl, rfl, trivial⟩
theorem sPut_w (s : Snd) (at_ b : Int) (w_s : Snd.ok s) (w_at : rng 65536 at_) (w_b : rng 256 b) : Snd.ok (sPut s at_ b) := by
  unfold sPut
  split
  · rename_i h
    obtain h | h | h | h | h | h | h | h | h | h | h | h | h | h | h | h | h | h | h | h | h | h | h | h := (show at_ = 16384 ∨ at_ = 16385 ∨ at_ = 16386 ∨ at_ = 16387 ∨ at_ = 16388 ∨ at_ = 16389 ∨ at_ = 16390 ∨ at_ = 16391 ∨ at_ = 16392 ∨ at_ = 16393 ∨ at_ = 16394 ∨ at_ = 16395 ∨ at_ = 16396 ∨ at_ = 16397 ∨ at_ = 16398 ∨ at_ = 16399 ∨ at_ = 16400 ∨ at_ = 16401 ∨ at_ = 16402 ∨ at_ = 16403 ∨ at_ = 16404 ∨ at_ = 16405 ∨ at_ = 16406 ∨ at_ = 16407 by omega)
    · subst h; exact sPut_0_w s b w_s w_b
    · subst h; exact sPut_1_w s b w_s w_b
    · subst h; exact sPut_2_w s b w_s w_b
    · subst h; exact sPut_3_w s b w_s w_b
    · subst h; exact sPut_4_w s b w_s w_b
    · subst h; exact sPut_5_w s b w_s w_b
    · subst h; exact sPut_6_w s b w_s w_b
    · subst h; exact sPut_7_w s b w_s w_b
    · subst h; exact sPut_8_w s b w_s w_b
    · subst h; exact sPut_9_w s b w_s w_b
    · subst h; exact sPut_10_w s b w_s w_b
    · subst h; exact sPut_11_w s b w_s w_b
    · subst h; exact sPut_12_w s b w_s w_b
    · subst h; exact sPut_13_w s b w_s w_b
    · subst h; exact sPut_14_w s b w_s w_b
    · subst h; exact sPut_15_w s b w_s w_b
    · subst h; exact sPut_16_w s b w_s w_b
    · subst h; exact sPut_17_w s b w_s w_b
    · subst h; exact sPut_18_w s b w_s w_b
    · subst h; exact sPut_19_w s b w_s w_b
    · subst h; exact w_s
    · subst h; exact sPut_21_w s b w_s w_b
    · subst h; exact w_s
    · subst h; exact sPut_23_w s b w_s w_b
  · exact w_s

/-- The count's manner is one of two. -/
def Man (s : Snd) : Prop := s.manner = 0 ∨ s.manner = 1
def sTick (s : Snd) : Snd := if s.manner = 1 then sTick_1 s else sTick_0 s

theorem sTick_ok (s : Snd) (hm : Man s) : FnSpec Tryd.prog 35 1005 [.pointer (some ⟨1000, 0, none⟩)] ([tb1] ++ (Snd.H 1000 1001 1002 1003 1004 s)) (.tuple ⟨[]⟩) (Snd.H 1000 1001 1002 1003 1004 (sTick s)) := by
  unfold sTick
  rcases hm with hm | hm
  · rw [if_neg (by omega)]; exact sTick_0_ok s hm
  · rw [if_pos hm]; exact sTick_1_ok s hm
theorem sTick_w (s : Snd) (w_s : Snd.ok s) (hm : Man s) : Snd.ok (sTick s) := by
  unfold sTick
  rcases hm with hm | hm
  · rw [if_neg (by omega)]; exact sTick_0_w s w_s hm
  · rw [if_pos hm]; exact sTick_1_w s w_s hm

/-- Bits out of truths. -/
def bitsF : List Bool → Int → Int → Int
  | [], _, a => a
  | b :: l, k, a => bitsF l (k + 1) (if b then bOr .u8 a (bShl .u8 1 k) else a)
def getF (l : List Bool) : Int := bitsF l 0 0

theorem getF_eq (b0 b1 b2 b3 b4 b5 b6 : Bool) : getF [b0, b1, b2, b3, b4, false, b5, b6] =
    (if b0 then 1 else 0) + (if b1 then 2 else 0) + (if b2 then 4 else 0) + (if b3 then 8 else 0) + (if b4 then 16 else 0) + (if b5 then 64 else 0) + (if b6 then 128 else 0) := by
  revert b0 b1 b2 b3 b4 b5 b6; decide +kernel

def sLives (s : Snd) : List Bool := [tLive s.tones_0, tLive s.tones_1, tLive s.tones_2, tLive s.tones_3, decide ((s.sample.left : Int) > 0), false, s.irq, s.sample.irq]
def sGet (s : Snd) : Snd × Int := ({ s with irq := false }, getF (sLives s))

theorem sGet_loop (s : Snd) : ∀ (k : Nat) (a : Int), k ≤ 8 → LoopR (sGet_L1 s) (((8 - k : Nat) : Int), a) (8, bitsF ((sLives s).drop (8 - k)) ((8 - k : Nat) : Int) a)
  | 0, a, _ => .last (.p3 (xd := (8, a)) rfl)
  | k + 1, a, hk => by
    have hd : (sLives s).drop (8 - (k + 1)) = (sLives s).getD (8 - (k + 1)) false :: (sLives s).drop (8 - k) := by
      have hl : 8 - (k + 1) < (sLives s).length := by show _ < 8; omega
      rw [List.drop_eq_getElem_cons hl, show 8 - (k + 1) + 1 = 8 - k by omega]
      congr 1
      rw [List.getD_eq_getElem?_getD, List.getElem?_eq_getElem hl]; rfl
    have e : IntKind.i64.wrap (((8 - (k + 1) : Nat) : Int) + 1) = ((8 - k : Nat) : Int) := by rw [IntKind.wrap_i64]; omega
    have hn : (Int.toNat ((8 - (k + 1) : Nat) : Int)) = 8 - (k + 1) := by omega
    have c1 : (decide (((8 - (k + 1) : Nat) : Int) < 8)) = true := by simp; omega
    rw [hd]
    simp only [bitsF]
    rw [show (((8 - (k + 1) : Nat) : Int) + 1) = ((8 - k : Nat) : Int) by omega]
    cases hb : (sLives s).getD (8 - (k + 1)) false with
    | true =>
      have st := sGet_L1.p1 (s := s) (xd := (((8 - (k + 1) : Nat) : Int), a)) c1 (by simp) (by simp only [hn]; exact hb)
      simp only [e] at st
      exact .more st (sGet_loop s k _ (by omega))
    | false =>
      have st := sGet_L1.p2 (s := s) (xd := (((8 - (k + 1) : Nat) : Int), a)) c1 (by simp) (by simp only [hn]; exact hb)
      simp only [e] at st
      exact .more st (sGet_loop s k _ (by omega))

theorem sGet_ok (s : Snd) : FnSpec Tryd.prog 14 1005 [.pointer (some ⟨1000, 0, none⟩)] (Snd.H 1000 1001 1002 1003 1004 s) (.int .u8 ((sGet s).2)) (Snd.H 1000 1001 1002 1003 1004 ((sGet s).1)) := sGet_p1 s _ (sGet_loop s 8 0 (by decide))
theorem sGet_w (s : Snd) (w_s : Snd.ok s) : Snd.ok (sGet s).1 := ⟨w_s.tones_0, w_s.tones_1, w_s.tones_2, w_s.tones_3, w_s.sample⟩

end Go.Proofs.YtgpcfjokmonlgaaDoor
