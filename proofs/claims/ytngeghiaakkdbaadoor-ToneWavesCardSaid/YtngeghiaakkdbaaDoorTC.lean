/-
  Layer 11: clocks of a voice, one behind the other: the timer runs down, then the voice steps. No condition.
-/
import Derived.Test.YtngeghiaakkdbaaDoorTB
import Derived.Test.YtngeghiaakkdbaaDoorVU
namespace Go.Proofs.YtngeghiaakkdbaaDoor
open Go VX IntWalk
set_option maxRecDepth 100000
set_option linter.unusedSimpArgs false
set_option linter.unusedVariables false

theorem awake_t : (!awake) = false := by decide +kernel

abbrev clocks (k : Nat) (t : Tone) : Tone := iterS tClock k t

theorem clocks_ok (k : Nat) (t : Tone) (h : Tone.ok t) : Tone.ok (clocks k t) := iterS_inv (p := Tone.ok) (fun s hs => tClock_w s hs) k t h

/-- A voice's step, the timer aside. -/
def tFire (t : Tone) : Tone :=
  if t.kind = 2 then (if t.length > 0 ∧ t.line > 0 then { t with step := Int.tmod (IntKind.u8.wrap (t.step + 1)) 32 } else t)
  else if t.kind = 3 then { t with row := if bAnd .u8 (t.reg 2) 128 ≠ 0 then bOr .u16 (bShr .u16 t.row 1) (bShl .u16 (bAnd .u16 (bXor .u16 t.row (bShr .u16 t.row 6)) 1) 14) else bOr .u16 (bShr .u16 t.row 1) (bShl .u16 (bAnd .u16 (bXor .u16 t.row (bShr .u16 t.row 1)) 1) 14) }
  else { t with step := Int.tmod (IntKind.u8.wrap (t.step + 1)) 8 }

theorem clk_dec (t : Tone) (h : Tone.ok t) (h0 : 0 < t.timer) : tClock t = { t with timer := t.timer - 1 } := by
  unfold tClock
  rw [if_pos (by simpa using h0), u16_in _ (by have := h.timer; unfold rng at this; omega)]

theorem clk_fire (t : Tone) (h0 : t.timer = 0) : tClock t = { tFire t with timer := t.period } := by
  unfold tClock tFire
  rw [if_neg (by simp [h0])]
  by_cases h2 : t.kind = 2
  · by_cases hl : 0 < t.length <;> by_cases hn : 0 < t.line <;> simp [h2, hl, hn]
  · by_cases h3 : t.kind = 3
    · by_cases hb : bAnd .u8 (t.reg 2) 128 = 0 <;> simp [h2, h3, hb]
    · simp [h2, h3]

theorem clocks_dec : ∀ (k : Nat) (t : Tone), Tone.ok t → (k : Int) ≤ t.timer → clocks k t = { t with timer := t.timer - k }
  | 0, t, _, _ => by simp [clocks, iterS]
  | k + 1, t, h, hk => by
    simp only [clocks, iterS]
    have h1 := clk_dec t h (by omega)
    have hok := tClock_w t h
    have := clocks_dec k (tClock t) hok (by rw [h1]; simp; omega)
    rw [clocks] at this
    rw [this, h1]
    simp
    omega

theorem tFire_timer (t : Tone) : (tFire t).timer = t.timer ∧ (tFire t).period = t.period := by unfold tFire; repeat' split <;> simp

/-- Through the whole period: one step. -/
theorem clocks_round (t : Tone) (h : Tone.ok t) (h0 : t.timer = 0) : clocks (t.period.toNat + 1) t = { tFire t with timer := 0 } := by
  have hp := h.period
  unfold rng at hp
  simp only [clocks, iterS]
  have h1 := clk_fire t h0
  have hok := tClock_w t h
  have := clocks_dec t.period.toNat (tClock t) hok (by rw [h1]; simp; omega)
  rw [clocks] at this
  rw [this, h1]
  simp
  omega

-- ---------------------------------------------------------------- walk

def walkF (t : Tone) (n : Int) : Tone := clocks (4 * n).toNat t

theorem walkF_w (t : Tone) (n : Int) (w_t : Tone.ok t) : Tone.ok (walkF t n) := clocks_ok _ _ w_t

theorem walkF_ok (t : Tone) (n : Int) (hn : 0 ≤ n ∧ n < 1000000) : FnSpec Tryd.prog 16 1001 [.pointer (some ⟨1000, 0, none⟩), .int .i64 n] [(1000, Tone.blk t)] (.tuple ⟨[]⟩) [(1000, Tone.blk (walkF t n))] := by
  have e : IntKind.i64.wrap (4 * n) = 4 * n := i64_in _ (by omega)
  have := iter_for tClock (lWalk_L1 t n) (4 * n) IntKind.i64.wrap (fun i h0 h1 => i64_in _ (by omega)) (fun s => ((4 * n, s) : Int × Tone))
    (fun i s h0 h1 => by unfold lWalk_L1; rw [if_pos (by rw [e]; simpa using h1)]) (fun s => by unfold lWalk_L1; rw [if_neg (by rw [e]; simp)]) (4 * n).toNat 0 t (by omega) (by omega)
  exact lWalk_p1 t n _ _ this

end Go.Proofs.YtngeghiaakkdbaaDoor
