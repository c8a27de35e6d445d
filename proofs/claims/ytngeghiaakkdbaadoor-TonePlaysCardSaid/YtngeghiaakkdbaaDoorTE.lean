/-
  Layer 11: a window of a noise, as a Lean function. No condition.
-/
import Derived.Test.YtngeghiaakkdbaaDoorTD
namespace Go.Proofs.YtngeghiaakkdbaaDoor
open Go VX IntWalk
set_option maxRecDepth 100000
set_option linter.unusedSimpArgs false
set_option linter.unusedVariables false

def winStep (s : Int × Tone) : Int × Tone := (bOr .u64 (bShl .u64 s.1 1) (IntKind.u64.wrap (bAnd .u8 (tOut s.2) 1)), walkF s.2 1)
def windowF (t : Tone) : Tone × Int := ((iterS winStep 30 (0, t)).2, (iterS winStep 30 (0, t)).1)

theorem windowF_w (t : Tone) (w_t : Tone.ok t) : Tone.ok (windowF t).1 :=
  iterS_inv (p := fun s : Int × Tone => Tone.ok s.2) (fun s hs => walkF_w s.2 1 hs) 30 (0, t) w_t

theorem windowF_ok (t : Tone) (w_t : Tone.ok t) : FnSpec Tryd.prog 15 1001 [.pointer (some ⟨1000, 0, none⟩)] [(1, ⟨[.ints .u8 4 dutiesT], 39, true⟩), (1000, Tone.blk t)] (.int .u64 ((windowF t).2)) [(1000, Tone.blk ((windowF t).1))] := by
  have := loop_for (rel := lWindow_L1 t) winStep 30 (fun _ s => Tone.ok s.2) (fun i s h0 h1 hs => walkF_w s.2 1 hs) (fun s => ((30, s) : Int × Int × Tone))
    (fun i s h0 h1 hs => by
      have e : (IntKind.i64.wrap (i + 1)) = i + 1 := i64_in _ (by omega)
      have := lWindow_L1.p1 (t := t) (xd := (i, s)) (by simpa using h1) hs
      rw [e] at this
      exact this)
    (fun s hs => lWindow_L1.p2 (t := t) (xd := (30, s)) (by simp)) 30 0 (0, t) (by omega) (by omega) w_t
  exact lWindow_p1 t _ this

end Go.Proofs.YtngeghiaakkdbaaDoor
