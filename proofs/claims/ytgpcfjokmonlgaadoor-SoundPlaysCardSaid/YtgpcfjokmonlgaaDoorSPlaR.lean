/-
  SoundPlays: whatever is done, the sound puts out, asks and tells what the reference's one does: the Go function gives true and leaves its arguments as they were. No condition but that the package's variables hold what the program's text lays; the card ties that to the text.
-/
import Derived.Test.YtgpcfjokmonlgaaDoorMPf
namespace Go.Proofs.YtgpcfjokmonlgaaDoor
open Go VX Go.ChangeShapes Go.WideShapes Go.RowKit Go.Joins
set_option maxRecDepth 100000
set_option linter.unusedVariables false

theorem soundPlays_lifted (os : Os) (started : os.Started) (H : Type) (enc : TypeId × Value → H) :
    ReturnsInHanded {} Tryd.checked os 6 .any (fun w args => (Rows.soundPlaysSpec.pre enc Tryd.prog Tryd.f6 Rows.soundPlaysRow.domain false w args ∧ laidMetH Tryd.prog laidL w) ∧ sizedMet enc Tryd.prog Tryd.f6 (OpenSpec.ofChange Rows.soundPlaysSpec) false w args)
      (Rows.soundPlaysSpec.post enc Tryd.prog Tryd.f6 false true false false) := by
  refine row_of_laid (C := Tryd.checked) (tb := 4) (n := 1) (laid := laidL) own_x started (by kernel_rfl) Tryd.func6 rfl (by kernel_rfl) Tryd.underlying4 laid_x (by kernel_rfl) (by kernel_rfl) ?_ low_x (by kernel_rfl)
    (ChangeSpec.witness_shaped (enc := enc) (C := Tryd.checked) (os := os) (X := fun w _ => laidMetH Tryd.prog laidL w) false (World.laidAll Tryd.prog os laidL) #[.slice none 0 0] 8 (World.laidAll_os _ _ _)
      (World.shaped_of_ZipB (by kernel_rfl) (by kernel_rfl)) (by kernel_rfl) (by kernel_rfl) (by kernel_rfl)
      (by rw [MakeChecks.laidMetH_plain _ _ _ (by kernel_rfl)]; exact laidMet_laidAll _ (by kernel_rfl) (by kernel_rfl))) ?_
  · intro ds hds
    match ds, hds with
    | [d0], _ => rfl
  · intro W base args ds ps hval0 hA0 _ hg _ hlaid
    have hval : ∀ (j : Nat) t v, Tryd.f6.params[j]? = some t → args[j]? = some v → Value.okWide Tryd.prog W .any base t v := hval0
    have hA : DataW.TrodAll enc Tryd.prog W 0 (fun _ => true) true Tryd.f6.params.toList args.toList ds ps := hA0
    rw [Tryd.params6] at hA hval
    obtain ⟨al⟩ := args
    replace hA : DataW.TrodAll enc Tryd.prog W 0 (fun _ => true) true [32] al ds ps := hA
    obtain ⟨v0, r0, d0, s0, p0, q0, rfl, rfl, rfl, h0, hA⟩ := trodAll_cons hA
    obtain ⟨rfl, rfl, rfl⟩ := trodAll_nil hA
    obtain ⟨N0, k0, g0, w0, b0, hb0, B0, R0⟩ := open_acts hlaid (hval 0 32 v0 rfl rfl) h0
    exact calls_of_spec_hand hG (play_true N0 k0 g0 w0) hg hb0 (tabs_hand hlaid rfl (B0 _ _)) (.cons (R0 _ 1000 (muH_1000 hG b0)) .nil)

theorem soundPlays_holds : Rows.SoundPlaysSaid :=
  OpenClaim.holds_of_wide 6 Tryd.f6 rfl rfl rfl rfl rfl rfl rfl ⟨rfl, rfl, rfl, rfl, rfl⟩ rfl rfl rfl rfl rfl (by kernel_rfl) Tryd.func6 (by kernel_rfl)
    (of_decide_eq_true (by kernel_rfl)) (by unfold Func.isWrapper; first | (rw [if_pos (by decide +kernel)]; kernel_rfl) | (rw [if_neg (by decide +kernel)]; exact ⟨rfl, rfl⟩))
    (fun os started H enc _ => soundPlays_lifted os started H enc)

theorem soundPlays_card_holds : Rows.SoundPlaysCardSaid :=
  Claim7.holds_tied_plain_at .later [] [.data, .data, .data, .data, .data] true (true, "6425a75d56df621b524cecd79c21485cd17a7737b32f62c37d2d7f01267c84c9") false soundPlays_holds (fun _ h => by cases h) (by kernel_rfl) (fun _ h => by cases h) soundPlays_row_tie rfl ⟨rfl, rfl⟩ (by kernel_rfl) rfl
    (fun f fn hf hfn => by
      obtain rfl : f = 6 := Option.some.inj ((show Tryd.prog.funcNamed "kotatsu/kotatsulaw12.SoundPlays" = some 6 by kernel_rfl).symm.trans hf) |>.symm
      obtain rfl : fn = Tryd.f6 := (Option.some.inj (Tryd.func6.symm.trans hfn)).symm
      exact ⟨by kernel_rfl, fun j t ht => by
        rw [Tryd.params6] at ht
        have hm : t ∈ [32] := by simpa using Array.mem_of_getElem? ht
        have hall : ([32].all fun u => !Tryd.prog.wantsStandIn u) = true := by kernel_rfl
        exact (show Tryd.prog.wantsStandIn t = false by simpa using List.all_eq_true.1 hall t hm)⟩)
    (by kernel_rfl)

#print axioms soundPlays_card_holds
end Go.Proofs.YtgpcfjokmonlgaaDoor
