/-
  SoundSamples: a sample asks for its byte, plays it bit by bit, and asks, begins anew or is still at its end: the Go function gives true and leaves its arguments as they were. No condition but that the package's variables hold what the program's text lays; the card ties that to the text.
-/
import Derived.Test.YtgpcfjokmonlgaaDoorSR
import Derived.Test.YtgpcfjokmonlgaaDoorSSamP
namespace Go.Proofs.YtgpcfjokmonlgaaDoor
open Go VX Go.ChangeShapes Go.WideShapes Go.RowKit Go.Joins
set_option maxRecDepth 100000
set_option linter.unusedVariables false

theorem soundSamples_lifted (os : Os) (started : os.Started) (H : Type) (enc : TypeId × Value → H) :
    ReturnsInHanded {} Tryd.checked os 8 .any (fun w args => (Rows.soundSamplesSpec.pre enc Tryd.prog Tryd.f8 Rows.soundSamplesRow.domain false w args ∧ laidMetH Tryd.prog laidL w) ∧ sizedMet enc Tryd.prog Tryd.f8 (OpenSpec.ofChange Rows.soundSamplesSpec) false w args)
      (Rows.soundSamplesSpec.post enc Tryd.prog Tryd.f8 false true false false) := by
  refine row_of_laid (C := Tryd.checked) (tb := 4) (n := 5) (laid := laidL) own_x started (by kernel_rfl) Tryd.func8 rfl (by kernel_rfl) Tryd.underlying4 laid_x (by kernel_rfl) (by kernel_rfl) ?_ low_x (by kernel_rfl)
    (ChangeSpec.witness_shaped (enc := enc) (C := Tryd.checked) (os := os) (X := fun w _ => laidMetH Tryd.prog laidL w) false (World.laidAll Tryd.prog os laidL) #[.int .u8 0, .int .u8 0, .int .u8 0, .int .u8 0, .slice none 0 0] 8 (World.laidAll_os _ _ _)
      (World.shaped_of_ZipB (by kernel_rfl) (by kernel_rfl)) (by kernel_rfl) (by kernel_rfl) (by kernel_rfl)
      (by rw [MakeChecks.laidMetH_plain _ _ _ (by kernel_rfl)]; exact laidMet_laidAll _ (by kernel_rfl) (by kernel_rfl))) ?_
  · intro ds hds
    match ds, hds with
    | [d0, d1, d2, d3, d4], _ => rfl
  · intro W base args ds ps hval0 hA0 _ hg _ hlaid
    have hval : ∀ (j : Nat) t v, Tryd.f8.params[j]? = some t → args[j]? = some v → Value.okWide Tryd.prog W .any base t v := hval0
    have hA : DataW.TrodAll enc Tryd.prog W 0 (fun _ => true) true Tryd.f8.params.toList args.toList ds ps := hA0
    rw [Tryd.params8] at hA hval
    obtain ⟨al⟩ := args
    replace hA : DataW.TrodAll enc Tryd.prog W 0 (fun _ => true) true [5, 5, 5, 5, 55] al ds ps := hA
    obtain ⟨v0, r0, d0, s0, p0, q0, rfl, rfl, rfl, h0, hA⟩ := trodAll_cons hA
    obtain ⟨v1, r1, d1, s1, p1, q1, rfl, rfl, rfl, h1, hA⟩ := trodAll_cons hA
    obtain ⟨v2, r2, d2, s2, p2, q2, rfl, rfl, rfl, h2, hA⟩ := trodAll_cons hA
    obtain ⟨v3, r3, d3, s3, p3, q3, rfl, rfl, rfl, h3, hA⟩ := trodAll_cons hA
    obtain ⟨v4, r4, d4, s4, p4, q4, rfl, rfl, rfl, h4, hA⟩ := trodAll_cons hA
    obtain ⟨rfl, rfl, rfl⟩ := trodAll_nil hA
    obtain ⟨a0, rfl, rfl, rfl, w0⟩ := open_int Tryd.underlying5 (hval 0 5 v0 rfl rfl) h0
    obtain ⟨a1, rfl, rfl, rfl, w1⟩ := open_int Tryd.underlying5 (hval 1 5 v1 rfl rfl) h1
    obtain ⟨a2, rfl, rfl, rfl, w2⟩ := open_int Tryd.underlying5 (hval 2 5 v2 rfl rfl) h2
    obtain ⟨a3, rfl, rfl, rfl, w3⟩ := open_int Tryd.underlying5 (hval 3 5 v3 rfl rfl) h3
    obtain ⟨N4, k4, g4, w4, b4, hb4, B4, R4⟩ := open_bys hlaid (hval 4 55 v4 rfl rfl) h4
    exact calls_of_spec_hand hG (sam_true a0 a1 a2 a3 N4 k4 g4 (wf_u8 w0) (wf_u8 w1) (wf_u8 w2) (wf_u8 w3) w4) hg hb4 (tabs_hand hlaid rfl (B4 _ _)) (.cons (.int _ _) (.cons (.int _ _) (.cons (.int _ _) (.cons (.int _ _) (.cons (R4 _ 1000 (muH_1000 hG b4)) .nil)))))

theorem soundSamples_holds : Rows.SoundSamplesSaid :=
  OpenClaim.holds_of_wide 8 Tryd.f8 rfl rfl rfl rfl rfl rfl rfl ⟨rfl, rfl, rfl, rfl, rfl⟩ rfl rfl rfl rfl rfl (by kernel_rfl) Tryd.func8 (by kernel_rfl)
    (of_decide_eq_true (by kernel_rfl)) (by unfold Func.isWrapper; first | (rw [if_pos (by decide +kernel)]; kernel_rfl) | (rw [if_neg (by decide +kernel)]; exact ⟨rfl, rfl⟩))
    (fun os started H enc _ => soundSamples_lifted os started H enc)

theorem soundSamples_card_holds : Rows.SoundSamplesCardSaid :=
  Claim7.holds_tied_plain_at .later [] [.data, .data, .data, .data, .data] true (true, "6425a75d56df621b524cecd79c21485cd17a7737b32f62c37d2d7f01267c84c9") false soundSamples_holds (fun _ h => by cases h) (by kernel_rfl) (fun _ h => by cases h) soundSamples_row_tie rfl ⟨rfl, rfl⟩ (by kernel_rfl) rfl
    (fun f fn hf hfn => by
      obtain rfl : f = 8 := Option.some.inj ((show Tryd.prog.funcNamed "kotatsu/kotatsulaw12.SoundSamples" = some 8 by kernel_rfl).symm.trans hf) |>.symm
      obtain rfl : fn = Tryd.f8 := (Option.some.inj (Tryd.func8.symm.trans hfn)).symm
      exact ⟨by kernel_rfl, fun j t ht => by
        rw [Tryd.params8] at ht
        have hm : t ∈ [5, 5, 5, 5, 55] := by simpa using Array.mem_of_getElem? ht
        have hall : ([5, 5, 5, 5, 55].all fun u => !Tryd.prog.wantsStandIn u) = true := by kernel_rfl
        exact (show Tryd.prog.wantsStandIn t = false by simpa using List.all_eq_true.1 hall t hm)⟩)
    (by kernel_rfl)

#print axioms soundSamples_card_holds
end Go.Proofs.YtgpcfjokmonlgaaDoor
