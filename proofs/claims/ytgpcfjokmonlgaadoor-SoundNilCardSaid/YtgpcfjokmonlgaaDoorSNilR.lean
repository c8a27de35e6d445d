/-
  SoundNil: of a nil sound there is nothing; copies go on by themselves; places that are no registers are nothing: the Go function gives true and leaves its arguments as they were. No condition but that the package's variables hold what the program's text lays; the card ties that to the text.
-/
import Derived.Test.YtgpcfjokmonlgaaDoorSR
import Derived.Test.YtgpcfjokmonlgaaDoorSNilP
namespace Go.Proofs.YtgpcfjokmonlgaaDoor
open Go VX Go.ChangeShapes Go.WideShapes Go.RowKit Go.Joins
set_option maxRecDepth 100000
set_option linter.unusedVariables false

theorem soundNil_lifted (os : Os) (started : os.Started) (H : Type) (enc : TypeId × Value → H) :
    ReturnsInHanded {} Tryd.checked os 9 .any (fun w args => (Rows.soundNilSpec.pre enc Tryd.prog Tryd.f9 Rows.soundNilRow.domain false w args ∧ laidMetH Tryd.prog laidL w) ∧ sizedMet enc Tryd.prog Tryd.f9 (OpenSpec.ofChange Rows.soundNilSpec) false w args)
      (Rows.soundNilSpec.post enc Tryd.prog Tryd.f9 false true false false) := by
  refine row_of_laid (C := Tryd.checked) (tb := 4) (n := 3) (laid := laidL) own_x started (by kernel_rfl) Tryd.func9 rfl (by kernel_rfl) Tryd.underlying4 laid_x (by kernel_rfl) (by kernel_rfl) ?_ low_x (by kernel_rfl)
    (ChangeSpec.witness_shaped (enc := enc) (C := Tryd.checked) (os := os) (X := fun w _ => laidMetH Tryd.prog laidL w) false (World.laidAll Tryd.prog os laidL) #[.int .u16 0, .int .u8 0, .int .u8 0] 8 (World.laidAll_os _ _ _)
      (World.shaped_of_ZipB (by kernel_rfl) (by kernel_rfl)) (by kernel_rfl) (by kernel_rfl) (by kernel_rfl)
      (by rw [MakeChecks.laidMetH_plain _ _ _ (by kernel_rfl)]; exact laidMet_laidAll _ (by kernel_rfl) (by kernel_rfl))) ?_
  · intro ds hds
    match ds, hds with
    | [d0, d1, d2], _ => rfl
  · intro W base args ds ps hval0 hA0 _ hg _ hlaid
    have hval : ∀ (j : Nat) t v, Tryd.f9.params[j]? = some t → args[j]? = some v → Value.okWide Tryd.prog W .any base t v := hval0
    have hA : DataW.TrodAll enc Tryd.prog W 0 (fun _ => true) true Tryd.f9.params.toList args.toList ds ps := hA0
    rw [Tryd.params9] at hA hval
    obtain ⟨al⟩ := args
    replace hA : DataW.TrodAll enc Tryd.prog W 0 (fun _ => true) true [26, 5, 5] al ds ps := hA
    obtain ⟨v0, r0, d0, s0, p0, q0, rfl, rfl, rfl, h0, hA⟩ := trodAll_cons hA
    obtain ⟨v1, r1, d1, s1, p1, q1, rfl, rfl, rfl, h1, hA⟩ := trodAll_cons hA
    obtain ⟨v2, r2, d2, s2, p2, q2, rfl, rfl, rfl, h2, hA⟩ := trodAll_cons hA
    obtain ⟨rfl, rfl, rfl⟩ := trodAll_nil hA
    obtain ⟨a0, rfl, rfl, rfl, w0⟩ := open_int Tryd.underlying26 (hval 0 26 v0 rfl rfl) h0
    obtain ⟨a1, rfl, rfl, rfl, w1⟩ := open_int Tryd.underlying5 (hval 1 5 v1 rfl rfl) h1
    obtain ⟨a2, rfl, rfl, rfl, w2⟩ := open_int Tryd.underlying5 (hval 2 5 v2 rfl rfl) h2
    exact calls_of_spec_tbls hG (nil_true a0 a1 a2 (wf_u16 w0) (wf_u8 w1) (wf_u8 w2)) hg (tabs_ok hlaid) (.cons (.int _ _) (.cons (.int _ _) (.cons (.int _ _) .nil)))

theorem soundNil_holds : Rows.SoundNilSaid :=
  OpenClaim.holds_of_wide 9 Tryd.f9 rfl rfl rfl rfl rfl rfl rfl ⟨rfl, rfl, rfl, rfl, rfl⟩ rfl rfl rfl rfl rfl (by kernel_rfl) Tryd.func9 (by kernel_rfl)
    (of_decide_eq_true (by kernel_rfl)) (by unfold Func.isWrapper; first | (rw [if_pos (by decide +kernel)]; kernel_rfl) | (rw [if_neg (by decide +kernel)]; exact ⟨rfl, rfl⟩))
    (fun os started H enc _ => soundNil_lifted os started H enc)

theorem soundNil_card_holds : Rows.SoundNilCardSaid :=
  Claim7.holds_tied_plain_at .later [] [.data, .data, .data, .data, .data] true (true, "6425a75d56df621b524cecd79c21485cd17a7737b32f62c37d2d7f01267c84c9") false soundNil_holds (fun _ h => by cases h) (by kernel_rfl) (fun _ h => by cases h) soundNil_row_tie rfl ⟨rfl, rfl⟩ (by kernel_rfl) rfl
    (fun f fn hf hfn => by
      obtain rfl : f = 9 := Option.some.inj ((show Tryd.prog.funcNamed "kotatsu/kotatsulaw12.SoundNil" = some 9 by kernel_rfl).symm.trans hf) |>.symm
      obtain rfl : fn = Tryd.f9 := (Option.some.inj (Tryd.func9.symm.trans hfn)).symm
      exact ⟨by kernel_rfl, fun j t ht => by
        rw [Tryd.params9] at ht
        have hm : t ∈ [26, 5, 5] := by simpa using Array.mem_of_getElem? ht
        have hall : ([26, 5, 5].all fun u => !Tryd.prog.wantsStandIn u) = true := by kernel_rfl
        exact (show Tryd.prog.wantsStandIn t = false by simpa using List.all_eq_true.1 hall t hm)⟩)
    (by kernel_rfl)

#print axioms soundNil_card_holds
end Go.Proofs.YtgpcfjokmonlgaaDoor
