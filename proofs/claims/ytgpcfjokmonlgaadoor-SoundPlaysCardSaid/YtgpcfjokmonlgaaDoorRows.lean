/-
  NARROWER THAN 'FOR EVERY INPUT', by the rows' own cells (each row's printed sentence says how): SoundLengths: laid · SoundAsks: laid · SoundRanges: laid · SoundPlays: laid · SoundFrames: laid · SoundSamples: laid · SoundNil: laid.
  DERIVED. THE GIVEN ROWS OF THIS SEAT. 7 by the template 'for every input the law returns true; each argument reads behind the call as it read before'; 0 by the template 'total and deterministic' (their statements: YtgpcfjokmonlgaaDoorTotals.lean).
  GIVEN WITH THE SEED: the statements are not yours to turn. If you find one false, say at which input.
  Laid BY PROGRAM, IN A SANDBOX (cutbox-rows.mjs): the forced cells as the released guide's own fill.sh prints them over the translation 018b668c1ce95bd8… (all of the seat's roots in one cut). By AI agents, Wed Nov 11 2026. No macro, syntax, notation, axiom, sorry.
-/
import Derived.Test.YtgpcfjokmonlgaaDoorChecked
import GoSem.Claim
import GoSem.ClaimJoined
import GoSem.ClaimMapViews
import Derived.JoinedTies
import Derived.KernelRfl
namespace Go.Proofs.YtgpcfjokmonlgaaDoor
/- THE CELL 'sum', in the pinned program and in every row, IS THE sha256 OF THE DUMP (.gsa) THAT YtgpcfjokmonlgaaDoorProg.lean LOADS. Nothing in Lean hashes anything: it is a label: what it is worth is what the hold of that sum in a sandbox is worth. -/
noncomputable def Tryd.pinned : Pinned := { name := "ytgpcfjokmonlgaadoor", sum := "018b668c1ce95bd86b6cbdf388a0ac0a8a88c2a689c76dca805b300a32b64ae1", checked := Tryd.checked }
namespace Rows
def none {H : Type} : Left H := { results := [], args := [] }

/- WHAT THE LISTED PACKAGE-LEVEL VARIABLES READ AS WHEN THE CALL BEGINS. Each datum BY PROGRAM (the guide's laid-datum.mjs) off the statement by which the dump's own 'gosem.cut.vars' lays the variable. In a bare row this is a premise. The card (YtgpcfjokmonlgaaDoorCards.lean) ties it to the program's text. -/
def laid_kotatsu_tone_lengths {H : Type} : DataW H := .agg [.lit (.int .u8 10), .lit (.int .u8 254), .lit (.int .u8 20), .lit (.int .u8 2), .lit (.int .u8 40), .lit (.int .u8 4), .lit (.int .u8 80), .lit (.int .u8 6), .lit (.int .u8 160), .lit (.int .u8 8), .lit (.int .u8 60), .lit (.int .u8 10), .lit (.int .u8 14), .lit (.int .u8 12), .lit (.int .u8 26), .lit (.int .u8 14), .lit (.int .u8 12), .lit (.int .u8 16), .lit (.int .u8 24), .lit (.int .u8 18), .lit (.int .u8 48), .lit (.int .u8 20), .lit (.int .u8 96), .lit (.int .u8 22), .lit (.int .u8 192), .lit (.int .u8 24), .lit (.int .u8 72), .lit (.int .u8 26), .lit (.int .u8 16), .lit (.int .u8 28), .lit (.int .u8 32), .lit (.int .u8 30)]
def laid_kotatsu_tone_noises {H : Type} : DataW H := .agg [.lit (.int .u16 4), .lit (.int .u16 8), .lit (.int .u16 16), .lit (.int .u16 32), .lit (.int .u16 64), .lit (.int .u16 96), .lit (.int .u16 128), .lit (.int .u16 160), .lit (.int .u16 202), .lit (.int .u16 254), .lit (.int .u16 380), .lit (.int .u16 508), .lit (.int .u16 762), .lit (.int .u16 1016), .lit (.int .u16 2034), .lit (.int .u16 4068)]
def laid_kotatsu_tone_duties {H : Type} : DataW H := .agg [.lit (.int .u8 64), .lit (.int .u8 96), .lit (.int .u8 120), .lit (.int .u8 159)]
def laid_kotatsu_sound_rates {H : Type} : DataW H := .agg [.lit (.int .u16 428), .lit (.int .u16 380), .lit (.int .u16 340), .lit (.int .u16 320), .lit (.int .u16 286), .lit (.int .u16 254), .lit (.int .u16 226), .lit (.int .u16 214), .lit (.int .u16 190), .lit (.int .u16 160), .lit (.int .u16 142), .lit (.int .u16 128), .lit (.int .u16 106), .lit (.int .u16 84), .lit (.int .u16 72), .lit (.int .u16 54)]
def laid_kotatsu_sound_when {H : Type} : DataW H := .agg [.agg [.lit (.int .i64 7457), .lit (.int .i64 14913), .lit (.int .i64 22371), .lit (.int .i64 29829)], .agg [.lit (.int .i64 7457), .lit (.int .i64 14913), .lit (.int .i64 22371), .lit (.int .i64 37281)]]

/-- 'kotatsulaw12.SoundLengths': WHATEVER THE INPUT: true; the input reads as it did. -/
def soundLengthsSpec : ChangeSpec := { name := "soundLengths", fn := fun _ => fun
  | [d1, d2, d3] => { results := [.lit (.bool true)], args := [d1, d2, d3] }
  | _ => none }
def soundLengthsRow : OpenClaim := { program := "ytgpcfjokmonlgaadoor", sum := "018b668c1ce95bd86b6cbdf388a0ac0a8a88c2a689c76dca805b300a32b64ae1", func := "kotatsu/kotatsulaw12.SoundLengths", spec := "soundLengths", unfollowed := true, recurses := true, named := ["kotatsu/tone.noises", "kotatsu/tone.duties", "kotatsu/tone.lengths"], apart := false, laid := [("kotatsu/tone.lengths", laid_kotatsu_tone_lengths), ("kotatsu/tone.noises", laid_kotatsu_tone_noises), ("kotatsu/tone.duties", laid_kotatsu_tone_duties)] }
def SoundLengthsSaid : Prop := soundLengthsRow.holds Tryd.pinned (OpenSpec.ofChange soundLengthsSpec)

/-- ITS FALSE NEIGHBOUR: 'it returns false'. Refute it at one input. -/
def soundLengthsWrong : ChangeSpec := { name := "soundLengths", fn := fun _ => fun
  | [d1, d2, d3] => { results := [.lit (.bool false)], args := [d1, d2, d3] }
  | _ => none }
def SoundLengthsWrongFalsely : Prop := soundLengthsRow.holds Tryd.pinned (OpenSpec.ofChange soundLengthsWrong)

/-- 'kotatsulaw12.SoundAsks': WHATEVER THE INPUT: true; the input reads as it did. -/
def soundAsksSpec : ChangeSpec := { name := "soundAsks", fn := fun _ => fun
  | [d1, d2, d3] => { results := [.lit (.bool true)], args := [d1, d2, d3] }
  | _ => none }
def soundAsksRow : OpenClaim := { program := "ytgpcfjokmonlgaadoor", sum := "018b668c1ce95bd86b6cbdf388a0ac0a8a88c2a689c76dca805b300a32b64ae1", func := "kotatsu/kotatsulaw12.SoundAsks", spec := "soundAsks", unfollowed := true, recurses := true, named := ["kotatsu/tone.noises", "kotatsu/tone.duties", "kotatsu/tone.lengths", "kotatsu/sound.when", "kotatsu/sound.rates"], apart := false, laid := [("kotatsu/tone.lengths", laid_kotatsu_tone_lengths), ("kotatsu/tone.noises", laid_kotatsu_tone_noises), ("kotatsu/tone.duties", laid_kotatsu_tone_duties), ("kotatsu/sound.rates", laid_kotatsu_sound_rates), ("kotatsu/sound.when", laid_kotatsu_sound_when)] }
def SoundAsksSaid : Prop := soundAsksRow.holds Tryd.pinned (OpenSpec.ofChange soundAsksSpec)

/-- ITS FALSE NEIGHBOUR: 'it returns false'. Refute it at one input. -/
def soundAsksWrong : ChangeSpec := { name := "soundAsks", fn := fun _ => fun
  | [d1, d2, d3] => { results := [.lit (.bool false)], args := [d1, d2, d3] }
  | _ => none }
def SoundAsksWrongFalsely : Prop := soundAsksRow.holds Tryd.pinned (OpenSpec.ofChange soundAsksWrong)

/-- 'kotatsulaw12.SoundRanges': WHATEVER THE INPUT: true; the input reads as it did. -/
def soundRangesSpec : ChangeSpec := { name := "soundRanges", fn := fun _ => fun
  | [d] => { results := [.lit (.bool true)], args := [d] }
  | _ => none }
def soundRangesRow : OpenClaim := { program := "ytgpcfjokmonlgaadoor", sum := "018b668c1ce95bd86b6cbdf388a0ac0a8a88c2a689c76dca805b300a32b64ae1", func := "kotatsu/kotatsulaw12.SoundRanges", spec := "soundRanges", unfollowed := true, recurses := true, named := ["kotatsu/tone.noises", "kotatsu/tone.duties", "kotatsu/sound.when", "kotatsu/sound.rates", "kotatsu/tone.lengths"], apart := false, laid := [("kotatsu/tone.lengths", laid_kotatsu_tone_lengths), ("kotatsu/tone.noises", laid_kotatsu_tone_noises), ("kotatsu/tone.duties", laid_kotatsu_tone_duties), ("kotatsu/sound.rates", laid_kotatsu_sound_rates), ("kotatsu/sound.when", laid_kotatsu_sound_when)] }
def SoundRangesSaid : Prop := soundRangesRow.holds Tryd.pinned (OpenSpec.ofChange soundRangesSpec)

/-- ITS FALSE NEIGHBOUR: 'it returns false'. Refute it at one input. -/
def soundRangesWrong : ChangeSpec := { name := "soundRanges", fn := fun _ => fun
  | [d] => { results := [.lit (.bool false)], args := [d] }
  | _ => none }
def SoundRangesWrongFalsely : Prop := soundRangesRow.holds Tryd.pinned (OpenSpec.ofChange soundRangesWrong)

/-- 'kotatsulaw12.SoundPlays': WHATEVER THE INPUT: true; the input reads as it did. -/
def soundPlaysSpec : ChangeSpec := { name := "soundPlays", fn := fun _ => fun
  | [d] => { results := [.lit (.bool true)], args := [d] }
  | _ => none }
def soundPlaysRow : OpenClaim := { program := "ytgpcfjokmonlgaadoor", sum := "018b668c1ce95bd86b6cbdf388a0ac0a8a88c2a689c76dca805b300a32b64ae1", func := "kotatsu/kotatsulaw12.SoundPlays", spec := "soundPlays", unfollowed := true, recurses := true, named := ["kotatsu/tone.noises", "kotatsu/tone.duties", "kotatsu/sound.when", "kotatsu/sound.rates", "kotatsu/tone.lengths"], apart := false, laid := [("kotatsu/tone.lengths", laid_kotatsu_tone_lengths), ("kotatsu/tone.noises", laid_kotatsu_tone_noises), ("kotatsu/tone.duties", laid_kotatsu_tone_duties), ("kotatsu/sound.rates", laid_kotatsu_sound_rates), ("kotatsu/sound.when", laid_kotatsu_sound_when)] }
def SoundPlaysSaid : Prop := soundPlaysRow.holds Tryd.pinned (OpenSpec.ofChange soundPlaysSpec)

/-- ITS FALSE NEIGHBOUR: 'it returns false'. Refute it at one input. -/
def soundPlaysWrong : ChangeSpec := { name := "soundPlays", fn := fun _ => fun
  | [d] => { results := [.lit (.bool false)], args := [d] }
  | _ => none }
def SoundPlaysWrongFalsely : Prop := soundPlaysRow.holds Tryd.pinned (OpenSpec.ofChange soundPlaysWrong)

/-- 'kotatsulaw12.SoundFrames': WHATEVER THE INPUT: true; the input reads as it did. -/
def soundFramesSpec : ChangeSpec := { name := "soundFrames", fn := fun _ => fun
  | [d1, d2, d3] => { results := [.lit (.bool true)], args := [d1, d2, d3] }
  | _ => none }
def soundFramesRow : OpenClaim := { program := "ytgpcfjokmonlgaadoor", sum := "018b668c1ce95bd86b6cbdf388a0ac0a8a88c2a689c76dca805b300a32b64ae1", func := "kotatsu/kotatsulaw12.SoundFrames", spec := "soundFrames", unfollowed := true, recurses := true, named := ["kotatsu/tone.noises", "kotatsu/tone.duties", "kotatsu/sound.when", "kotatsu/sound.rates", "kotatsu/tone.lengths"], apart := false, laid := [("kotatsu/tone.lengths", laid_kotatsu_tone_lengths), ("kotatsu/tone.noises", laid_kotatsu_tone_noises), ("kotatsu/tone.duties", laid_kotatsu_tone_duties), ("kotatsu/sound.rates", laid_kotatsu_sound_rates), ("kotatsu/sound.when", laid_kotatsu_sound_when)] }
def SoundFramesSaid : Prop := soundFramesRow.holds Tryd.pinned (OpenSpec.ofChange soundFramesSpec)

/-- ITS FALSE NEIGHBOUR: 'it returns false'. Refute it at one input. -/
def soundFramesWrong : ChangeSpec := { name := "soundFrames", fn := fun _ => fun
  | [d1, d2, d3] => { results := [.lit (.bool false)], args := [d1, d2, d3] }
  | _ => none }
def SoundFramesWrongFalsely : Prop := soundFramesRow.holds Tryd.pinned (OpenSpec.ofChange soundFramesWrong)

/-- 'kotatsulaw12.SoundSamples': WHATEVER THE INPUT: true; the input reads as it did. -/
def soundSamplesSpec : ChangeSpec := { name := "soundSamples", fn := fun _ => fun
  | [d1, d2, d3, d4, d5] => { results := [.lit (.bool true)], args := [d1, d2, d3, d4, d5] }
  | _ => none }
def soundSamplesRow : OpenClaim := { program := "ytgpcfjokmonlgaadoor", sum := "018b668c1ce95bd86b6cbdf388a0ac0a8a88c2a689c76dca805b300a32b64ae1", func := "kotatsu/kotatsulaw12.SoundSamples", spec := "soundSamples", unfollowed := true, recurses := true, named := ["kotatsu/tone.noises", "kotatsu/tone.duties", "kotatsu/tone.lengths", "kotatsu/sound.when", "kotatsu/sound.rates"], apart := false, laid := [("kotatsu/tone.lengths", laid_kotatsu_tone_lengths), ("kotatsu/tone.noises", laid_kotatsu_tone_noises), ("kotatsu/tone.duties", laid_kotatsu_tone_duties), ("kotatsu/sound.rates", laid_kotatsu_sound_rates), ("kotatsu/sound.when", laid_kotatsu_sound_when)] }
def SoundSamplesSaid : Prop := soundSamplesRow.holds Tryd.pinned (OpenSpec.ofChange soundSamplesSpec)

/-- ITS FALSE NEIGHBOUR: 'it returns false'. Refute it at one input. -/
def soundSamplesWrong : ChangeSpec := { name := "soundSamples", fn := fun _ => fun
  | [d1, d2, d3, d4, d5] => { results := [.lit (.bool false)], args := [d1, d2, d3, d4, d5] }
  | _ => none }
def SoundSamplesWrongFalsely : Prop := soundSamplesRow.holds Tryd.pinned (OpenSpec.ofChange soundSamplesWrong)

/-- 'kotatsulaw12.SoundNil': WHATEVER THE INPUT: true; the input reads as it did. -/
def soundNilSpec : ChangeSpec := { name := "soundNil", fn := fun _ => fun
  | [d1, d2, d3] => { results := [.lit (.bool true)], args := [d1, d2, d3] }
  | _ => none }
def soundNilRow : OpenClaim := { program := "ytgpcfjokmonlgaadoor", sum := "018b668c1ce95bd86b6cbdf388a0ac0a8a88c2a689c76dca805b300a32b64ae1", func := "kotatsu/kotatsulaw12.SoundNil", spec := "soundNil", unfollowed := true, recurses := true, named := ["kotatsu/tone.noises", "kotatsu/tone.duties", "kotatsu/tone.lengths", "kotatsu/sound.when", "kotatsu/sound.rates"], apart := false, laid := [("kotatsu/tone.lengths", laid_kotatsu_tone_lengths), ("kotatsu/tone.noises", laid_kotatsu_tone_noises), ("kotatsu/tone.duties", laid_kotatsu_tone_duties), ("kotatsu/sound.rates", laid_kotatsu_sound_rates), ("kotatsu/sound.when", laid_kotatsu_sound_when)] }
def SoundNilSaid : Prop := soundNilRow.holds Tryd.pinned (OpenSpec.ofChange soundNilSpec)

/-- ITS FALSE NEIGHBOUR: 'it returns false'. Refute it at one input. -/
def soundNilWrong : ChangeSpec := { name := "soundNil", fn := fun _ => fun
  | [d1, d2, d3] => { results := [.lit (.bool false)], args := [d1, d2, d3] }
  | _ => none }
def SoundNilWrongFalsely : Prop := soundNilRow.holds Tryd.pinned (OpenSpec.ofChange soundNilWrong)

/- THE SECOND FORM. 'bulk': how many values and letters a reading holds, each counted each time it is reached (what is shared counts as often as it is met; a slice's spare places count too). A statement '..UptoSaid' is the law's where the arguments, and the package variables that the reading takes, are together of bulk at most 1048576: NARROWER than '..Said'. Prove '..Said' where nothing that the law and all that it calls make is longer than what came in: it says more and counts as full. Else prove '..UptoSaid'. A law counts once. -/
mutual
def uptoBulk {H : Type} : DataW H → Nat
  | .lit (.string bytes) => bytes.length + 1
  | .lit _ => 1
  | .nil => 1
  | .ptr d => uptoBulk d + 1
  | .slice elems spare => uptoBulkAll elems + uptoBulkAll spare + 1
  | .agg parts => uptoBulkAll parts + 1
  | .iface _ d => uptoBulk d + 1
  | .map entries => uptoBulkEntries entries + 1
  | .held _ => 1
def uptoBulkAll {H : Type} : List (DataW H) → Nat
  | [] => 0
  | d :: r => uptoBulk d + uptoBulkAll r
def uptoBulkEntries {H : Type} : List (Lit × DataW H) → Nat
  | [] => 0
  | x :: r => uptoBulkEntry x + uptoBulkEntries r
def uptoBulkEntry {H : Type} : Lit × DataW H → Nat
  | (.string bytes, d) => bytes.length + uptoBulk d + 1
  | (_, d) => uptoBulk d + 1
 end
def uptoSmall : (H : Type) → List (DataW H) → Bool := fun _ ds => decide (uptoBulkAll ds ≤ 1048576)
def OpenSpec.upto (s : _root_.Go.ChangeSpec) : _root_.Go.OpenSpec := { _root_.Go.OpenSpec.ofChange s with cond := some uptoSmall }

/-- 'kotatsulaw12.SoundLengths', WHERE WHAT IT READS IS OF BULK AT MOST 1048576: true; the input reads as it did. -/
def soundLengthsUptoRow : OpenClaim := { program := "ytgpcfjokmonlgaadoor", sum := "018b668c1ce95bd86b6cbdf388a0ac0a8a88c2a689c76dca805b300a32b64ae1", func := "kotatsu/kotatsulaw12.SoundLengths", spec := "soundLengths", unfollowed := true, recurses := true, named := ["kotatsu/tone.noises", "kotatsu/tone.duties", "kotatsu/tone.lengths"], apart := false, laid := [("kotatsu/tone.lengths", laid_kotatsu_tone_lengths), ("kotatsu/tone.noises", laid_kotatsu_tone_noises), ("kotatsu/tone.duties", laid_kotatsu_tone_duties)], narrowed := true }
def SoundLengthsUptoSaid : Prop := soundLengthsUptoRow.holds Tryd.pinned (OpenSpec.upto soundLengthsSpec)

/-- 'kotatsulaw12.SoundAsks', WHERE WHAT IT READS IS OF BULK AT MOST 1048576: true; the input reads as it did. -/
def soundAsksUptoRow : OpenClaim := { program := "ytgpcfjokmonlgaadoor", sum := "018b668c1ce95bd86b6cbdf388a0ac0a8a88c2a689c76dca805b300a32b64ae1", func := "kotatsu/kotatsulaw12.SoundAsks", spec := "soundAsks", unfollowed := true, recurses := true, named := ["kotatsu/tone.noises", "kotatsu/tone.duties", "kotatsu/tone.lengths", "kotatsu/sound.when", "kotatsu/sound.rates"], apart := false, laid := [("kotatsu/tone.lengths", laid_kotatsu_tone_lengths), ("kotatsu/tone.noises", laid_kotatsu_tone_noises), ("kotatsu/tone.duties", laid_kotatsu_tone_duties), ("kotatsu/sound.rates", laid_kotatsu_sound_rates), ("kotatsu/sound.when", laid_kotatsu_sound_when)], narrowed := true }
def SoundAsksUptoSaid : Prop := soundAsksUptoRow.holds Tryd.pinned (OpenSpec.upto soundAsksSpec)

/-- 'kotatsulaw12.SoundRanges', WHERE WHAT IT READS IS OF BULK AT MOST 1048576: true; the input reads as it did. -/
def soundRangesUptoRow : OpenClaim := { program := "ytgpcfjokmonlgaadoor", sum := "018b668c1ce95bd86b6cbdf388a0ac0a8a88c2a689c76dca805b300a32b64ae1", func := "kotatsu/kotatsulaw12.SoundRanges", spec := "soundRanges", unfollowed := true, recurses := true, named := ["kotatsu/tone.noises", "kotatsu/tone.duties", "kotatsu/sound.when", "kotatsu/sound.rates", "kotatsu/tone.lengths"], apart := false, laid := [("kotatsu/tone.lengths", laid_kotatsu_tone_lengths), ("kotatsu/tone.noises", laid_kotatsu_tone_noises), ("kotatsu/tone.duties", laid_kotatsu_tone_duties), ("kotatsu/sound.rates", laid_kotatsu_sound_rates), ("kotatsu/sound.when", laid_kotatsu_sound_when)], narrowed := true }
def SoundRangesUptoSaid : Prop := soundRangesUptoRow.holds Tryd.pinned (OpenSpec.upto soundRangesSpec)

/-- 'kotatsulaw12.SoundPlays', WHERE WHAT IT READS IS OF BULK AT MOST 1048576: true; the input reads as it did. -/
def soundPlaysUptoRow : OpenClaim := { program := "ytgpcfjokmonlgaadoor", sum := "018b668c1ce95bd86b6cbdf388a0ac0a8a88c2a689c76dca805b300a32b64ae1", func := "kotatsu/kotatsulaw12.SoundPlays", spec := "soundPlays", unfollowed := true, recurses := true, named := ["kotatsu/tone.noises", "kotatsu/tone.duties", "kotatsu/sound.when", "kotatsu/sound.rates", "kotatsu/tone.lengths"], apart := false, laid := [("kotatsu/tone.lengths", laid_kotatsu_tone_lengths), ("kotatsu/tone.noises", laid_kotatsu_tone_noises), ("kotatsu/tone.duties", laid_kotatsu_tone_duties), ("kotatsu/sound.rates", laid_kotatsu_sound_rates), ("kotatsu/sound.when", laid_kotatsu_sound_when)], narrowed := true }
def SoundPlaysUptoSaid : Prop := soundPlaysUptoRow.holds Tryd.pinned (OpenSpec.upto soundPlaysSpec)

/-- 'kotatsulaw12.SoundFrames', WHERE WHAT IT READS IS OF BULK AT MOST 1048576: true; the input reads as it did. -/
def soundFramesUptoRow : OpenClaim := { program := "ytgpcfjokmonlgaadoor", sum := "018b668c1ce95bd86b6cbdf388a0ac0a8a88c2a689c76dca805b300a32b64ae1", func := "kotatsu/kotatsulaw12.SoundFrames", spec := "soundFrames", unfollowed := true, recurses := true, named := ["kotatsu/tone.noises", "kotatsu/tone.duties", "kotatsu/sound.when", "kotatsu/sound.rates", "kotatsu/tone.lengths"], apart := false, laid := [("kotatsu/tone.lengths", laid_kotatsu_tone_lengths), ("kotatsu/tone.noises", laid_kotatsu_tone_noises), ("kotatsu/tone.duties", laid_kotatsu_tone_duties), ("kotatsu/sound.rates", laid_kotatsu_sound_rates), ("kotatsu/sound.when", laid_kotatsu_sound_when)], narrowed := true }
def SoundFramesUptoSaid : Prop := soundFramesUptoRow.holds Tryd.pinned (OpenSpec.upto soundFramesSpec)

/-- 'kotatsulaw12.SoundSamples', WHERE WHAT IT READS IS OF BULK AT MOST 1048576: true; the input reads as it did. -/
def soundSamplesUptoRow : OpenClaim := { program := "ytgpcfjokmonlgaadoor", sum := "018b668c1ce95bd86b6cbdf388a0ac0a8a88c2a689c76dca805b300a32b64ae1", func := "kotatsu/kotatsulaw12.SoundSamples", spec := "soundSamples", unfollowed := true, recurses := true, named := ["kotatsu/tone.noises", "kotatsu/tone.duties", "kotatsu/tone.lengths", "kotatsu/sound.when", "kotatsu/sound.rates"], apart := false, laid := [("kotatsu/tone.lengths", laid_kotatsu_tone_lengths), ("kotatsu/tone.noises", laid_kotatsu_tone_noises), ("kotatsu/tone.duties", laid_kotatsu_tone_duties), ("kotatsu/sound.rates", laid_kotatsu_sound_rates), ("kotatsu/sound.when", laid_kotatsu_sound_when)], narrowed := true }
def SoundSamplesUptoSaid : Prop := soundSamplesUptoRow.holds Tryd.pinned (OpenSpec.upto soundSamplesSpec)

/-- 'kotatsulaw12.SoundNil', WHERE WHAT IT READS IS OF BULK AT MOST 1048576: true; the input reads as it did. -/
def soundNilUptoRow : OpenClaim := { program := "ytgpcfjokmonlgaadoor", sum := "018b668c1ce95bd86b6cbdf388a0ac0a8a88c2a689c76dca805b300a32b64ae1", func := "kotatsu/kotatsulaw12.SoundNil", spec := "soundNil", unfollowed := true, recurses := true, named := ["kotatsu/tone.noises", "kotatsu/tone.duties", "kotatsu/tone.lengths", "kotatsu/sound.when", "kotatsu/sound.rates"], apart := false, laid := [("kotatsu/tone.lengths", laid_kotatsu_tone_lengths), ("kotatsu/tone.noises", laid_kotatsu_tone_noises), ("kotatsu/tone.duties", laid_kotatsu_tone_duties), ("kotatsu/sound.rates", laid_kotatsu_sound_rates), ("kotatsu/sound.when", laid_kotatsu_sound_when)], narrowed := true }
def SoundNilUptoSaid : Prop := soundNilUptoRow.holds Tryd.pinned (OpenSpec.upto soundNilSpec)

end Rows
end Go.Proofs.YtgpcfjokmonlgaaDoor
