/-
  NARROWER THAN 'FOR EVERY INPUT', by the rows' own cells (each row's printed sentence says how): ToneNoises: laid · ToneMutes: laid · ToneSweeps: laid · ToneLines: laid · ToneWaves: laid · TonePlays: laid · ToneEnds: laid · ToneNil: laid.
  DERIVED. THE GIVEN ROWS OF THIS SEAT. 8 by the template 'for every input the law returns true; each argument reads behind the call as it read before'; 0 by the template 'total and deterministic' (their statements: YtngeghiaakkdbaaDoorTotals.lean).
  GIVEN WITH THE SEED: the statements are not yours to turn. If you find one false, say at which input.
  Laid BY PROGRAM, IN A SANDBOX (cutbox-rows.mjs): the forced cells as the released guide's own fill.sh prints them over the translation 5022fe835bc42b72… (all of the seat's roots in one cut). By AI agents, Wed Nov 11 2026. No macro, syntax, notation, axiom, sorry.
-/
import Derived.Test.YtngeghiaakkdbaaDoorChecked
import GoSem.Claim
import GoSem.ClaimJoined
import GoSem.ClaimMapViews
import Derived.JoinedTies
import Derived.KernelRfl
namespace Go.Proofs.YtngeghiaakkdbaaDoor
/- THE CELL 'sum', in the pinned program and in every row, IS THE sha256 OF THE DUMP (.gsa) THAT YtngeghiaakkdbaaDoorProg.lean LOADS. Nothing in Lean hashes anything: it is a label: what it is worth is what the hold of that sum in a sandbox is worth. -/
noncomputable def Tryd.pinned : Pinned := { name := "ytngeghiaakkdbaadoor", sum := "5022fe835bc42b7260b455eb85ebe2398f43b760a4811ad97843a343394e037c", checked := Tryd.checked }
namespace Rows
def none {H : Type} : Left H := { results := [], args := [] }

/- WHAT THE LISTED PACKAGE-LEVEL VARIABLES READ AS WHEN THE CALL BEGINS. Each datum BY PROGRAM (the guide's laid-datum.mjs) off the statement by which the dump's own 'gosem.cut.vars' lays the variable. In a bare row this is a premise. The card (YtngeghiaakkdbaaDoorCards.lean) ties it to the program's text. -/
def laid_kotatsu_tone_lengths {H : Type} : DataW H := .agg [.lit (.int .u8 10), .lit (.int .u8 254), .lit (.int .u8 20), .lit (.int .u8 2), .lit (.int .u8 40), .lit (.int .u8 4), .lit (.int .u8 80), .lit (.int .u8 6), .lit (.int .u8 160), .lit (.int .u8 8), .lit (.int .u8 60), .lit (.int .u8 10), .lit (.int .u8 14), .lit (.int .u8 12), .lit (.int .u8 26), .lit (.int .u8 14), .lit (.int .u8 12), .lit (.int .u8 16), .lit (.int .u8 24), .lit (.int .u8 18), .lit (.int .u8 48), .lit (.int .u8 20), .lit (.int .u8 96), .lit (.int .u8 22), .lit (.int .u8 192), .lit (.int .u8 24), .lit (.int .u8 72), .lit (.int .u8 26), .lit (.int .u8 16), .lit (.int .u8 28), .lit (.int .u8 32), .lit (.int .u8 30)]
def laid_kotatsu_tone_noises {H : Type} : DataW H := .agg [.lit (.int .u16 4), .lit (.int .u16 8), .lit (.int .u16 16), .lit (.int .u16 32), .lit (.int .u16 64), .lit (.int .u16 96), .lit (.int .u16 128), .lit (.int .u16 160), .lit (.int .u16 202), .lit (.int .u16 254), .lit (.int .u16 380), .lit (.int .u16 508), .lit (.int .u16 762), .lit (.int .u16 1016), .lit (.int .u16 2034), .lit (.int .u16 4068)]
def laid_kotatsu_tone_duties {H : Type} : DataW H := .agg [.lit (.int .u8 64), .lit (.int .u8 96), .lit (.int .u8 120), .lit (.int .u8 159)]

/-- 'kotatsulaw11.ToneNoises': WHATEVER THE INPUT: true; the input reads as it did. -/
def toneNoisesSpec : ChangeSpec := { name := "toneNoises", fn := fun _ => fun
  | [d1, d2, d3] => { results := [.lit (.bool true)], args := [d1, d2, d3] }
  | _ => none }
def toneNoisesRow : OpenClaim := { program := "ytngeghiaakkdbaadoor", sum := "5022fe835bc42b7260b455eb85ebe2398f43b760a4811ad97843a343394e037c", func := "kotatsu/kotatsulaw11.ToneNoises", spec := "toneNoises", named := ["kotatsu/tone.noises", "kotatsu/tone.duties", "kotatsu/tone.lengths"], apart := false, laid := [("kotatsu/tone.lengths", laid_kotatsu_tone_lengths), ("kotatsu/tone.noises", laid_kotatsu_tone_noises), ("kotatsu/tone.duties", laid_kotatsu_tone_duties)] }
def ToneNoisesSaid : Prop := toneNoisesRow.holds Tryd.pinned (OpenSpec.ofChange toneNoisesSpec)

/-- ITS FALSE NEIGHBOUR: 'it returns false'. Refute it at one input. -/
def toneNoisesWrong : ChangeSpec := { name := "toneNoises", fn := fun _ => fun
  | [d1, d2, d3] => { results := [.lit (.bool false)], args := [d1, d2, d3] }
  | _ => none }
def ToneNoisesWrongFalsely : Prop := toneNoisesRow.holds Tryd.pinned (OpenSpec.ofChange toneNoisesWrong)

/-- 'kotatsulaw11.ToneMutes': WHATEVER THE INPUT: true; the input reads as it did. -/
def toneMutesSpec : ChangeSpec := { name := "toneMutes", fn := fun _ => fun
  | [d1, d2, d3, d4, d5] => { results := [.lit (.bool true)], args := [d1, d2, d3, d4, d5] }
  | _ => none }
def toneMutesRow : OpenClaim := { program := "ytngeghiaakkdbaadoor", sum := "5022fe835bc42b7260b455eb85ebe2398f43b760a4811ad97843a343394e037c", func := "kotatsu/kotatsulaw11.ToneMutes", spec := "toneMutes", named := ["kotatsu/tone.noises", "kotatsu/tone.duties", "kotatsu/tone.lengths"], apart := false, laid := [("kotatsu/tone.lengths", laid_kotatsu_tone_lengths), ("kotatsu/tone.noises", laid_kotatsu_tone_noises), ("kotatsu/tone.duties", laid_kotatsu_tone_duties)] }
def ToneMutesSaid : Prop := toneMutesRow.holds Tryd.pinned (OpenSpec.ofChange toneMutesSpec)

/-- ITS FALSE NEIGHBOUR: 'it returns false'. Refute it at one input. -/
def toneMutesWrong : ChangeSpec := { name := "toneMutes", fn := fun _ => fun
  | [d1, d2, d3, d4, d5] => { results := [.lit (.bool false)], args := [d1, d2, d3, d4, d5] }
  | _ => none }
def ToneMutesWrongFalsely : Prop := toneMutesRow.holds Tryd.pinned (OpenSpec.ofChange toneMutesWrong)

/-- 'kotatsulaw11.ToneSweeps': WHATEVER THE INPUT: true; the input reads as it did. -/
def toneSweepsSpec : ChangeSpec := { name := "toneSweeps", fn := fun _ => fun
  | [d1, d2, d3] => { results := [.lit (.bool true)], args := [d1, d2, d3] }
  | _ => none }
def toneSweepsRow : OpenClaim := { program := "ytngeghiaakkdbaadoor", sum := "5022fe835bc42b7260b455eb85ebe2398f43b760a4811ad97843a343394e037c", func := "kotatsu/kotatsulaw11.ToneSweeps", spec := "toneSweeps", named := ["kotatsu/tone.noises", "kotatsu/tone.duties", "kotatsu/tone.lengths"], apart := false, laid := [("kotatsu/tone.lengths", laid_kotatsu_tone_lengths), ("kotatsu/tone.noises", laid_kotatsu_tone_noises), ("kotatsu/tone.duties", laid_kotatsu_tone_duties)] }
def ToneSweepsSaid : Prop := toneSweepsRow.holds Tryd.pinned (OpenSpec.ofChange toneSweepsSpec)

/-- ITS FALSE NEIGHBOUR: 'it returns false'. Refute it at one input. -/
def toneSweepsWrong : ChangeSpec := { name := "toneSweeps", fn := fun _ => fun
  | [d1, d2, d3] => { results := [.lit (.bool false)], args := [d1, d2, d3] }
  | _ => none }
def ToneSweepsWrongFalsely : Prop := toneSweepsRow.holds Tryd.pinned (OpenSpec.ofChange toneSweepsWrong)

/-- 'kotatsulaw11.ToneLines': WHATEVER THE INPUT: true; the input reads as it did. -/
def toneLinesSpec : ChangeSpec := { name := "toneLines", fn := fun _ => fun
  | [d1, d2, d3] => { results := [.lit (.bool true)], args := [d1, d2, d3] }
  | _ => none }
def toneLinesRow : OpenClaim := { program := "ytngeghiaakkdbaadoor", sum := "5022fe835bc42b7260b455eb85ebe2398f43b760a4811ad97843a343394e037c", func := "kotatsu/kotatsulaw11.ToneLines", spec := "toneLines", named := ["kotatsu/tone.noises", "kotatsu/tone.duties", "kotatsu/tone.lengths"], apart := false, laid := [("kotatsu/tone.lengths", laid_kotatsu_tone_lengths), ("kotatsu/tone.noises", laid_kotatsu_tone_noises), ("kotatsu/tone.duties", laid_kotatsu_tone_duties)] }
def ToneLinesSaid : Prop := toneLinesRow.holds Tryd.pinned (OpenSpec.ofChange toneLinesSpec)

/-- ITS FALSE NEIGHBOUR: 'it returns false'. Refute it at one input. -/
def toneLinesWrong : ChangeSpec := { name := "toneLines", fn := fun _ => fun
  | [d1, d2, d3] => { results := [.lit (.bool false)], args := [d1, d2, d3] }
  | _ => none }
def ToneLinesWrongFalsely : Prop := toneLinesRow.holds Tryd.pinned (OpenSpec.ofChange toneLinesWrong)

/-- 'kotatsulaw11.ToneWaves': WHATEVER THE INPUT: true; the input reads as it did. -/
def toneWavesSpec : ChangeSpec := { name := "toneWaves", fn := fun _ => fun
  | [d1, d2, d3] => { results := [.lit (.bool true)], args := [d1, d2, d3] }
  | _ => none }
def toneWavesRow : OpenClaim := { program := "ytngeghiaakkdbaadoor", sum := "5022fe835bc42b7260b455eb85ebe2398f43b760a4811ad97843a343394e037c", func := "kotatsu/kotatsulaw11.ToneWaves", spec := "toneWaves", named := ["kotatsu/tone.noises", "kotatsu/tone.duties", "kotatsu/tone.lengths"], apart := false, laid := [("kotatsu/tone.lengths", laid_kotatsu_tone_lengths), ("kotatsu/tone.noises", laid_kotatsu_tone_noises), ("kotatsu/tone.duties", laid_kotatsu_tone_duties)] }
def ToneWavesSaid : Prop := toneWavesRow.holds Tryd.pinned (OpenSpec.ofChange toneWavesSpec)

/-- ITS FALSE NEIGHBOUR: 'it returns false'. Refute it at one input. -/
def toneWavesWrong : ChangeSpec := { name := "toneWaves", fn := fun _ => fun
  | [d1, d2, d3] => { results := [.lit (.bool false)], args := [d1, d2, d3] }
  | _ => none }
def ToneWavesWrongFalsely : Prop := toneWavesRow.holds Tryd.pinned (OpenSpec.ofChange toneWavesWrong)

/-- 'kotatsulaw11.TonePlays': WHATEVER THE INPUT: true; the input reads as it did. -/
def tonePlaysSpec : ChangeSpec := { name := "tonePlays", fn := fun _ => fun
  | [d1, d2] => { results := [.lit (.bool true)], args := [d1, d2] }
  | _ => none }
def tonePlaysRow : OpenClaim := { program := "ytngeghiaakkdbaadoor", sum := "5022fe835bc42b7260b455eb85ebe2398f43b760a4811ad97843a343394e037c", func := "kotatsu/kotatsulaw11.TonePlays", spec := "tonePlays", named := ["kotatsu/tone.noises", "kotatsu/tone.duties", "kotatsu/tone.lengths"], apart := false, laid := [("kotatsu/tone.lengths", laid_kotatsu_tone_lengths), ("kotatsu/tone.noises", laid_kotatsu_tone_noises), ("kotatsu/tone.duties", laid_kotatsu_tone_duties)] }
def TonePlaysSaid : Prop := tonePlaysRow.holds Tryd.pinned (OpenSpec.ofChange tonePlaysSpec)

/-- ITS FALSE NEIGHBOUR: 'it returns false'. Refute it at one input. -/
def tonePlaysWrong : ChangeSpec := { name := "tonePlays", fn := fun _ => fun
  | [d1, d2] => { results := [.lit (.bool false)], args := [d1, d2] }
  | _ => none }
def TonePlaysWrongFalsely : Prop := tonePlaysRow.holds Tryd.pinned (OpenSpec.ofChange tonePlaysWrong)

/-- 'kotatsulaw11.ToneEnds': WHATEVER THE INPUT: true; the input reads as it did. -/
def toneEndsSpec : ChangeSpec := { name := "toneEnds", fn := fun _ => fun
  | [d1, d2, d3, d4, d5] => { results := [.lit (.bool true)], args := [d1, d2, d3, d4, d5] }
  | _ => none }
def toneEndsRow : OpenClaim := { program := "ytngeghiaakkdbaadoor", sum := "5022fe835bc42b7260b455eb85ebe2398f43b760a4811ad97843a343394e037c", func := "kotatsu/kotatsulaw11.ToneEnds", spec := "toneEnds", named := ["kotatsu/tone.noises", "kotatsu/tone.duties", "kotatsu/tone.lengths"], apart := false, laid := [("kotatsu/tone.lengths", laid_kotatsu_tone_lengths), ("kotatsu/tone.noises", laid_kotatsu_tone_noises), ("kotatsu/tone.duties", laid_kotatsu_tone_duties)] }
def ToneEndsSaid : Prop := toneEndsRow.holds Tryd.pinned (OpenSpec.ofChange toneEndsSpec)

/-- ITS FALSE NEIGHBOUR: 'it returns false'. Refute it at one input. -/
def toneEndsWrong : ChangeSpec := { name := "toneEnds", fn := fun _ => fun
  | [d1, d2, d3, d4, d5] => { results := [.lit (.bool false)], args := [d1, d2, d3, d4, d5] }
  | _ => none }
def ToneEndsWrongFalsely : Prop := toneEndsRow.holds Tryd.pinned (OpenSpec.ofChange toneEndsWrong)

/-- 'kotatsulaw11.ToneNil': WHATEVER THE INPUT: true; the input reads as it did. -/
def toneNilSpec : ChangeSpec := { name := "toneNil", fn := fun _ => fun
  | [d1, d2, d3, d4] => { results := [.lit (.bool true)], args := [d1, d2, d3, d4] }
  | _ => none }
def toneNilRow : OpenClaim := { program := "ytngeghiaakkdbaadoor", sum := "5022fe835bc42b7260b455eb85ebe2398f43b760a4811ad97843a343394e037c", func := "kotatsu/kotatsulaw11.ToneNil", spec := "toneNil", named := ["kotatsu/tone.noises", "kotatsu/tone.duties", "kotatsu/tone.lengths"], apart := false, laid := [("kotatsu/tone.lengths", laid_kotatsu_tone_lengths), ("kotatsu/tone.noises", laid_kotatsu_tone_noises), ("kotatsu/tone.duties", laid_kotatsu_tone_duties)] }
def ToneNilSaid : Prop := toneNilRow.holds Tryd.pinned (OpenSpec.ofChange toneNilSpec)

/-- ITS FALSE NEIGHBOUR: 'it returns false'. Refute it at one input. -/
def toneNilWrong : ChangeSpec := { name := "toneNil", fn := fun _ => fun
  | [d1, d2, d3, d4] => { results := [.lit (.bool false)], args := [d1, d2, d3, d4] }
  | _ => none }
def ToneNilWrongFalsely : Prop := toneNilRow.holds Tryd.pinned (OpenSpec.ofChange toneNilWrong)

/- THE SECOND FORM. 'bulk': how many values and letters a reading holds, each counted each time it is reached (what is shared counts as often as it is met; a slice's spare places count too). A statement '..UptoSaid' is the law's where the arguments, and the package variables that the reading takes, are together of bulk at most 1048576: NARROWER than '..Said'. Prove '..Said' where nothing that the law and all that it calls make is longer than what came in: it says more and counts as full. Else prove '..UptoSaid'. A law counts once. -/
mutual
def uptoBulk {H : Type} : DataW H → Nat
  | .lit (.string bytes) => bytes.length + 1
  | .lit _ => 1
  | .nil => 1
  | .ptr d => uptoBulk d + 1
  | .slice elems spare => uptoBulkAll elems + uptoBulkAll spare + 1
  | .agg parts => uptoBulkAll parts + 1
  | .iface _ d => uptoBulk d + 1
  | .map entries => uptoBulkEntries entries + 1
  | .held _ => 1
def uptoBulkAll {H : Type} : List (DataW H) → Nat
  | [] => 0
  | d :: r => uptoBulk d + uptoBulkAll r
def uptoBulkEntries {H : Type} : List (Lit × DataW H) → Nat
  | [] => 0
  | x :: r => uptoBulkEntry x + uptoBulkEntries r
def uptoBulkEntry {H : Type} : Lit × DataW H → Nat
  | (.string bytes, d) => bytes.length + uptoBulk d + 1
  | (_, d) => uptoBulk d + 1
 end
def uptoSmall : (H : Type) → List (DataW H) → Bool := fun _ ds => decide (uptoBulkAll ds ≤ 1048576)
def OpenSpec.upto (s : _root_.Go.ChangeSpec) : _root_.Go.OpenSpec := { _root_.Go.OpenSpec.ofChange s with cond := some uptoSmall }

/-- 'kotatsulaw11.ToneNoises', WHERE WHAT IT READS IS OF BULK AT MOST 1048576: true; the input reads as it did. -/
def toneNoisesUptoRow : OpenClaim := { program := "ytngeghiaakkdbaadoor", sum := "5022fe835bc42b7260b455eb85ebe2398f43b760a4811ad97843a343394e037c", func := "kotatsu/kotatsulaw11.ToneNoises", spec := "toneNoises", named := ["kotatsu/tone.noises", "kotatsu/tone.duties", "kotatsu/tone.lengths"], apart := false, laid := [("kotatsu/tone.lengths", laid_kotatsu_tone_lengths), ("kotatsu/tone.noises", laid_kotatsu_tone_noises), ("kotatsu/tone.duties", laid_kotatsu_tone_duties)], narrowed := true }
def ToneNoisesUptoSaid : Prop := toneNoisesUptoRow.holds Tryd.pinned (OpenSpec.upto toneNoisesSpec)

/-- 'kotatsulaw11.ToneMutes', WHERE WHAT IT READS IS OF BULK AT MOST 1048576: true; the input reads as it did. -/
def toneMutesUptoRow : OpenClaim := { program := "ytngeghiaakkdbaadoor", sum := "5022fe835bc42b7260b455eb85ebe2398f43b760a4811ad97843a343394e037c", func := "kotatsu/kotatsulaw11.ToneMutes", spec := "toneMutes", named := ["kotatsu/tone.noises", "kotatsu/tone.duties", "kotatsu/tone.lengths"], apart := false, laid := [("kotatsu/tone.lengths", laid_kotatsu_tone_lengths), ("kotatsu/tone.noises", laid_kotatsu_tone_noises), ("kotatsu/tone.duties", laid_kotatsu_tone_duties)], narrowed := true }
def ToneMutesUptoSaid : Prop := toneMutesUptoRow.holds Tryd.pinned (OpenSpec.upto toneMutesSpec)

/-- 'kotatsulaw11.ToneSweeps', WHERE WHAT IT READS IS OF BULK AT MOST 1048576: true; the input reads as it did. -/
def toneSweepsUptoRow : OpenClaim := { program := "ytngeghiaakkdbaadoor", sum := "5022fe835bc42b7260b455eb85ebe2398f43b760a4811ad97843a343394e037c", func := "kotatsu/kotatsulaw11.ToneSweeps", spec := "toneSweeps", named := ["kotatsu/tone.noises", "kotatsu/tone.duties", "kotatsu/tone.lengths"], apart := false, laid := [("kotatsu/tone.lengths", laid_kotatsu_tone_lengths), ("kotatsu/tone.noises", laid_kotatsu_tone_noises), ("kotatsu/tone.duties", laid_kotatsu_tone_duties)], narrowed := true }
def ToneSweepsUptoSaid : Prop := toneSweepsUptoRow.holds Tryd.pinned (OpenSpec.upto toneSweepsSpec)

/-- 'kotatsulaw11.ToneLines', WHERE WHAT IT READS IS OF BULK AT MOST 1048576: true; the input reads as it did. -/
def toneLinesUptoRow : OpenClaim := { program := "ytngeghiaakkdbaadoor", sum := "5022fe835bc42b7260b455eb85ebe2398f43b760a4811ad97843a343394e037c", func := "kotatsu/kotatsulaw11.ToneLines", spec := "toneLines", named := ["kotatsu/tone.noises", "kotatsu/tone.duties", "kotatsu/tone.lengths"], apart := false, laid := [("kotatsu/tone.lengths", laid_kotatsu_tone_lengths), ("kotatsu/tone.noises", laid_kotatsu_tone_noises), ("kotatsu/tone.duties", laid_kotatsu_tone_duties)], narrowed := true }
def ToneLinesUptoSaid : Prop := toneLinesUptoRow.holds Tryd.pinned (OpenSpec.upto toneLinesSpec)

/-- 'kotatsulaw11.ToneWaves', WHERE WHAT IT READS IS OF BULK AT MOST 1048576: true; the input reads as it did. -/
def toneWavesUptoRow : OpenClaim := { program := "ytngeghiaakkdbaadoor", sum := "5022fe835bc42b7260b455eb85ebe2398f43b760a4811ad97843a343394e037c", func := "kotatsu/kotatsulaw11.ToneWaves", spec := "toneWaves", named := ["kotatsu/tone.noises", "kotatsu/tone.duties", "kotatsu/tone.lengths"], apart := false, laid := [("kotatsu/tone.lengths", laid_kotatsu_tone_lengths), ("kotatsu/tone.noises", laid_kotatsu_tone_noises), ("kotatsu/tone.duties", laid_kotatsu_tone_duties)], narrowed := true }
def ToneWavesUptoSaid : Prop := toneWavesUptoRow.holds Tryd.pinned (OpenSpec.upto toneWavesSpec)

/-- 'kotatsulaw11.TonePlays', WHERE WHAT IT READS IS OF BULK AT MOST 1048576: true; the input reads as it did. -/
def tonePlaysUptoRow : OpenClaim := { program := "ytngeghiaakkdbaadoor", sum := "5022fe835bc42b7260b455eb85ebe2398f43b760a4811ad97843a343394e037c", func := "kotatsu/kotatsulaw11.TonePlays", spec := "tonePlays", named := ["kotatsu/tone.noises", "kotatsu/tone.duties", "kotatsu/tone.lengths"], apart := false, laid := [("kotatsu/tone.lengths", laid_kotatsu_tone_lengths), ("kotatsu/tone.noises", laid_kotatsu_tone_noises), ("kotatsu/tone.duties", laid_kotatsu_tone_duties)], narrowed := true }
def TonePlaysUptoSaid : Prop := tonePlaysUptoRow.holds Tryd.pinned (OpenSpec.upto tonePlaysSpec)

/-- 'kotatsulaw11.ToneEnds', WHERE WHAT IT READS IS OF BULK AT MOST 1048576: true; the input reads as it did. -/
def toneEndsUptoRow : OpenClaim := { program := "ytngeghiaakkdbaadoor", sum := "5022fe835bc42b7260b455eb85ebe2398f43b760a4811ad97843a343394e037c", func := "kotatsu/kotatsulaw11.ToneEnds", spec := "toneEnds", named := ["kotatsu/tone.noises", "kotatsu/tone.duties", "kotatsu/tone.lengths"], apart := false, laid := [("kotatsu/tone.lengths", laid_kotatsu_tone_lengths), ("kotatsu/tone.noises", laid_kotatsu_tone_noises), ("kotatsu/tone.duties", laid_kotatsu_tone_duties)], narrowed := true }
def ToneEndsUptoSaid : Prop := toneEndsUptoRow.holds Tryd.pinned (OpenSpec.upto toneEndsSpec)

/-- 'kotatsulaw11.ToneNil', WHERE WHAT IT READS IS OF BULK AT MOST 1048576: true; the input reads as it did. -/
def toneNilUptoRow : OpenClaim := { program := "ytngeghiaakkdbaadoor", sum := "5022fe835bc42b7260b455eb85ebe2398f43b760a4811ad97843a343394e037c", func := "kotatsu/kotatsulaw11.ToneNil", spec := "toneNil", named := ["kotatsu/tone.noises", "kotatsu/tone.duties", "kotatsu/tone.lengths"], apart := false, laid := [("kotatsu/tone.lengths", laid_kotatsu_tone_lengths), ("kotatsu/tone.noises", laid_kotatsu_tone_noises), ("kotatsu/tone.duties", laid_kotatsu_tone_duties)], narrowed := true }
def ToneNilUptoSaid : Prop := toneNilUptoRow.holds Tryd.pinned (OpenSpec.upto toneNilSpec)

end Rows
end Go.Proofs.YtngeghiaakkdbaaDoor
