/-
  No cell of these rows narrows 'for every input' (looked for: loops, veiled, ifaces, maps, wideKeys, modest, calm, conditions, laid).
  DERIVED. THE GIVEN ROWS OF THIS SEAT. 8 by the template 'for every input the law returns true; each argument reads behind the call as it read before'; 0 by the template 'total and deterministic' (their statements: YtmnhmplcpijanaaGreatTotals.lean).
  GIVEN WITH THE SEED: the statements are not yours to turn. If you find one false, say at which input.
  Laid BY PROGRAM, IN A SANDBOX (cutbox-rows.mjs): the forced cells as the released guide's own fill.sh prints them over the translation e24ed8ad7146c339… (all of the seat's roots in one cut). By AI agents, Wed Nov 11 2026. No macro, syntax, notation, axiom, sorry.
-/
import Derived.Test.YtmnhmplcpijanaaGreatChecked
import GoSem.Claim
import GoSem.ClaimJoined
import GoSem.ClaimMapViews
import Derived.JoinedTies
import Derived.KernelRfl
namespace Go.Proofs.YtmnhmplcpijanaaGreat
/- THE CELL 'sum', in the pinned program and in every row, IS THE sha256 OF THE DUMP (.gsa) THAT YtmnhmplcpijanaaGreatProg.lean LOADS. Nothing in Lean hashes anything: it is a label: what it is worth is what the hold of that sum in a sandbox is worth. -/
noncomputable def Tryz.pinned : Pinned := { name := "ytmnhmplcpijanaagreat", sum := "e24ed8ad7146c33944bada0eac629a42aa87b5f80d515514c6fda81698aec995", checked := Tryz.checked }
namespace Rows
def none {H : Type} : Left H := { results := [], args := [] }

/-- 'kotatsulaw10.CoreWrites': WHATEVER THE INPUT: true; the input reads as it did. -/
def coreWritesSpec : ChangeSpec := { name := "coreWrites", fn := fun _ => fun
  | [d1, d2] => { results := [.lit (.bool true)], args := [d1, d2] }
  | _ => none }
def coreWritesRow : OpenClaim := { program := "ytmnhmplcpijanaagreat", sum := "e24ed8ad7146c33944bada0eac629a42aa87b5f80d515514c6fda81698aec995", func := "kotatsu/kotatsulaw10.CoreWrites", spec := "coreWrites", inPlace := ["internal/bytealg.IndexByteString"], unfollowed := true, recurses := true, apart := false }
def CoreWritesSaid : Prop := coreWritesRow.holds Tryz.pinned (OpenSpec.ofChange coreWritesSpec)

/-- ITS FALSE NEIGHBOUR: 'it returns false'. Refute it at one input. -/
def coreWritesWrong : ChangeSpec := { name := "coreWrites", fn := fun _ => fun
  | [d1, d2] => { results := [.lit (.bool false)], args := [d1, d2] }
  | _ => none }
def CoreWritesWrongFalsely : Prop := coreWritesRow.holds Tryz.pinned (OpenSpec.ofChange coreWritesWrong)

/-- 'kotatsulaw10.CoreReturns': WHATEVER THE INPUT: true; the input reads as it did. -/
def coreReturnsSpec : ChangeSpec := { name := "coreReturns", fn := fun _ => fun
  | [d1, d2, d3] => { results := [.lit (.bool true)], args := [d1, d2, d3] }
  | _ => none }
def coreReturnsRow : OpenClaim := { program := "ytmnhmplcpijanaagreat", sum := "e24ed8ad7146c33944bada0eac629a42aa87b5f80d515514c6fda81698aec995", func := "kotatsu/kotatsulaw10.CoreReturns", spec := "coreReturns", inPlace := ["internal/bytealg.IndexByteString"], unfollowed := true, recurses := true, apart := false }
def CoreReturnsSaid : Prop := coreReturnsRow.holds Tryz.pinned (OpenSpec.ofChange coreReturnsSpec)

/-- ITS FALSE NEIGHBOUR: 'it returns false'. Refute it at one input. -/
def coreReturnsWrong : ChangeSpec := { name := "coreReturns", fn := fun _ => fun
  | [d1, d2, d3] => { results := [.lit (.bool false)], args := [d1, d2, d3] }
  | _ => none }
def CoreReturnsWrongFalsely : Prop := coreReturnsRow.holds Tryz.pinned (OpenSpec.ofChange coreReturnsWrong)

/-- 'kotatsulaw10.CoreCalls': WHATEVER THE INPUT: true; the input reads as it did. -/
def coreCallsSpec : ChangeSpec := { name := "coreCalls", fn := fun _ => fun
  | [d1, d2, d3] => { results := [.lit (.bool true)], args := [d1, d2, d3] }
  | _ => none }
def coreCallsRow : OpenClaim := { program := "ytmnhmplcpijanaagreat", sum := "e24ed8ad7146c33944bada0eac629a42aa87b5f80d515514c6fda81698aec995", func := "kotatsu/kotatsulaw10.CoreCalls", spec := "coreCalls", inPlace := ["internal/bytealg.IndexByteString"], unfollowed := true, recurses := true, apart := false }
def CoreCallsSaid : Prop := coreCallsRow.holds Tryz.pinned (OpenSpec.ofChange coreCallsSpec)

/-- ITS FALSE NEIGHBOUR: 'it returns false'. Refute it at one input. -/
def coreCallsWrong : ChangeSpec := { name := "coreCalls", fn := fun _ => fun
  | [d1, d2, d3] => { results := [.lit (.bool false)], args := [d1, d2, d3] }
  | _ => none }
def CoreCallsWrongFalsely : Prop := coreCallsRow.holds Tryz.pinned (OpenSpec.ofChange coreCallsWrong)

/-- 'kotatsulaw10.CorePlays': WHATEVER THE INPUT: true; the input reads as it did. -/
def corePlaysSpec : ChangeSpec := { name := "corePlays", fn := fun _ => fun
  | [d1, d2, d3, d4] => { results := [.lit (.bool true)], args := [d1, d2, d3, d4] }
  | _ => none }
def corePlaysRow : OpenClaim := { program := "ytmnhmplcpijanaagreat", sum := "e24ed8ad7146c33944bada0eac629a42aa87b5f80d515514c6fda81698aec995", func := "kotatsu/kotatsulaw10.CorePlays", spec := "corePlays", inPlace := ["internal/bytealg.IndexByteString"], unfollowed := true, recurses := true, apart := false }
def CorePlaysSaid : Prop := corePlaysRow.holds Tryz.pinned (OpenSpec.ofChange corePlaysSpec)

/-- ITS FALSE NEIGHBOUR: 'it returns false'. Refute it at one input. -/
def corePlaysWrong : ChangeSpec := { name := "corePlays", fn := fun _ => fun
  | [d1, d2, d3, d4] => { results := [.lit (.bool false)], args := [d1, d2, d3, d4] }
  | _ => none }
def CorePlaysWrongFalsely : Prop := corePlaysRow.holds Tryz.pinned (OpenSpec.ofChange corePlaysWrong)

/-- 'kotatsulaw10.CoreJams': WHATEVER THE INPUT: true; the input reads as it did. -/
def coreJamsSpec : ChangeSpec := { name := "coreJams", fn := fun _ => fun
  | [d1, d2, d3] => { results := [.lit (.bool true)], args := [d1, d2, d3] }
  | _ => none }
def coreJamsRow : OpenClaim := { program := "ytmnhmplcpijanaagreat", sum := "e24ed8ad7146c33944bada0eac629a42aa87b5f80d515514c6fda81698aec995", func := "kotatsu/kotatsulaw10.CoreJams", spec := "coreJams", inPlace := ["internal/bytealg.IndexByteString"], unfollowed := true, recurses := true, apart := false }
def CoreJamsSaid : Prop := coreJamsRow.holds Tryz.pinned (OpenSpec.ofChange coreJamsSpec)

/-- ITS FALSE NEIGHBOUR: 'it returns false'. Refute it at one input. -/
def coreJamsWrong : ChangeSpec := { name := "coreJams", fn := fun _ => fun
  | [d1, d2, d3] => { results := [.lit (.bool false)], args := [d1, d2, d3] }
  | _ => none }
def CoreJamsWrongFalsely : Prop := coreJamsRow.holds Tryz.pinned (OpenSpec.ofChange coreJamsWrong)

/-- 'kotatsulaw10.CoreTwins': WHATEVER THE INPUT: true; the input reads as it did. -/
def coreTwinsSpec : ChangeSpec := { name := "coreTwins", fn := fun _ => fun
  | [d1, d2, d3, d4] => { results := [.lit (.bool true)], args := [d1, d2, d3, d4] }
  | _ => none }
def coreTwinsRow : OpenClaim := { program := "ytmnhmplcpijanaagreat", sum := "e24ed8ad7146c33944bada0eac629a42aa87b5f80d515514c6fda81698aec995", func := "kotatsu/kotatsulaw10.CoreTwins", spec := "coreTwins", inPlace := ["internal/bytealg.IndexByteString"], unfollowed := true, recurses := true, apart := false }
def CoreTwinsSaid : Prop := coreTwinsRow.holds Tryz.pinned (OpenSpec.ofChange coreTwinsSpec)

/-- ITS FALSE NEIGHBOUR: 'it returns false'. Refute it at one input. -/
def coreTwinsWrong : ChangeSpec := { name := "coreTwins", fn := fun _ => fun
  | [d1, d2, d3, d4] => { results := [.lit (.bool false)], args := [d1, d2, d3, d4] }
  | _ => none }
def CoreTwinsWrongFalsely : Prop := coreTwinsRow.holds Tryz.pinned (OpenSpec.ofChange coreTwinsWrong)

/-- 'kotatsulaw10.CoreNil': WHATEVER THE INPUT: true; the input reads as it did. -/
def coreNilSpec : ChangeSpec := { name := "coreNil", fn := fun _ => fun
  | [d1, d2, d3] => { results := [.lit (.bool true)], args := [d1, d2, d3] }
  | _ => none }
def coreNilRow : OpenClaim := { program := "ytmnhmplcpijanaagreat", sum := "e24ed8ad7146c33944bada0eac629a42aa87b5f80d515514c6fda81698aec995", func := "kotatsu/kotatsulaw10.CoreNil", spec := "coreNil", inPlace := ["internal/bytealg.IndexByteString"], unfollowed := true, recurses := true, apart := false }
def CoreNilSaid : Prop := coreNilRow.holds Tryz.pinned (OpenSpec.ofChange coreNilSpec)

/-- ITS FALSE NEIGHBOUR: 'it returns false'. Refute it at one input. -/
def coreNilWrong : ChangeSpec := { name := "coreNil", fn := fun _ => fun
  | [d1, d2, d3] => { results := [.lit (.bool false)], args := [d1, d2, d3] }
  | _ => none }
def CoreNilWrongFalsely : Prop := coreNilRow.holds Tryz.pinned (OpenSpec.ofChange coreNilWrong)

/-- 'kotatsulaw10.CoreCounts': WHATEVER THE INPUT: true; the input reads as it did. -/
def coreCountsSpec : ChangeSpec := { name := "coreCounts", fn := fun _ => fun
  | [d1, d2, d3, d4, d5] => { results := [.lit (.bool true)], args := [d1, d2, d3, d4, d5] }
  | _ => none }
def coreCountsRow : OpenClaim := { program := "ytmnhmplcpijanaagreat", sum := "e24ed8ad7146c33944bada0eac629a42aa87b5f80d515514c6fda81698aec995", func := "kotatsu/kotatsulaw10.CoreCounts", spec := "coreCounts", inPlace := ["internal/bytealg.IndexByteString"], unfollowed := true, recurses := true, apart := false }
def CoreCountsSaid : Prop := coreCountsRow.holds Tryz.pinned (OpenSpec.ofChange coreCountsSpec)

/-- ITS FALSE NEIGHBOUR: 'it returns false'. Refute it at one input. -/
def coreCountsWrong : ChangeSpec := { name := "coreCounts", fn := fun _ => fun
  | [d1, d2, d3, d4, d5] => { results := [.lit (.bool false)], args := [d1, d2, d3, d4, d5] }
  | _ => none }
def CoreCountsWrongFalsely : Prop := coreCountsRow.holds Tryz.pinned (OpenSpec.ofChange coreCountsWrong)

/- THE SECOND FORM. 'bulk': how many values and letters a reading holds, each counted each time it is reached (what is shared counts as often as it is met; a slice's spare places count too). A statement '..UptoSaid' is the law's where the arguments, and the package variables that the reading takes, are together of bulk at most 1048576: NARROWER than '..Said'. Prove '..Said' where nothing that the law and all that it calls make is longer than what came in: it says more and counts as full. Else prove '..UptoSaid'. A law counts once. -/
mutual
def uptoBulk {H : Type} : DataW H → Nat
  | .lit (.string bytes) => bytes.length + 1
  | .lit _ => 1
  | .nil => 1
  | .ptr d => uptoBulk d + 1
  | .slice elems spare => uptoBulkAll elems + uptoBulkAll spare + 1
  | .agg parts => uptoBulkAll parts + 1
  | .iface _ d => uptoBulk d + 1
  | .map entries => uptoBulkEntries entries + 1
  | .held _ => 1
def uptoBulkAll {H : Type} : List (DataW H) → Nat
  | [] => 0
  | d :: r => uptoBulk d + uptoBulkAll r
def uptoBulkEntries {H : Type} : List (Lit × DataW H) → Nat
  | [] => 0
  | x :: r => uptoBulkEntry x + uptoBulkEntries r
def uptoBulkEntry {H : Type} : Lit × DataW H → Nat
  | (.string bytes, d) => bytes.length + uptoBulk d + 1
  | (_, d) => uptoBulk d + 1
 end
def uptoSmall : (H : Type) → List (DataW H) → Bool := fun _ ds => decide (uptoBulkAll ds ≤ 1048576)
def OpenSpec.upto (s : _root_.Go.ChangeSpec) : _root_.Go.OpenSpec := { _root_.Go.OpenSpec.ofChange s with cond := some uptoSmall }

/-- 'kotatsulaw10.CoreWrites', WHERE WHAT IT READS IS OF BULK AT MOST 1048576: true; the input reads as it did. -/
def coreWritesUptoRow : OpenClaim := { program := "ytmnhmplcpijanaagreat", sum := "e24ed8ad7146c33944bada0eac629a42aa87b5f80d515514c6fda81698aec995", func := "kotatsu/kotatsulaw10.CoreWrites", spec := "coreWrites", inPlace := ["internal/bytealg.IndexByteString"], unfollowed := true, recurses := true, apart := false, narrowed := true }
def CoreWritesUptoSaid : Prop := coreWritesUptoRow.holds Tryz.pinned (OpenSpec.upto coreWritesSpec)

/-- 'kotatsulaw10.CoreReturns', WHERE WHAT IT READS IS OF BULK AT MOST 1048576: true; the input reads as it did. -/
def coreReturnsUptoRow : OpenClaim := { program := "ytmnhmplcpijanaagreat", sum := "e24ed8ad7146c33944bada0eac629a42aa87b5f80d515514c6fda81698aec995", func := "kotatsu/kotatsulaw10.CoreReturns", spec := "coreReturns", inPlace := ["internal/bytealg.IndexByteString"], unfollowed := true, recurses := true, apart := false, narrowed := true }
def CoreReturnsUptoSaid : Prop := coreReturnsUptoRow.holds Tryz.pinned (OpenSpec.upto coreReturnsSpec)

/-- 'kotatsulaw10.CoreCalls', WHERE WHAT IT READS IS OF BULK AT MOST 1048576: true; the input reads as it did. -/
def coreCallsUptoRow : OpenClaim := { program := "ytmnhmplcpijanaagreat", sum := "e24ed8ad7146c33944bada0eac629a42aa87b5f80d515514c6fda81698aec995", func := "kotatsu/kotatsulaw10.CoreCalls", spec := "coreCalls", inPlace := ["internal/bytealg.IndexByteString"], unfollowed := true, recurses := true, apart := false, narrowed := true }
def CoreCallsUptoSaid : Prop := coreCallsUptoRow.holds Tryz.pinned (OpenSpec.upto coreCallsSpec)

/-- 'kotatsulaw10.CorePlays', WHERE WHAT IT READS IS OF BULK AT MOST 1048576: true; the input reads as it did. -/
def corePlaysUptoRow : OpenClaim := { program := "ytmnhmplcpijanaagreat", sum := "e24ed8ad7146c33944bada0eac629a42aa87b5f80d515514c6fda81698aec995", func := "kotatsu/kotatsulaw10.CorePlays", spec := "corePlays", inPlace := ["internal/bytealg.IndexByteString"], unfollowed := true, recurses := true, apart := false, narrowed := true }
def CorePlaysUptoSaid : Prop := corePlaysUptoRow.holds Tryz.pinned (OpenSpec.upto corePlaysSpec)

/-- 'kotatsulaw10.CoreJams', WHERE WHAT IT READS IS OF BULK AT MOST 1048576: true; the input reads as it did. -/
def coreJamsUptoRow : OpenClaim := { program := "ytmnhmplcpijanaagreat", sum := "e24ed8ad7146c33944bada0eac629a42aa87b5f80d515514c6fda81698aec995", func := "kotatsu/kotatsulaw10.CoreJams", spec := "coreJams", inPlace := ["internal/bytealg.IndexByteString"], unfollowed := true, recurses := true, apart := false, narrowed := true }
def CoreJamsUptoSaid : Prop := coreJamsUptoRow.holds Tryz.pinned (OpenSpec.upto coreJamsSpec)

/-- 'kotatsulaw10.CoreTwins', WHERE WHAT IT READS IS OF BULK AT MOST 1048576: true; the input reads as it did. -/
def coreTwinsUptoRow : OpenClaim := { program := "ytmnhmplcpijanaagreat", sum := "e24ed8ad7146c33944bada0eac629a42aa87b5f80d515514c6fda81698aec995", func := "kotatsu/kotatsulaw10.CoreTwins", spec := "coreTwins", inPlace := ["internal/bytealg.IndexByteString"], unfollowed := true, recurses := true, apart := false, narrowed := true }
def CoreTwinsUptoSaid : Prop := coreTwinsUptoRow.holds Tryz.pinned (OpenSpec.upto coreTwinsSpec)

/-- 'kotatsulaw10.CoreNil', WHERE WHAT IT READS IS OF BULK AT MOST 1048576: true; the input reads as it did. -/
def coreNilUptoRow : OpenClaim := { program := "ytmnhmplcpijanaagreat", sum := "e24ed8ad7146c33944bada0eac629a42aa87b5f80d515514c6fda81698aec995", func := "kotatsu/kotatsulaw10.CoreNil", spec := "coreNil", inPlace := ["internal/bytealg.IndexByteString"], unfollowed := true, recurses := true, apart := false, narrowed := true }
def CoreNilUptoSaid : Prop := coreNilUptoRow.holds Tryz.pinned (OpenSpec.upto coreNilSpec)

/-- 'kotatsulaw10.CoreCounts', WHERE WHAT IT READS IS OF BULK AT MOST 1048576: true; the input reads as it did. -/
def coreCountsUptoRow : OpenClaim := { program := "ytmnhmplcpijanaagreat", sum := "e24ed8ad7146c33944bada0eac629a42aa87b5f80d515514c6fda81698aec995", func := "kotatsu/kotatsulaw10.CoreCounts", spec := "coreCounts", inPlace := ["internal/bytealg.IndexByteString"], unfollowed := true, recurses := true, apart := false, narrowed := true }
def CoreCountsUptoSaid : Prop := coreCountsUptoRow.holds Tryz.pinned (OpenSpec.upto coreCountsSpec)

end Rows
end Go.Proofs.YtmnhmplcpijanaaGreat
