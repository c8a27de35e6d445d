/-
  DERIVED. GIVEN WITH THE SEED: THE CARDS: each row of YtgpcfjokmonlgaaDoorRows.lean that lists a variable, with what it lists TIED to the program's text (the seventh form; the later family's looks); each row that meets fmt, with fmt's text TOLD by the authors' own Lean function (tested against real Go, not proved from fmt's source: count such statements apart). THE CARD IS WHAT COUNTS. Prove the row's statement (the work); the ties are given (YtgpcfjokmonlgaaDoorTie.lean); close each card by the builder's one call (the guide's Derived/Test/ToyasCard.lean, 'card_holds'). Laid BY PROGRAM, IN A SANDBOX (cutbox-door.mjs). By AI agents, Wed Nov 11 2026. No macro, syntax, notation, axiom, sorry.
-/
import Derived.Test.YtgpcfjokmonlgaaDoorRows
import GoSem.ClaimSeven
namespace Go.Proofs.YtgpcfjokmonlgaaDoor
namespace Rows

/-- THE TIED CARD OF 'kotatsulaw12.SoundLengths'. -/
def soundLengthsCard : Claim7 := { stood := { row := soundLengthsRow, standIns := [], harness := (true, "6425a75d56df621b524cecd79c21485cd17a7737b32f62c37d2d7f01267c84c9"), looks := false }, kinds := [], alts := [], laidByText := true, laidKinds := [.data, .data, .data], laidTests := true, laidLooks := .later }
def SoundLengthsCardSaid : Prop := Claim7.holds Tryd.pinned (.plain (OpenSpec.ofChange soundLengthsSpec)) soundLengthsCard

/-- THE TIED CARD OF 'kotatsulaw12.SoundAsks'. -/
def soundAsksCard : Claim7 := { stood := { row := soundAsksRow, standIns := [], harness := (true, "6425a75d56df621b524cecd79c21485cd17a7737b32f62c37d2d7f01267c84c9"), looks := false }, kinds := [], alts := [], laidByText := true, laidKinds := [.data, .data, .data, .data, .data], laidTests := true, laidLooks := .later }
def SoundAsksCardSaid : Prop := Claim7.holds Tryd.pinned (.plain (OpenSpec.ofChange soundAsksSpec)) soundAsksCard

/-- THE TIED CARD OF 'kotatsulaw12.SoundRanges'. -/
def soundRangesCard : Claim7 := { stood := { row := soundRangesRow, standIns := [], harness := (true, "6425a75d56df621b524cecd79c21485cd17a7737b32f62c37d2d7f01267c84c9"), looks := false }, kinds := [], alts := [], laidByText := true, laidKinds := [.data, .data, .data, .data, .data], laidTests := true, laidLooks := .later }
def SoundRangesCardSaid : Prop := Claim7.holds Tryd.pinned (.plain (OpenSpec.ofChange soundRangesSpec)) soundRangesCard

/-- THE TIED CARD OF 'kotatsulaw12.SoundPlays'. -/
def soundPlaysCard : Claim7 := { stood := { row := soundPlaysRow, standIns := [], harness := (true, "6425a75d56df621b524cecd79c21485cd17a7737b32f62c37d2d7f01267c84c9"), looks := false }, kinds := [], alts := [], laidByText := true, laidKinds := [.data, .data, .data, .data, .data], laidTests := true, laidLooks := .later }
def SoundPlaysCardSaid : Prop := Claim7.holds Tryd.pinned (.plain (OpenSpec.ofChange soundPlaysSpec)) soundPlaysCard

/-- THE TIED CARD OF 'kotatsulaw12.SoundFrames'. -/
def soundFramesCard : Claim7 := { stood := { row := soundFramesRow, standIns := [], harness := (true, "6425a75d56df621b524cecd79c21485cd17a7737b32f62c37d2d7f01267c84c9"), looks := false }, kinds := [], alts := [], laidByText := true, laidKinds := [.data, .data, .data, .data, .data], laidTests := true, laidLooks := .later }
def SoundFramesCardSaid : Prop := Claim7.holds Tryd.pinned (.plain (OpenSpec.ofChange soundFramesSpec)) soundFramesCard

/-- THE TIED CARD OF 'kotatsulaw12.SoundSamples'. -/
def soundSamplesCard : Claim7 := { stood := { row := soundSamplesRow, standIns := [], harness := (true, "6425a75d56df621b524cecd79c21485cd17a7737b32f62c37d2d7f01267c84c9"), looks := false }, kinds := [], alts := [], laidByText := true, laidKinds := [.data, .data, .data, .data, .data], laidTests := true, laidLooks := .later }
def SoundSamplesCardSaid : Prop := Claim7.holds Tryd.pinned (.plain (OpenSpec.ofChange soundSamplesSpec)) soundSamplesCard

/-- THE TIED CARD OF 'kotatsulaw12.SoundNil'. -/
def soundNilCard : Claim7 := { stood := { row := soundNilRow, standIns := [], harness := (true, "6425a75d56df621b524cecd79c21485cd17a7737b32f62c37d2d7f01267c84c9"), looks := false }, kinds := [], alts := [], laidByText := true, laidKinds := [.data, .data, .data, .data, .data], laidTests := true, laidLooks := .later }
def SoundNilCardSaid : Prop := Claim7.holds Tryd.pinned (.plain (OpenSpec.ofChange soundNilSpec)) soundNilCard

/-- THE SECOND FORM's CARD OF 'kotatsulaw12.SoundLengths'. -/
def soundLengthsUptoCard : Claim7 := { stood := { row := soundLengthsUptoRow, standIns := [], harness := (true, "6425a75d56df621b524cecd79c21485cd17a7737b32f62c37d2d7f01267c84c9"), looks := false }, kinds := [], alts := [], laidByText := true, laidKinds := [.data, .data, .data], laidTests := true, laidLooks := .later }
def SoundLengthsUptoCardSaid : Prop := Claim7.holds Tryd.pinned (.plain (OpenSpec.upto soundLengthsSpec)) soundLengthsUptoCard

/-- THE SECOND FORM's CARD OF 'kotatsulaw12.SoundAsks'. -/
def soundAsksUptoCard : Claim7 := { stood := { row := soundAsksUptoRow, standIns := [], harness := (true, "6425a75d56df621b524cecd79c21485cd17a7737b32f62c37d2d7f01267c84c9"), looks := false }, kinds := [], alts := [], laidByText := true, laidKinds := [.data, .data, .data, .data, .data], laidTests := true, laidLooks := .later }
def SoundAsksUptoCardSaid : Prop := Claim7.holds Tryd.pinned (.plain (OpenSpec.upto soundAsksSpec)) soundAsksUptoCard

/-- THE SECOND FORM's CARD OF 'kotatsulaw12.SoundRanges'. -/
def soundRangesUptoCard : Claim7 := { stood := { row := soundRangesUptoRow, standIns := [], harness := (true, "6425a75d56df621b524cecd79c21485cd17a7737b32f62c37d2d7f01267c84c9"), looks := false }, kinds := [], alts := [], laidByText := true, laidKinds := [.data, .data, .data, .data, .data], laidTests := true, laidLooks := .later }
def SoundRangesUptoCardSaid : Prop := Claim7.holds Tryd.pinned (.plain (OpenSpec.upto soundRangesSpec)) soundRangesUptoCard

/-- THE SECOND FORM's CARD OF 'kotatsulaw12.SoundPlays'. -/
def soundPlaysUptoCard : Claim7 := { stood := { row := soundPlaysUptoRow, standIns := [], harness := (true, "6425a75d56df621b524cecd79c21485cd17a7737b32f62c37d2d7f01267c84c9"), looks := false }, kinds := [], alts := [], laidByText := true, laidKinds := [.data, .data, .data, .data, .data], laidTests := true, laidLooks := .later }
def SoundPlaysUptoCardSaid : Prop := Claim7.holds Tryd.pinned (.plain (OpenSpec.upto soundPlaysSpec)) soundPlaysUptoCard

/-- THE SECOND FORM's CARD OF 'kotatsulaw12.SoundFrames'. -/
def soundFramesUptoCard : Claim7 := { stood := { row := soundFramesUptoRow, standIns := [], harness := (true, "6425a75d56df621b524cecd79c21485cd17a7737b32f62c37d2d7f01267c84c9"), looks := false }, kinds := [], alts := [], laidByText := true, laidKinds := [.data, .data, .data, .data, .data], laidTests := true, laidLooks := .later }
def SoundFramesUptoCardSaid : Prop := Claim7.holds Tryd.pinned (.plain (OpenSpec.upto soundFramesSpec)) soundFramesUptoCard

/-- THE SECOND FORM's CARD OF 'kotatsulaw12.SoundSamples'. -/
def soundSamplesUptoCard : Claim7 := { stood := { row := soundSamplesUptoRow, standIns := [], harness := (true, "6425a75d56df621b524cecd79c21485cd17a7737b32f62c37d2d7f01267c84c9"), looks := false }, kinds := [], alts := [], laidByText := true, laidKinds := [.data, .data, .data, .data, .data], laidTests := true, laidLooks := .later }
def SoundSamplesUptoCardSaid : Prop := Claim7.holds Tryd.pinned (.plain (OpenSpec.upto soundSamplesSpec)) soundSamplesUptoCard

/-- THE SECOND FORM's CARD OF 'kotatsulaw12.SoundNil'. -/
def soundNilUptoCard : Claim7 := { stood := { row := soundNilUptoRow, standIns := [], harness := (true, "6425a75d56df621b524cecd79c21485cd17a7737b32f62c37d2d7f01267c84c9"), looks := false }, kinds := [], alts := [], laidByText := true, laidKinds := [.data, .data, .data, .data, .data], laidTests := true, laidLooks := .later }
def SoundNilUptoCardSaid : Prop := Claim7.holds Tryd.pinned (.plain (OpenSpec.upto soundNilSpec)) soundNilUptoCard
end Rows
end Go.Proofs.YtgpcfjokmonlgaaDoor
