/-
  DERIVED. GIVEN WITH THE SEED: THE CARDS: each row of YtngeghiaakkdbaaDoorRows.lean that lists a variable, with what it lists TIED to the program's text (the seventh form; the later family's looks); each row that meets fmt, with fmt's text TOLD by the authors' own Lean function (tested against real Go, not proved from fmt's source: count such statements apart). THE CARD IS WHAT COUNTS. Prove the row's statement (the work); the ties are given (YtngeghiaakkdbaaDoorTie.lean); close each card by the builder's one call (the guide's Derived/Test/ToyasCard.lean, 'card_holds'). Laid BY PROGRAM, IN A SANDBOX (cutbox-door.mjs). By AI agents, Wed Nov 11 2026. No macro, syntax, notation, axiom, sorry.
-/
import Derived.Test.YtngeghiaakkdbaaDoorRows
import GoSem.ClaimSeven
namespace Go.Proofs.YtngeghiaakkdbaaDoor
namespace Rows

/-- THE TIED CARD OF 'kotatsulaw11.ToneNoises'. -/
def toneNoisesCard : Claim7 := { stood := { row := toneNoisesRow, standIns := [], harness := (true, "202f3dde16713eec257652359afaac7a3a5e42d272cccf3026877a19a2953113"), looks := false }, kinds := [], alts := [], laidByText := true, laidKinds := [.data, .data, .data], laidTests := true, laidLooks := .later }
def ToneNoisesCardSaid : Prop := Claim7.holds Tryd.pinned (.plain (OpenSpec.ofChange toneNoisesSpec)) toneNoisesCard

/-- THE TIED CARD OF 'kotatsulaw11.ToneMutes'. -/
def toneMutesCard : Claim7 := { stood := { row := toneMutesRow, standIns := [], harness := (true, "202f3dde16713eec257652359afaac7a3a5e42d272cccf3026877a19a2953113"), looks := false }, kinds := [], alts := [], laidByText := true, laidKinds := [.data, .data, .data], laidTests := true, laidLooks := .later }
def ToneMutesCardSaid : Prop := Claim7.holds Tryd.pinned (.plain (OpenSpec.ofChange toneMutesSpec)) toneMutesCard

/-- THE TIED CARD OF 'kotatsulaw11.ToneSweeps'. -/
def toneSweepsCard : Claim7 := { stood := { row := toneSweepsRow, standIns := [], harness := (true, "202f3dde16713eec257652359afaac7a3a5e42d272cccf3026877a19a2953113"), looks := false }, kinds := [], alts := [], laidByText := true, laidKinds := [.data, .data, .data], laidTests := true, laidLooks := .later }
def ToneSweepsCardSaid : Prop := Claim7.holds Tryd.pinned (.plain (OpenSpec.ofChange toneSweepsSpec)) toneSweepsCard

/-- THE TIED CARD OF 'kotatsulaw11.ToneLines'. -/
def toneLinesCard : Claim7 := { stood := { row := toneLinesRow, standIns := [], harness := (true, "202f3dde16713eec257652359afaac7a3a5e42d272cccf3026877a19a2953113"), looks := false }, kinds := [], alts := [], laidByText := true, laidKinds := [.data, .data, .data], laidTests := true, laidLooks := .later }
def ToneLinesCardSaid : Prop := Claim7.holds Tryd.pinned (.plain (OpenSpec.ofChange toneLinesSpec)) toneLinesCard

/-- THE TIED CARD OF 'kotatsulaw11.ToneWaves'. -/
def toneWavesCard : Claim7 := { stood := { row := toneWavesRow, standIns := [], harness := (true, "202f3dde16713eec257652359afaac7a3a5e42d272cccf3026877a19a2953113"), looks := false }, kinds := [], alts := [], laidByText := true, laidKinds := [.data, .data, .data], laidTests := true, laidLooks := .later }
def ToneWavesCardSaid : Prop := Claim7.holds Tryd.pinned (.plain (OpenSpec.ofChange toneWavesSpec)) toneWavesCard

/-- THE TIED CARD OF 'kotatsulaw11.TonePlays'. -/
def tonePlaysCard : Claim7 := { stood := { row := tonePlaysRow, standIns := [], harness := (true, "202f3dde16713eec257652359afaac7a3a5e42d272cccf3026877a19a2953113"), looks := false }, kinds := [], alts := [], laidByText := true, laidKinds := [.data, .data, .data], laidTests := true, laidLooks := .later }
def TonePlaysCardSaid : Prop := Claim7.holds Tryd.pinned (.plain (OpenSpec.ofChange tonePlaysSpec)) tonePlaysCard

/-- THE TIED CARD OF 'kotatsulaw11.ToneEnds'. -/
def toneEndsCard : Claim7 := { stood := { row := toneEndsRow, standIns := [], harness := (true, "202f3dde16713eec257652359afaac7a3a5e42d272cccf3026877a19a2953113"), looks := false }, kinds := [], alts := [], laidByText := true, laidKinds := [.data, .data, .data], laidTests := true, laidLooks := .later }
def ToneEndsCardSaid : Prop := Claim7.holds Tryd.pinned (.plain (OpenSpec.ofChange toneEndsSpec)) toneEndsCard

/-- THE TIED CARD OF 'kotatsulaw11.ToneNil'. -/
def toneNilCard : Claim7 := { stood := { row := toneNilRow, standIns := [], harness := (true, "202f3dde16713eec257652359afaac7a3a5e42d272cccf3026877a19a2953113"), looks := false }, kinds := [], alts := [], laidByText := true, laidKinds := [.data, .data, .data], laidTests := true, laidLooks := .later }
def ToneNilCardSaid : Prop := Claim7.holds Tryd.pinned (.plain (OpenSpec.ofChange toneNilSpec)) toneNilCard

/-- THE SECOND FORM's CARD OF 'kotatsulaw11.ToneNoises'. -/
def toneNoisesUptoCard : Claim7 := { stood := { row := toneNoisesUptoRow, standIns := [], harness := (true, "202f3dde16713eec257652359afaac7a3a5e42d272cccf3026877a19a2953113"), looks := false }, kinds := [], alts := [], laidByText := true, laidKinds := [.data, .data, .data], laidTests := true, laidLooks := .later }
def ToneNoisesUptoCardSaid : Prop := Claim7.holds Tryd.pinned (.plain (OpenSpec.upto toneNoisesSpec)) toneNoisesUptoCard

/-- THE SECOND FORM's CARD OF 'kotatsulaw11.ToneMutes'. -/
def toneMutesUptoCard : Claim7 := { stood := { row := toneMutesUptoRow, standIns := [], harness := (true, "202f3dde16713eec257652359afaac7a3a5e42d272cccf3026877a19a2953113"), looks := false }, kinds := [], alts := [], laidByText := true, laidKinds := [.data, .data, .data], laidTests := true, laidLooks := .later }
def ToneMutesUptoCardSaid : Prop := Claim7.holds Tryd.pinned (.plain (OpenSpec.upto toneMutesSpec)) toneMutesUptoCard

/-- THE SECOND FORM's CARD OF 'kotatsulaw11.ToneSweeps'. -/
def toneSweepsUptoCard : Claim7 := { stood := { row := toneSweepsUptoRow, standIns := [], harness := (true, "202f3dde16713eec257652359afaac7a3a5e42d272cccf3026877a19a2953113"), looks := false }, kinds := [], alts := [], laidByText := true, laidKinds := [.data, .data, .data], laidTests := true, laidLooks := .later }
def ToneSweepsUptoCardSaid : Prop := Claim7.holds Tryd.pinned (.plain (OpenSpec.upto toneSweepsSpec)) toneSweepsUptoCard

/-- THE SECOND FORM's CARD OF 'kotatsulaw11.ToneLines'. -/
def toneLinesUptoCard : Claim7 := { stood := { row := toneLinesUptoRow, standIns := [], harness := (true, "202f3dde16713eec257652359afaac7a3a5e42d272cccf3026877a19a2953113"), looks := false }, kinds := [], alts := [], laidByText := true, laidKinds := [.data, .data, .data], laidTests := true, laidLooks := .later }
def ToneLinesUptoCardSaid : Prop := Claim7.holds Tryd.pinned (.plain (OpenSpec.upto toneLinesSpec)) toneLinesUptoCard

/-- THE SECOND FORM's CARD OF 'kotatsulaw11.ToneWaves'. -/
def toneWavesUptoCard : Claim7 := { stood := { row := toneWavesUptoRow, standIns := [], harness := (true, "202f3dde16713eec257652359afaac7a3a5e42d272cccf3026877a19a2953113"), looks := false }, kinds := [], alts := [], laidByText := true, laidKinds := [.data, .data, .data], laidTests := true, laidLooks := .later }
def ToneWavesUptoCardSaid : Prop := Claim7.holds Tryd.pinned (.plain (OpenSpec.upto toneWavesSpec)) toneWavesUptoCard

/-- THE SECOND FORM's CARD OF 'kotatsulaw11.TonePlays'. -/
def tonePlaysUptoCard : Claim7 := { stood := { row := tonePlaysUptoRow, standIns := [], harness := (true, "202f3dde16713eec257652359afaac7a3a5e42d272cccf3026877a19a2953113"), looks := false }, kinds := [], alts := [], laidByText := true, laidKinds := [.data, .data, .data], laidTests := true, laidLooks := .later }
def TonePlaysUptoCardSaid : Prop := Claim7.holds Tryd.pinned (.plain (OpenSpec.upto tonePlaysSpec)) tonePlaysUptoCard

/-- THE SECOND FORM's CARD OF 'kotatsulaw11.ToneEnds'. -/
def toneEndsUptoCard : Claim7 := { stood := { row := toneEndsUptoRow, standIns := [], harness := (true, "202f3dde16713eec257652359afaac7a3a5e42d272cccf3026877a19a2953113"), looks := false }, kinds := [], alts := [], laidByText := true, laidKinds := [.data, .data, .data], laidTests := true, laidLooks := .later }
def ToneEndsUptoCardSaid : Prop := Claim7.holds Tryd.pinned (.plain (OpenSpec.upto toneEndsSpec)) toneEndsUptoCard

/-- THE SECOND FORM's CARD OF 'kotatsulaw11.ToneNil'. -/
def toneNilUptoCard : Claim7 := { stood := { row := toneNilUptoRow, standIns := [], harness := (true, "202f3dde16713eec257652359afaac7a3a5e42d272cccf3026877a19a2953113"), looks := false }, kinds := [], alts := [], laidByText := true, laidKinds := [.data, .data, .data], laidTests := true, laidLooks := .later }
def ToneNilUptoCardSaid : Prop := Claim7.holds Tryd.pinned (.plain (OpenSpec.upto toneNilSpec)) toneNilUptoCard
end Rows
end Go.Proofs.YtngeghiaakkdbaaDoor
