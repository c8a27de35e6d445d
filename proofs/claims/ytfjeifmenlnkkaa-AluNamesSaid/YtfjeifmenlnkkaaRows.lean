/-
  No cell of these rows narrows 'for every input' (looked for: loops, veiled, ifaces, maps, wideKeys, modest, calm, conditions, laid).
  DERIVED. THE GIVEN ROWS OF THIS SEAT. 11 by the template 'for every input the law returns true; each argument reads behind the call as it read before'; 0 by the template 'total and deterministic' (their statements: YtfjeifmenlnkkaaTotals.lean).
  GIVEN WITH THE SEED: the statements are not yours to turn. If you find one false, say at which input.
  Laid BY PROGRAM, IN A SANDBOX (cutbox-rows.mjs): the forced cells as the released guide's own fill.sh prints them over the translation cb798556fb599490… (all of the seat's roots in one cut). By AI agents, Wed Nov 11 2026. No macro, syntax, notation, axiom, sorry.
-/
import Derived.Test.YtfjeifmenlnkkaaChecked
import GoSem.Claim
import GoSem.ClaimJoined
import GoSem.ClaimMapViews
import Derived.JoinedTies
import Derived.KernelRfl
namespace Go.Proofs.Ytfjeifmenlnkkaa
/- THE CELL 'sum', in the pinned program and in every row, IS THE sha256 OF THE DUMP (.gsa) THAT YtfjeifmenlnkkaaProg.lean LOADS. Nothing in Lean hashes anything: it is a label: what it is worth is what the hold of that sum in a sandbox is worth. -/
noncomputable def Try.pinned : Pinned := { name := "ytfjeifmenlnkkaa", sum := "cb798556fb5994907dcc1fe770345477d528af6dfee651a45144a88487e6c328", checked := Try.checked }
namespace Rows
def none {H : Type} : Left H := { results := [], args := [] }

/-- 'kotatsulaw08.AluReads': WHATEVER THE INPUT: true; the input reads as it did. -/
def aluReadsSpec : ChangeSpec := { name := "aluReads", fn := fun _ => fun
  | [d1, d2, d3] => { results := [.lit (.bool true)], args := [d1, d2, d3] }
  | _ => none }
def aluReadsRow : OpenClaim := { program := "ytfjeifmenlnkkaa", sum := "cb798556fb5994907dcc1fe770345477d528af6dfee651a45144a88487e6c328", func := "kotatsu/kotatsulaw08.AluReads", spec := "aluReads", unfollowed := true, recurses := true, apart := false }
def AluReadsSaid : Prop := aluReadsRow.holds Try.pinned (OpenSpec.ofChange aluReadsSpec)

/-- ITS FALSE NEIGHBOUR: 'it returns false'. Refute it at one input. -/
def aluReadsWrong : ChangeSpec := { name := "aluReads", fn := fun _ => fun
  | [d1, d2, d3] => { results := [.lit (.bool false)], args := [d1, d2, d3] }
  | _ => none }
def AluReadsWrongFalsely : Prop := aluReadsRow.holds Try.pinned (OpenSpec.ofChange aluReadsWrong)

/-- 'kotatsulaw08.AluAdds': WHATEVER THE INPUT: true; the input reads as it did. -/
def aluAddsSpec : ChangeSpec := { name := "aluAdds", fn := fun _ => fun
  | [d1, d2] => { results := [.lit (.bool true)], args := [d1, d2] }
  | _ => none }
def aluAddsRow : OpenClaim := { program := "ytfjeifmenlnkkaa", sum := "cb798556fb5994907dcc1fe770345477d528af6dfee651a45144a88487e6c328", func := "kotatsu/kotatsulaw08.AluAdds", spec := "aluAdds", unfollowed := true, recurses := true, apart := false }
def AluAddsSaid : Prop := aluAddsRow.holds Try.pinned (OpenSpec.ofChange aluAddsSpec)

/-- ITS FALSE NEIGHBOUR: 'it returns false'. Refute it at one input. -/
def aluAddsWrong : ChangeSpec := { name := "aluAdds", fn := fun _ => fun
  | [d1, d2] => { results := [.lit (.bool false)], args := [d1, d2] }
  | _ => none }
def AluAddsWrongFalsely : Prop := aluAddsRow.holds Try.pinned (OpenSpec.ofChange aluAddsWrong)

/-- 'kotatsulaw08.AluBorrows': WHATEVER THE INPUT: true; the input reads as it did. -/
def aluBorrowsSpec : ChangeSpec := { name := "aluBorrows", fn := fun _ => fun
  | [d1, d2] => { results := [.lit (.bool true)], args := [d1, d2] }
  | _ => none }
def aluBorrowsRow : OpenClaim := { program := "ytfjeifmenlnkkaa", sum := "cb798556fb5994907dcc1fe770345477d528af6dfee651a45144a88487e6c328", func := "kotatsu/kotatsulaw08.AluBorrows", spec := "aluBorrows", unfollowed := true, recurses := true, apart := false }
def AluBorrowsSaid : Prop := aluBorrowsRow.holds Try.pinned (OpenSpec.ofChange aluBorrowsSpec)

/-- ITS FALSE NEIGHBOUR: 'it returns false'. Refute it at one input. -/
def aluBorrowsWrong : ChangeSpec := { name := "aluBorrows", fn := fun _ => fun
  | [d1, d2] => { results := [.lit (.bool false)], args := [d1, d2] }
  | _ => none }
def AluBorrowsWrongFalsely : Prop := aluBorrowsRow.holds Try.pinned (OpenSpec.ofChange aluBorrowsWrong)

/-- 'kotatsulaw08.AluBits': WHATEVER THE INPUT: true; the input reads as it did. -/
def aluBitsSpec : ChangeSpec := { name := "aluBits", fn := fun _ => fun
  | [d1, d2, d3] => { results := [.lit (.bool true)], args := [d1, d2, d3] }
  | _ => none }
def aluBitsRow : OpenClaim := { program := "ytfjeifmenlnkkaa", sum := "cb798556fb5994907dcc1fe770345477d528af6dfee651a45144a88487e6c328", func := "kotatsu/kotatsulaw08.AluBits", spec := "aluBits", unfollowed := true, recurses := true, apart := false }
def AluBitsSaid : Prop := aluBitsRow.holds Try.pinned (OpenSpec.ofChange aluBitsSpec)

/-- ITS FALSE NEIGHBOUR: 'it returns false'. Refute it at one input. -/
def aluBitsWrong : ChangeSpec := { name := "aluBits", fn := fun _ => fun
  | [d1, d2, d3] => { results := [.lit (.bool false)], args := [d1, d2, d3] }
  | _ => none }
def AluBitsWrongFalsely : Prop := aluBitsRow.holds Try.pinned (OpenSpec.ofChange aluBitsWrong)

/-- 'kotatsulaw08.AluNames': WHATEVER THE INPUT: true; the input reads as it did. -/
def aluNamesSpec : ChangeSpec := { name := "aluNames", fn := fun _ => fun
  | [d1, d2] => { results := [.lit (.bool true)], args := [d1, d2] }
  | _ => none }
def aluNamesRow : OpenClaim := { program := "ytfjeifmenlnkkaa", sum := "cb798556fb5994907dcc1fe770345477d528af6dfee651a45144a88487e6c328", func := "kotatsu/kotatsulaw08.AluNames", spec := "aluNames", unfollowed := true, recurses := true, apart := false }
def AluNamesSaid : Prop := aluNamesRow.holds Try.pinned (OpenSpec.ofChange aluNamesSpec)

/-- ITS FALSE NEIGHBOUR: 'it returns false'. Refute it at one input. -/
def aluNamesWrong : ChangeSpec := { name := "aluNames", fn := fun _ => fun
  | [d1, d2] => { results := [.lit (.bool false)], args := [d1, d2] }
  | _ => none }
def AluNamesWrongFalsely : Prop := aluNamesRow.holds Try.pinned (OpenSpec.ofChange aluNamesWrong)

/-- 'kotatsulaw08.AluStores': WHATEVER THE INPUT: true; the input reads as it did. -/
def aluStoresSpec : ChangeSpec := { name := "aluStores", fn := fun _ => fun
  | [d1, d2] => { results := [.lit (.bool true)], args := [d1, d2] }
  | _ => none }
def aluStoresRow : OpenClaim := { program := "ytfjeifmenlnkkaa", sum := "cb798556fb5994907dcc1fe770345477d528af6dfee651a45144a88487e6c328", func := "kotatsu/kotatsulaw08.AluStores", spec := "aluStores", unfollowed := true, recurses := true, apart := false }
def AluStoresSaid : Prop := aluStoresRow.holds Try.pinned (OpenSpec.ofChange aluStoresSpec)

/-- ITS FALSE NEIGHBOUR: 'it returns false'. Refute it at one input. -/
def aluStoresWrong : ChangeSpec := { name := "aluStores", fn := fun _ => fun
  | [d1, d2] => { results := [.lit (.bool false)], args := [d1, d2] }
  | _ => none }
def AluStoresWrongFalsely : Prop := aluStoresRow.holds Try.pinned (OpenSpec.ofChange aluStoresWrong)

/-- 'kotatsulaw08.AluChanges': WHATEVER THE INPUT: true; the input reads as it did. -/
def aluChangesSpec : ChangeSpec := { name := "aluChanges", fn := fun _ => fun
  | [d1, d2, d3] => { results := [.lit (.bool true)], args := [d1, d2, d3] }
  | _ => none }
def aluChangesRow : OpenClaim := { program := "ytfjeifmenlnkkaa", sum := "cb798556fb5994907dcc1fe770345477d528af6dfee651a45144a88487e6c328", func := "kotatsu/kotatsulaw08.AluChanges", spec := "aluChanges", unfollowed := true, recurses := true, apart := false }
def AluChangesSaid : Prop := aluChangesRow.holds Try.pinned (OpenSpec.ofChange aluChangesSpec)

/-- ITS FALSE NEIGHBOUR: 'it returns false'. Refute it at one input. -/
def aluChangesWrong : ChangeSpec := { name := "aluChanges", fn := fun _ => fun
  | [d1, d2, d3] => { results := [.lit (.bool false)], args := [d1, d2, d3] }
  | _ => none }
def AluChangesWrongFalsely : Prop := aluChangesRow.holds Try.pinned (OpenSpec.ofChange aluChangesWrong)

/-- 'kotatsulaw08.AluTurns': WHATEVER THE INPUT: true; the input reads as it did. -/
def aluTurnsSpec : ChangeSpec := { name := "aluTurns", fn := fun _ => fun
  | [d1, d2] => { results := [.lit (.bool true)], args := [d1, d2] }
  | _ => none }
def aluTurnsRow : OpenClaim := { program := "ytfjeifmenlnkkaa", sum := "cb798556fb5994907dcc1fe770345477d528af6dfee651a45144a88487e6c328", func := "kotatsu/kotatsulaw08.AluTurns", spec := "aluTurns", unfollowed := true, recurses := true, apart := false }
def AluTurnsSaid : Prop := aluTurnsRow.holds Try.pinned (OpenSpec.ofChange aluTurnsSpec)

/-- ITS FALSE NEIGHBOUR: 'it returns false'. Refute it at one input. -/
def aluTurnsWrong : ChangeSpec := { name := "aluTurns", fn := fun _ => fun
  | [d1, d2] => { results := [.lit (.bool false)], args := [d1, d2] }
  | _ => none }
def AluTurnsWrongFalsely : Prop := aluTurnsRow.holds Try.pinned (OpenSpec.ofChange aluTurnsWrong)

/-- 'kotatsulaw08.AluPairs': WHATEVER THE INPUT: true; the input reads as it did. -/
def aluPairsSpec : ChangeSpec := { name := "aluPairs", fn := fun _ => fun
  | [d1, d2, d3] => { results := [.lit (.bool true)], args := [d1, d2, d3] }
  | _ => none }
def aluPairsRow : OpenClaim := { program := "ytfjeifmenlnkkaa", sum := "cb798556fb5994907dcc1fe770345477d528af6dfee651a45144a88487e6c328", func := "kotatsu/kotatsulaw08.AluPairs", spec := "aluPairs", unfollowed := true, recurses := true, apart := false }
def AluPairsSaid : Prop := aluPairsRow.holds Try.pinned (OpenSpec.ofChange aluPairsSpec)

/-- ITS FALSE NEIGHBOUR: 'it returns false'. Refute it at one input. -/
def aluPairsWrong : ChangeSpec := { name := "aluPairs", fn := fun _ => fun
  | [d1, d2, d3] => { results := [.lit (.bool false)], args := [d1, d2, d3] }
  | _ => none }
def AluPairsWrongFalsely : Prop := aluPairsRow.holds Try.pinned (OpenSpec.ofChange aluPairsWrong)

/-- 'kotatsulaw08.AluSelfs': WHATEVER THE INPUT: true; the input reads as it did. -/
def aluSelfsSpec : ChangeSpec := { name := "aluSelfs", fn := fun _ => fun
  | [d1, d2] => { results := [.lit (.bool true)], args := [d1, d2] }
  | _ => none }
def aluSelfsRow : OpenClaim := { program := "ytfjeifmenlnkkaa", sum := "cb798556fb5994907dcc1fe770345477d528af6dfee651a45144a88487e6c328", func := "kotatsu/kotatsulaw08.AluSelfs", spec := "aluSelfs", unfollowed := true, recurses := true, apart := false }
def AluSelfsSaid : Prop := aluSelfsRow.holds Try.pinned (OpenSpec.ofChange aluSelfsSpec)

/-- ITS FALSE NEIGHBOUR: 'it returns false'. Refute it at one input. -/
def aluSelfsWrong : ChangeSpec := { name := "aluSelfs", fn := fun _ => fun
  | [d1, d2] => { results := [.lit (.bool false)], args := [d1, d2] }
  | _ => none }
def AluSelfsWrongFalsely : Prop := aluSelfsRow.holds Try.pinned (OpenSpec.ofChange aluSelfsWrong)

/-- 'kotatsulaw08.AluFlags': WHATEVER THE INPUT: true; the input reads as it did. -/
def aluFlagsSpec : ChangeSpec := { name := "aluFlags", fn := fun _ => fun
  | [d1, d2, d3] => { results := [.lit (.bool true)], args := [d1, d2, d3] }
  | _ => none }
def aluFlagsRow : OpenClaim := { program := "ytfjeifmenlnkkaa", sum := "cb798556fb5994907dcc1fe770345477d528af6dfee651a45144a88487e6c328", func := "kotatsu/kotatsulaw08.AluFlags", spec := "aluFlags", unfollowed := true, recurses := true, apart := false }
def AluFlagsSaid : Prop := aluFlagsRow.holds Try.pinned (OpenSpec.ofChange aluFlagsSpec)

/-- ITS FALSE NEIGHBOUR: 'it returns false'. Refute it at one input. -/
def aluFlagsWrong : ChangeSpec := { name := "aluFlags", fn := fun _ => fun
  | [d1, d2, d3] => { results := [.lit (.bool false)], args := [d1, d2, d3] }
  | _ => none }
def AluFlagsWrongFalsely : Prop := aluFlagsRow.holds Try.pinned (OpenSpec.ofChange aluFlagsWrong)

/- THE SECOND FORM. 'bulk': how many values and letters a reading holds, each counted each time it is reached (what is shared counts as often as it is met; a slice's spare places count too). A statement '..UptoSaid' is the law's where the arguments, and the package variables that the reading takes, are together of bulk at most 1048576: NARROWER than '..Said'. Prove '..Said' where nothing that the law and all that it calls make is longer than what came in: it says more and counts as full. Else prove '..UptoSaid'. A law counts once. -/
mutual
def uptoBulk {H : Type} : DataW H → Nat
  | .lit (.string bytes) => bytes.length + 1
  | .lit _ => 1
  | .nil => 1
  | .ptr d => uptoBulk d + 1
  | .slice elems spare => uptoBulkAll elems + uptoBulkAll spare + 1
  | .agg parts => uptoBulkAll parts + 1
  | .iface _ d => uptoBulk d + 1
  | .map entries => uptoBulkEntries entries + 1
  | .held _ => 1
def uptoBulkAll {H : Type} : List (DataW H) → Nat
  | [] => 0
  | d :: r => uptoBulk d + uptoBulkAll r
def uptoBulkEntries {H : Type} : List (Lit × DataW H) → Nat
  | [] => 0
  | x :: r => uptoBulkEntry x + uptoBulkEntries r
def uptoBulkEntry {H : Type} : Lit × DataW H → Nat
  | (.string bytes, d) => bytes.length + uptoBulk d + 1
  | (_, d) => uptoBulk d + 1
 end
def uptoSmall : (H : Type) → List (DataW H) → Bool := fun _ ds => decide (uptoBulkAll ds ≤ 1048576)
def OpenSpec.upto (s : _root_.Go.ChangeSpec) : _root_.Go.OpenSpec := { _root_.Go.OpenSpec.ofChange s with cond := some uptoSmall }

/-- 'kotatsulaw08.AluReads', WHERE WHAT IT READS IS OF BULK AT MOST 1048576: true; the input reads as it did. -/
def aluReadsUptoRow : OpenClaim := { program := "ytfjeifmenlnkkaa", sum := "cb798556fb5994907dcc1fe770345477d528af6dfee651a45144a88487e6c328", func := "kotatsu/kotatsulaw08.AluReads", spec := "aluReads", unfollowed := true, recurses := true, apart := false, narrowed := true }
def AluReadsUptoSaid : Prop := aluReadsUptoRow.holds Try.pinned (OpenSpec.upto aluReadsSpec)

/-- 'kotatsulaw08.AluAdds', WHERE WHAT IT READS IS OF BULK AT MOST 1048576: true; the input reads as it did. -/
def aluAddsUptoRow : OpenClaim := { program := "ytfjeifmenlnkkaa", sum := "cb798556fb5994907dcc1fe770345477d528af6dfee651a45144a88487e6c328", func := "kotatsu/kotatsulaw08.AluAdds", spec := "aluAdds", unfollowed := true, recurses := true, apart := false, narrowed := true }
def AluAddsUptoSaid : Prop := aluAddsUptoRow.holds Try.pinned (OpenSpec.upto aluAddsSpec)

/-- 'kotatsulaw08.AluBorrows', WHERE WHAT IT READS IS OF BULK AT MOST 1048576: true; the input reads as it did. -/
def aluBorrowsUptoRow : OpenClaim := { program := "ytfjeifmenlnkkaa", sum := "cb798556fb5994907dcc1fe770345477d528af6dfee651a45144a88487e6c328", func := "kotatsu/kotatsulaw08.AluBorrows", spec := "aluBorrows", unfollowed := true, recurses := true, apart := false, narrowed := true }
def AluBorrowsUptoSaid : Prop := aluBorrowsUptoRow.holds Try.pinned (OpenSpec.upto aluBorrowsSpec)

/-- 'kotatsulaw08.AluBits', WHERE WHAT IT READS IS OF BULK AT MOST 1048576: true; the input reads as it did. -/
def aluBitsUptoRow : OpenClaim := { program := "ytfjeifmenlnkkaa", sum := "cb798556fb5994907dcc1fe770345477d528af6dfee651a45144a88487e6c328", func := "kotatsu/kotatsulaw08.AluBits", spec := "aluBits", unfollowed := true, recurses := true, apart := false, narrowed := true }
def AluBitsUptoSaid : Prop := aluBitsUptoRow.holds Try.pinned (OpenSpec.upto aluBitsSpec)

/-- 'kotatsulaw08.AluNames', WHERE WHAT IT READS IS OF BULK AT MOST 1048576: true; the input reads as it did. -/
def aluNamesUptoRow : OpenClaim := { program := "ytfjeifmenlnkkaa", sum := "cb798556fb5994907dcc1fe770345477d528af6dfee651a45144a88487e6c328", func := "kotatsu/kotatsulaw08.AluNames", spec := "aluNames", unfollowed := true, recurses := true, apart := false, narrowed := true }
def AluNamesUptoSaid : Prop := aluNamesUptoRow.holds Try.pinned (OpenSpec.upto aluNamesSpec)

/-- 'kotatsulaw08.AluStores', WHERE WHAT IT READS IS OF BULK AT MOST 1048576: true; the input reads as it did. -/
def aluStoresUptoRow : OpenClaim := { program := "ytfjeifmenlnkkaa", sum := "cb798556fb5994907dcc1fe770345477d528af6dfee651a45144a88487e6c328", func := "kotatsu/kotatsulaw08.AluStores", spec := "aluStores", unfollowed := true, recurses := true, apart := false, narrowed := true }
def AluStoresUptoSaid : Prop := aluStoresUptoRow.holds Try.pinned (OpenSpec.upto aluStoresSpec)

/-- 'kotatsulaw08.AluChanges', WHERE WHAT IT READS IS OF BULK AT MOST 1048576: true; the input reads as it did. -/
def aluChangesUptoRow : OpenClaim := { program := "ytfjeifmenlnkkaa", sum := "cb798556fb5994907dcc1fe770345477d528af6dfee651a45144a88487e6c328", func := "kotatsu/kotatsulaw08.AluChanges", spec := "aluChanges", unfollowed := true, recurses := true, apart := false, narrowed := true }
def AluChangesUptoSaid : Prop := aluChangesUptoRow.holds Try.pinned (OpenSpec.upto aluChangesSpec)

/-- 'kotatsulaw08.AluTurns', WHERE WHAT IT READS IS OF BULK AT MOST 1048576: true; the input reads as it did. -/
def aluTurnsUptoRow : OpenClaim := { program := "ytfjeifmenlnkkaa", sum := "cb798556fb5994907dcc1fe770345477d528af6dfee651a45144a88487e6c328", func := "kotatsu/kotatsulaw08.AluTurns", spec := "aluTurns", unfollowed := true, recurses := true, apart := false, narrowed := true }
def AluTurnsUptoSaid : Prop := aluTurnsUptoRow.holds Try.pinned (OpenSpec.upto aluTurnsSpec)

/-- 'kotatsulaw08.AluPairs', WHERE WHAT IT READS IS OF BULK AT MOST 1048576: true; the input reads as it did. -/
def aluPairsUptoRow : OpenClaim := { program := "ytfjeifmenlnkkaa", sum := "cb798556fb5994907dcc1fe770345477d528af6dfee651a45144a88487e6c328", func := "kotatsu/kotatsulaw08.AluPairs", spec := "aluPairs", unfollowed := true, recurses := true, apart := false, narrowed := true }
def AluPairsUptoSaid : Prop := aluPairsUptoRow.holds Try.pinned (OpenSpec.upto aluPairsSpec)

/-- 'kotatsulaw08.AluSelfs', WHERE WHAT IT READS IS OF BULK AT MOST 1048576: true; the input reads as it did. -/
def aluSelfsUptoRow : OpenClaim := { program := "ytfjeifmenlnkkaa", sum := "cb798556fb5994907dcc1fe770345477d528af6dfee651a45144a88487e6c328", func := "kotatsu/kotatsulaw08.AluSelfs", spec := "aluSelfs", unfollowed := true, recurses := true, apart := false, narrowed := true }
def AluSelfsUptoSaid : Prop := aluSelfsUptoRow.holds Try.pinned (OpenSpec.upto aluSelfsSpec)

/-- 'kotatsulaw08.AluFlags', WHERE WHAT IT READS IS OF BULK AT MOST 1048576: true; the input reads as it did. -/
def aluFlagsUptoRow : OpenClaim := { program := "ytfjeifmenlnkkaa", sum := "cb798556fb5994907dcc1fe770345477d528af6dfee651a45144a88487e6c328", func := "kotatsu/kotatsulaw08.AluFlags", spec := "aluFlags", unfollowed := true, recurses := true, apart := false, narrowed := true }
def AluFlagsUptoSaid : Prop := aluFlagsUptoRow.holds Try.pinned (OpenSpec.upto aluFlagsSpec)

end Rows
end Go.Proofs.Ytfjeifmenlnkkaa
