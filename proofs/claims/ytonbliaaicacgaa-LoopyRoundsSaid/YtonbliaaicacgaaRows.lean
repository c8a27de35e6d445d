/-
  No cell of these rows narrows 'for every input' (looked for: loops, veiled, ifaces, maps, wideKeys, modest, calm, conditions, laid).
  DERIVED. THE GIVEN ROWS OF THIS SEAT. 6 by the template 'for every input the law returns true; each argument reads behind the call as it read before'; 0 by the template 'total and deterministic' (their statements: YtonbliaaicacgaaTotals.lean).
  GIVEN WITH THE SEED: the statements are not yours to turn. If you find one false, say at which input.
  Laid BY PROGRAM, IN A SANDBOX (cutbox-rows.mjs): the forced cells as the released guide's own fill.sh prints them over the translation 8ca92f4a294e6aa2… (all of the seat's roots in one cut). By AI agents, Wed Nov 11 2026. No macro, syntax, notation, axiom, sorry.
-/
import Derived.Test.YtonbliaaicacgaaChecked
import GoSem.Claim
import GoSem.ClaimJoined
import GoSem.ClaimMapViews
import Derived.JoinedTies
import Derived.KernelRfl
namespace Go.Proofs.Ytonbliaaicacgaa
/- THE CELL 'sum', in the pinned program and in every row, IS THE sha256 OF THE DUMP (.gsa) THAT YtonbliaaicacgaaProg.lean LOADS. Nothing in Lean hashes anything: it is a label: what it is worth is what the hold of that sum in a sandbox is worth. -/
noncomputable def Try.pinned : Pinned := { name := "ytonbliaaicacgaa", sum := "8ca92f4a294e6aa243d34c944e96ff433544f67e51e8673ad3ce9e1e59df2a5e", checked := Try.checked }
namespace Rows
def none {H : Type} : Left H := { results := [], args := [] }

/-- 'kotatsulaw14.LoopyReads': WHATEVER THE INPUT: true; the input reads as it did. -/
def loopyReadsSpec : ChangeSpec := { name := "loopyReads", fn := fun _ => fun
  | [d] => { results := [.lit (.bool true)], args := [d] }
  | _ => none }
def loopyReadsRow : OpenClaim := { program := "ytonbliaaicacgaa", sum := "8ca92f4a294e6aa243d34c944e96ff433544f67e51e8673ad3ce9e1e59df2a5e", func := "kotatsu/kotatsulaw14.LoopyReads", spec := "loopyReads", apart := false }
def LoopyReadsSaid : Prop := loopyReadsRow.holds Try.pinned (OpenSpec.ofChange loopyReadsSpec)

/-- ITS FALSE NEIGHBOUR: 'it returns false'. Refute it at one input. -/
def loopyReadsWrong : ChangeSpec := { name := "loopyReads", fn := fun _ => fun
  | [d] => { results := [.lit (.bool false)], args := [d] }
  | _ => none }
def LoopyReadsWrongFalsely : Prop := loopyReadsRow.holds Try.pinned (OpenSpec.ofChange loopyReadsWrong)

/-- 'kotatsulaw14.LoopyMirrors': WHATEVER THE INPUT: true; the input reads as it did. -/
def loopyMirrorsSpec : ChangeSpec := { name := "loopyMirrors", fn := fun _ => fun
  | [d1, d2] => { results := [.lit (.bool true)], args := [d1, d2] }
  | _ => none }
def loopyMirrorsRow : OpenClaim := { program := "ytonbliaaicacgaa", sum := "8ca92f4a294e6aa243d34c944e96ff433544f67e51e8673ad3ce9e1e59df2a5e", func := "kotatsu/kotatsulaw14.LoopyMirrors", spec := "loopyMirrors", apart := false }
def LoopyMirrorsSaid : Prop := loopyMirrorsRow.holds Try.pinned (OpenSpec.ofChange loopyMirrorsSpec)

/-- ITS FALSE NEIGHBOUR: 'it returns false'. Refute it at one input. -/
def loopyMirrorsWrong : ChangeSpec := { name := "loopyMirrors", fn := fun _ => fun
  | [d1, d2] => { results := [.lit (.bool false)], args := [d1, d2] }
  | _ => none }
def LoopyMirrorsWrongFalsely : Prop := loopyMirrorsRow.holds Try.pinned (OpenSpec.ofChange loopyMirrorsWrong)

/-- 'kotatsulaw14.LoopyColours': WHATEVER THE INPUT: true; the input reads as it did. -/
def loopyColoursSpec : ChangeSpec := { name := "loopyColours", fn := fun _ => fun
  | [d] => { results := [.lit (.bool true)], args := [d] }
  | _ => none }
def loopyColoursRow : OpenClaim := { program := "ytonbliaaicacgaa", sum := "8ca92f4a294e6aa243d34c944e96ff433544f67e51e8673ad3ce9e1e59df2a5e", func := "kotatsu/kotatsulaw14.LoopyColours", spec := "loopyColours", apart := false }
def LoopyColoursSaid : Prop := loopyColoursRow.holds Try.pinned (OpenSpec.ofChange loopyColoursSpec)

/-- ITS FALSE NEIGHBOUR: 'it returns false'. Refute it at one input. -/
def loopyColoursWrong : ChangeSpec := { name := "loopyColours", fn := fun _ => fun
  | [d] => { results := [.lit (.bool false)], args := [d] }
  | _ => none }
def LoopyColoursWrongFalsely : Prop := loopyColoursRow.holds Try.pinned (OpenSpec.ofChange loopyColoursWrong)

/-- 'kotatsulaw14.LoopyAddresses': WHATEVER THE INPUT: true; the input reads as it did. -/
def loopyAddressesSpec : ChangeSpec := { name := "loopyAddresses", fn := fun _ => fun
  | [d1, d2, d3, d4, d5] => { results := [.lit (.bool true)], args := [d1, d2, d3, d4, d5] }
  | _ => none }
def loopyAddressesRow : OpenClaim := { program := "ytonbliaaicacgaa", sum := "8ca92f4a294e6aa243d34c944e96ff433544f67e51e8673ad3ce9e1e59df2a5e", func := "kotatsu/kotatsulaw14.LoopyAddresses", spec := "loopyAddresses", apart := false }
def LoopyAddressesSaid : Prop := loopyAddressesRow.holds Try.pinned (OpenSpec.ofChange loopyAddressesSpec)

/-- ITS FALSE NEIGHBOUR: 'it returns false'. Refute it at one input. -/
def loopyAddressesWrong : ChangeSpec := { name := "loopyAddresses", fn := fun _ => fun
  | [d1, d2, d3, d4, d5] => { results := [.lit (.bool false)], args := [d1, d2, d3, d4, d5] }
  | _ => none }
def LoopyAddressesWrongFalsely : Prop := loopyAddressesRow.holds Try.pinned (OpenSpec.ofChange loopyAddressesWrong)

/-- 'kotatsulaw14.LoopyRounds': WHATEVER THE INPUT: true; the input reads as it did. -/
def loopyRoundsSpec : ChangeSpec := { name := "loopyRounds", fn := fun _ => fun
  | [d] => { results := [.lit (.bool true)], args := [d] }
  | _ => none }
def loopyRoundsRow : OpenClaim := { program := "ytonbliaaicacgaa", sum := "8ca92f4a294e6aa243d34c944e96ff433544f67e51e8673ad3ce9e1e59df2a5e", func := "kotatsu/kotatsulaw14.LoopyRounds", spec := "loopyRounds", apart := false }
def LoopyRoundsSaid : Prop := loopyRoundsRow.holds Try.pinned (OpenSpec.ofChange loopyRoundsSpec)

/-- ITS FALSE NEIGHBOUR: 'it returns false'. Refute it at one input. -/
def loopyRoundsWrong : ChangeSpec := { name := "loopyRounds", fn := fun _ => fun
  | [d] => { results := [.lit (.bool false)], args := [d] }
  | _ => none }
def LoopyRoundsWrongFalsely : Prop := loopyRoundsRow.holds Try.pinned (OpenSpec.ofChange loopyRoundsWrong)

/-- 'kotatsulaw14.LoopyScrolls': WHATEVER THE INPUT: true; the input reads as it did. -/
def loopyScrollsSpec : ChangeSpec := { name := "loopyScrolls", fn := fun _ => fun
  | [d1, d2, d3, d4, d5, d6] => { results := [.lit (.bool true)], args := [d1, d2, d3, d4, d5, d6] }
  | _ => none }
def loopyScrollsRow : OpenClaim := { program := "ytonbliaaicacgaa", sum := "8ca92f4a294e6aa243d34c944e96ff433544f67e51e8673ad3ce9e1e59df2a5e", func := "kotatsu/kotatsulaw14.LoopyScrolls", spec := "loopyScrolls", apart := false }
def LoopyScrollsSaid : Prop := loopyScrollsRow.holds Try.pinned (OpenSpec.ofChange loopyScrollsSpec)

/-- ITS FALSE NEIGHBOUR: 'it returns false'. Refute it at one input. -/
def loopyScrollsWrong : ChangeSpec := { name := "loopyScrolls", fn := fun _ => fun
  | [d1, d2, d3, d4, d5, d6] => { results := [.lit (.bool false)], args := [d1, d2, d3, d4, d5, d6] }
  | _ => none }
def LoopyScrollsWrongFalsely : Prop := loopyScrollsRow.holds Try.pinned (OpenSpec.ofChange loopyScrollsWrong)

/- THE SECOND FORM. 'bulk': how many values and letters a reading holds, each counted each time it is reached (what is shared counts as often as it is met; a slice's spare places count too). A statement '..UptoSaid' is the law's where the arguments, and the package variables that the reading takes, are together of bulk at most 1048576: NARROWER than '..Said'. Prove '..Said' where nothing that the law and all that it calls make is longer than what came in: it says more and counts as full. Else prove '..UptoSaid'. A law counts once. -/
mutual
def uptoBulk {H : Type} : DataW H → Nat
  | .lit (.string bytes) => bytes.length + 1
  | .lit _ => 1
  | .nil => 1
  | .ptr d => uptoBulk d + 1
  | .slice elems spare => uptoBulkAll elems + uptoBulkAll spare + 1
  | .agg parts => uptoBulkAll parts + 1
  | .iface _ d => uptoBulk d + 1
  | .map entries => uptoBulkEntries entries + 1
  | .held _ => 1
def uptoBulkAll {H : Type} : List (DataW H) → Nat
  | [] => 0
  | d :: r => uptoBulk d + uptoBulkAll r
def uptoBulkEntries {H : Type} : List (Lit × DataW H) → Nat
  | [] => 0
  | x :: r => uptoBulkEntry x + uptoBulkEntries r
def uptoBulkEntry {H : Type} : Lit × DataW H → Nat
  | (.string bytes, d) => bytes.length + uptoBulk d + 1
  | (_, d) => uptoBulk d + 1
 end
def uptoSmall : (H : Type) → List (DataW H) → Bool := fun _ ds => decide (uptoBulkAll ds ≤ 1048576)
def OpenSpec.upto (s : _root_.Go.ChangeSpec) : _root_.Go.OpenSpec := { _root_.Go.OpenSpec.ofChange s with cond := some uptoSmall }

/-- 'kotatsulaw14.LoopyReads', WHERE WHAT IT READS IS OF BULK AT MOST 1048576: true; the input reads as it did. -/
def loopyReadsUptoRow : OpenClaim := { program := "ytonbliaaicacgaa", sum := "8ca92f4a294e6aa243d34c944e96ff433544f67e51e8673ad3ce9e1e59df2a5e", func := "kotatsu/kotatsulaw14.LoopyReads", spec := "loopyReads", apart := false, narrowed := true }
def LoopyReadsUptoSaid : Prop := loopyReadsUptoRow.holds Try.pinned (OpenSpec.upto loopyReadsSpec)

/-- 'kotatsulaw14.LoopyMirrors', WHERE WHAT IT READS IS OF BULK AT MOST 1048576: true; the input reads as it did. -/
def loopyMirrorsUptoRow : OpenClaim := { program := "ytonbliaaicacgaa", sum := "8ca92f4a294e6aa243d34c944e96ff433544f67e51e8673ad3ce9e1e59df2a5e", func := "kotatsu/kotatsulaw14.LoopyMirrors", spec := "loopyMirrors", apart := false, narrowed := true }
def LoopyMirrorsUptoSaid : Prop := loopyMirrorsUptoRow.holds Try.pinned (OpenSpec.upto loopyMirrorsSpec)

/-- 'kotatsulaw14.LoopyColours', WHERE WHAT IT READS IS OF BULK AT MOST 1048576: true; the input reads as it did. -/
def loopyColoursUptoRow : OpenClaim := { program := "ytonbliaaicacgaa", sum := "8ca92f4a294e6aa243d34c944e96ff433544f67e51e8673ad3ce9e1e59df2a5e", func := "kotatsu/kotatsulaw14.LoopyColours", spec := "loopyColours", apart := false, narrowed := true }
def LoopyColoursUptoSaid : Prop := loopyColoursUptoRow.holds Try.pinned (OpenSpec.upto loopyColoursSpec)

/-- 'kotatsulaw14.LoopyAddresses', WHERE WHAT IT READS IS OF BULK AT MOST 1048576: true; the input reads as it did. -/
def loopyAddressesUptoRow : OpenClaim := { program := "ytonbliaaicacgaa", sum := "8ca92f4a294e6aa243d34c944e96ff433544f67e51e8673ad3ce9e1e59df2a5e", func := "kotatsu/kotatsulaw14.LoopyAddresses", spec := "loopyAddresses", apart := false, narrowed := true }
def LoopyAddressesUptoSaid : Prop := loopyAddressesUptoRow.holds Try.pinned (OpenSpec.upto loopyAddressesSpec)

/-- 'kotatsulaw14.LoopyRounds', WHERE WHAT IT READS IS OF BULK AT MOST 1048576: true; the input reads as it did. -/
def loopyRoundsUptoRow : OpenClaim := { program := "ytonbliaaicacgaa", sum := "8ca92f4a294e6aa243d34c944e96ff433544f67e51e8673ad3ce9e1e59df2a5e", func := "kotatsu/kotatsulaw14.LoopyRounds", spec := "loopyRounds", apart := false, narrowed := true }
def LoopyRoundsUptoSaid : Prop := loopyRoundsUptoRow.holds Try.pinned (OpenSpec.upto loopyRoundsSpec)

/-- 'kotatsulaw14.LoopyScrolls', WHERE WHAT IT READS IS OF BULK AT MOST 1048576: true; the input reads as it did. -/
def loopyScrollsUptoRow : OpenClaim := { program := "ytonbliaaicacgaa", sum := "8ca92f4a294e6aa243d34c944e96ff433544f67e51e8673ad3ce9e1e59df2a5e", func := "kotatsu/kotatsulaw14.LoopyScrolls", spec := "loopyScrolls", apart := false, narrowed := true }
def LoopyScrollsUptoSaid : Prop := loopyScrollsUptoRow.holds Try.pinned (OpenSpec.upto loopyScrollsSpec)

end Rows
end Go.Proofs.Ytonbliaaicacgaa
