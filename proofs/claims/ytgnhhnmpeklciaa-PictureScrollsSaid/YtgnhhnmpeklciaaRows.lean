/-
  No cell of these rows narrows 'for every input' (looked for: loops, veiled, ifaces, maps, wideKeys, modest, calm, conditions, laid).
  DERIVED. THE GIVEN ROWS OF THIS SEAT. 9 by the template 'for every input the law returns true; each argument reads behind the call as it read before'; 0 by the template 'total and deterministic' (their statements: YtgnhhnmpeklciaaTotals.lean).
  GIVEN WITH THE SEED: the statements are not yours to turn. If you find one false, say at which input.
  Laid BY PROGRAM, IN A SANDBOX (cutbox-rows.mjs): the forced cells as the released guide's own fill.sh prints them over the translation 2bb6decdd15b6df4… (all of the seat's roots in one cut). By AI agents, Wed Nov 11 2026. No macro, syntax, notation, axiom, sorry.
-/
import Derived.Test.YtgnhhnmpeklciaaChecked
import GoSem.Claim
import GoSem.ClaimJoined
import GoSem.ClaimMapViews
import Derived.JoinedTies
import Derived.KernelRfl
namespace Go.Proofs.Ytgnhhnmpeklciaa
/- THE CELL 'sum', in the pinned program and in every row, IS THE sha256 OF THE DUMP (.gsa) THAT YtgnhhnmpeklciaaProg.lean LOADS. Nothing in Lean hashes anything: it is a label: what it is worth is what the hold of that sum in a sandbox is worth. -/
noncomputable def Try.pinned : Pinned := { name := "ytgnhhnmpeklciaa", sum := "2bb6decdd15b6df473d7f6726bd13e6daa189591661284fe0a4dae257f8e3fa0", checked := Try.checked }
namespace Rows
def none {H : Type} : Left H := { results := [], args := [] }

/-- 'kotatsulaw15.PictureReads': WHATEVER THE INPUT: true; the input reads as it did. -/
def pictureReadsSpec : ChangeSpec := { name := "pictureReads", fn := fun _ => fun
  | [d1, d2, d3] => { results := [.lit (.bool true)], args := [d1, d2, d3] }
  | _ => none }
def pictureReadsRow : OpenClaim := { program := "ytgnhhnmpeklciaa", sum := "2bb6decdd15b6df473d7f6726bd13e6daa189591661284fe0a4dae257f8e3fa0", func := "kotatsu/kotatsulaw15.PictureReads", spec := "pictureReads", apart := false }
def PictureReadsSaid : Prop := pictureReadsRow.holds Try.pinned (OpenSpec.ofChange pictureReadsSpec)

/-- ITS FALSE NEIGHBOUR: 'it returns false'. Refute it at one input. -/
def pictureReadsWrong : ChangeSpec := { name := "pictureReads", fn := fun _ => fun
  | [d1, d2, d3] => { results := [.lit (.bool false)], args := [d1, d2, d3] }
  | _ => none }
def PictureReadsWrongFalsely : Prop := pictureReadsRow.holds Try.pinned (OpenSpec.ofChange pictureReadsWrong)

/-- 'kotatsulaw15.PictureCounts': WHATEVER THE INPUT: true; the input reads as it did. -/
def pictureCountsSpec : ChangeSpec := { name := "pictureCounts", fn := fun _ => fun
  | [d1, d2] => { results := [.lit (.bool true)], args := [d1, d2] }
  | _ => none }
def pictureCountsRow : OpenClaim := { program := "ytgnhhnmpeklciaa", sum := "2bb6decdd15b6df473d7f6726bd13e6daa189591661284fe0a4dae257f8e3fa0", func := "kotatsu/kotatsulaw15.PictureCounts", spec := "pictureCounts", apart := false }
def PictureCountsSaid : Prop := pictureCountsRow.holds Try.pinned (OpenSpec.ofChange pictureCountsSpec)

/-- ITS FALSE NEIGHBOUR: 'it returns false'. Refute it at one input. -/
def pictureCountsWrong : ChangeSpec := { name := "pictureCounts", fn := fun _ => fun
  | [d1, d2] => { results := [.lit (.bool false)], args := [d1, d2] }
  | _ => none }
def PictureCountsWrongFalsely : Prop := pictureCountsRow.holds Try.pinned (OpenSpec.ofChange pictureCountsWrong)

/-- 'kotatsulaw15.PictureBlanks': WHATEVER THE INPUT: true; the input reads as it did. -/
def pictureBlanksSpec : ChangeSpec := { name := "pictureBlanks", fn := fun _ => fun
  | [d1, d2, d3] => { results := [.lit (.bool true)], args := [d1, d2, d3] }
  | _ => none }
def pictureBlanksRow : OpenClaim := { program := "ytgnhhnmpeklciaa", sum := "2bb6decdd15b6df473d7f6726bd13e6daa189591661284fe0a4dae257f8e3fa0", func := "kotatsu/kotatsulaw15.PictureBlanks", spec := "pictureBlanks", apart := false }
def PictureBlanksSaid : Prop := pictureBlanksRow.holds Try.pinned (OpenSpec.ofChange pictureBlanksSpec)

/-- ITS FALSE NEIGHBOUR: 'it returns false'. Refute it at one input. -/
def pictureBlanksWrong : ChangeSpec := { name := "pictureBlanks", fn := fun _ => fun
  | [d1, d2, d3] => { results := [.lit (.bool false)], args := [d1, d2, d3] }
  | _ => none }
def PictureBlanksWrongFalsely : Prop := pictureBlanksRow.holds Try.pinned (OpenSpec.ofChange pictureBlanksWrong)

/-- 'kotatsulaw15.PictureLimits': WHATEVER THE INPUT: true; the input reads as it did. -/
def pictureLimitsSpec : ChangeSpec := { name := "pictureLimits", fn := fun _ => fun
  | [d1, d2, d3] => { results := [.lit (.bool true)], args := [d1, d2, d3] }
  | _ => none }
def pictureLimitsRow : OpenClaim := { program := "ytgnhhnmpeklciaa", sum := "2bb6decdd15b6df473d7f6726bd13e6daa189591661284fe0a4dae257f8e3fa0", func := "kotatsu/kotatsulaw15.PictureLimits", spec := "pictureLimits", apart := false }
def PictureLimitsSaid : Prop := pictureLimitsRow.holds Try.pinned (OpenSpec.ofChange pictureLimitsSpec)

/-- ITS FALSE NEIGHBOUR: 'it returns false'. Refute it at one input. -/
def pictureLimitsWrong : ChangeSpec := { name := "pictureLimits", fn := fun _ => fun
  | [d1, d2, d3] => { results := [.lit (.bool false)], args := [d1, d2, d3] }
  | _ => none }
def PictureLimitsWrongFalsely : Prop := pictureLimitsRow.holds Try.pinned (OpenSpec.ofChange pictureLimitsWrong)

/-- 'kotatsulaw15.PictureHits': WHATEVER THE INPUT: true; the input reads as it did. -/
def pictureHitsSpec : ChangeSpec := { name := "pictureHits", fn := fun _ => fun
  | [d1, d2, d3, d4] => { results := [.lit (.bool true)], args := [d1, d2, d3, d4] }
  | _ => none }
def pictureHitsRow : OpenClaim := { program := "ytgnhhnmpeklciaa", sum := "2bb6decdd15b6df473d7f6726bd13e6daa189591661284fe0a4dae257f8e3fa0", func := "kotatsu/kotatsulaw15.PictureHits", spec := "pictureHits", apart := false }
def PictureHitsSaid : Prop := pictureHitsRow.holds Try.pinned (OpenSpec.ofChange pictureHitsSpec)

/-- ITS FALSE NEIGHBOUR: 'it returns false'. Refute it at one input. -/
def pictureHitsWrong : ChangeSpec := { name := "pictureHits", fn := fun _ => fun
  | [d1, d2, d3, d4] => { results := [.lit (.bool false)], args := [d1, d2, d3, d4] }
  | _ => none }
def PictureHitsWrongFalsely : Prop := pictureHitsRow.holds Try.pinned (OpenSpec.ofChange pictureHitsWrong)

/-- 'kotatsulaw15.PicturePlays': WHATEVER THE INPUT: true; the input reads as it did. -/
def picturePlaysSpec : ChangeSpec := { name := "picturePlays", fn := fun _ => fun
  | [d1, d2, d3] => { results := [.lit (.bool true)], args := [d1, d2, d3] }
  | _ => none }
def picturePlaysRow : OpenClaim := { program := "ytgnhhnmpeklciaa", sum := "2bb6decdd15b6df473d7f6726bd13e6daa189591661284fe0a4dae257f8e3fa0", func := "kotatsu/kotatsulaw15.PicturePlays", spec := "picturePlays", unfollowed := true, recurses := true, apart := false }
def PicturePlaysSaid : Prop := picturePlaysRow.holds Try.pinned (OpenSpec.ofChange picturePlaysSpec)

/-- ITS FALSE NEIGHBOUR: 'it returns false'. Refute it at one input. -/
def picturePlaysWrong : ChangeSpec := { name := "picturePlays", fn := fun _ => fun
  | [d1, d2, d3] => { results := [.lit (.bool false)], args := [d1, d2, d3] }
  | _ => none }
def PicturePlaysWrongFalsely : Prop := picturePlaysRow.holds Try.pinned (OpenSpec.ofChange picturePlaysWrong)

/-- 'kotatsulaw15.PictureFrames': WHATEVER THE INPUT: true; the input reads as it did. -/
def pictureFramesSpec : ChangeSpec := { name := "pictureFrames", fn := fun _ => fun
  | [d1, d2, d3, d4, d5, d6] => { results := [.lit (.bool true)], args := [d1, d2, d3, d4, d5, d6] }
  | _ => none }
def pictureFramesRow : OpenClaim := { program := "ytgnhhnmpeklciaa", sum := "2bb6decdd15b6df473d7f6726bd13e6daa189591661284fe0a4dae257f8e3fa0", func := "kotatsu/kotatsulaw15.PictureFrames", spec := "pictureFrames", unfollowed := true, recurses := true, apart := false }
def PictureFramesSaid : Prop := pictureFramesRow.holds Try.pinned (OpenSpec.ofChange pictureFramesSpec)

/-- ITS FALSE NEIGHBOUR: 'it returns false'. Refute it at one input. -/
def pictureFramesWrong : ChangeSpec := { name := "pictureFrames", fn := fun _ => fun
  | [d1, d2, d3, d4, d5, d6] => { results := [.lit (.bool false)], args := [d1, d2, d3, d4, d5, d6] }
  | _ => none }
def PictureFramesWrongFalsely : Prop := pictureFramesRow.holds Try.pinned (OpenSpec.ofChange pictureFramesWrong)

/-- 'kotatsulaw15.PictureScrolls': WHATEVER THE INPUT: true; the input reads as it did. -/
def pictureScrollsSpec : ChangeSpec := { name := "pictureScrolls", fn := fun _ => fun
  | [d1, d2, d3, d4, d5] => { results := [.lit (.bool true)], args := [d1, d2, d3, d4, d5] }
  | _ => none }
def pictureScrollsRow : OpenClaim := { program := "ytgnhhnmpeklciaa", sum := "2bb6decdd15b6df473d7f6726bd13e6daa189591661284fe0a4dae257f8e3fa0", func := "kotatsu/kotatsulaw15.PictureScrolls", spec := "pictureScrolls", unfollowed := true, recurses := true, apart := false }
def PictureScrollsSaid : Prop := pictureScrollsRow.holds Try.pinned (OpenSpec.ofChange pictureScrollsSpec)

/-- ITS FALSE NEIGHBOUR: 'it returns false'. Refute it at one input. -/
def pictureScrollsWrong : ChangeSpec := { name := "pictureScrolls", fn := fun _ => fun
  | [d1, d2, d3, d4, d5] => { results := [.lit (.bool false)], args := [d1, d2, d3, d4, d5] }
  | _ => none }
def PictureScrollsWrongFalsely : Prop := pictureScrollsRow.holds Try.pinned (OpenSpec.ofChange pictureScrollsWrong)

/-- 'kotatsulaw15.PictureNil': WHATEVER THE INPUT: true; the input reads as it did. -/
def pictureNilSpec : ChangeSpec := { name := "pictureNil", fn := fun _ => fun
  | [d1, d2, d3, d4] => { results := [.lit (.bool true)], args := [d1, d2, d3, d4] }
  | _ => none }
def pictureNilRow : OpenClaim := { program := "ytgnhhnmpeklciaa", sum := "2bb6decdd15b6df473d7f6726bd13e6daa189591661284fe0a4dae257f8e3fa0", func := "kotatsu/kotatsulaw15.PictureNil", spec := "pictureNil", apart := false }
def PictureNilSaid : Prop := pictureNilRow.holds Try.pinned (OpenSpec.ofChange pictureNilSpec)

/-- ITS FALSE NEIGHBOUR: 'it returns false'. Refute it at one input. -/
def pictureNilWrong : ChangeSpec := { name := "pictureNil", fn := fun _ => fun
  | [d1, d2, d3, d4] => { results := [.lit (.bool false)], args := [d1, d2, d3, d4] }
  | _ => none }
def PictureNilWrongFalsely : Prop := pictureNilRow.holds Try.pinned (OpenSpec.ofChange pictureNilWrong)

/- THE SECOND FORM. 'bulk': how many values and letters a reading holds, each counted each time it is reached (what is shared counts as often as it is met; a slice's spare places count too). A statement '..UptoSaid' is the law's where the arguments, and the package variables that the reading takes, are together of bulk at most 1048576: NARROWER than '..Said'. Prove '..Said' where nothing that the law and all that it calls make is longer than what came in: it says more and counts as full. Else prove '..UptoSaid'. A law counts once. -/
mutual
def uptoBulk {H : Type} : DataW H → Nat
  | .lit (.string bytes) => bytes.length + 1
  | .lit _ => 1
  | .nil => 1
  | .ptr d => uptoBulk d + 1
  | .slice elems spare => uptoBulkAll elems + uptoBulkAll spare + 1
  | .agg parts => uptoBulkAll parts + 1
  | .iface _ d => uptoBulk d + 1
  | .map entries => uptoBulkEntries entries + 1
  | .held _ => 1
def uptoBulkAll {H : Type} : List (DataW H) → Nat
  | [] => 0
  | d :: r => uptoBulk d + uptoBulkAll r
def uptoBulkEntries {H : Type} : List (Lit × DataW H) → Nat
  | [] => 0
  | x :: r => uptoBulkEntry x + uptoBulkEntries r
def uptoBulkEntry {H : Type} : Lit × DataW H → Nat
  | (.string bytes, d) => bytes.length + uptoBulk d + 1
  | (_, d) => uptoBulk d + 1
 end
def uptoSmall : (H : Type) → List (DataW H) → Bool := fun _ ds => decide (uptoBulkAll ds ≤ 1048576)
def OpenSpec.upto (s : _root_.Go.ChangeSpec) : _root_.Go.OpenSpec := { _root_.Go.OpenSpec.ofChange s with cond := some uptoSmall }

/-- 'kotatsulaw15.PictureReads', WHERE WHAT IT READS IS OF BULK AT MOST 1048576: true; the input reads as it did. -/
def pictureReadsUptoRow : OpenClaim := { program := "ytgnhhnmpeklciaa", sum := "2bb6decdd15b6df473d7f6726bd13e6daa189591661284fe0a4dae257f8e3fa0", func := "kotatsu/kotatsulaw15.PictureReads", spec := "pictureReads", apart := false, narrowed := true }
def PictureReadsUptoSaid : Prop := pictureReadsUptoRow.holds Try.pinned (OpenSpec.upto pictureReadsSpec)

/-- 'kotatsulaw15.PictureCounts', WHERE WHAT IT READS IS OF BULK AT MOST 1048576: true; the input reads as it did. -/
def pictureCountsUptoRow : OpenClaim := { program := "ytgnhhnmpeklciaa", sum := "2bb6decdd15b6df473d7f6726bd13e6daa189591661284fe0a4dae257f8e3fa0", func := "kotatsu/kotatsulaw15.PictureCounts", spec := "pictureCounts", apart := false, narrowed := true }
def PictureCountsUptoSaid : Prop := pictureCountsUptoRow.holds Try.pinned (OpenSpec.upto pictureCountsSpec)

/-- 'kotatsulaw15.PictureBlanks', WHERE WHAT IT READS IS OF BULK AT MOST 1048576: true; the input reads as it did. -/
def pictureBlanksUptoRow : OpenClaim := { program := "ytgnhhnmpeklciaa", sum := "2bb6decdd15b6df473d7f6726bd13e6daa189591661284fe0a4dae257f8e3fa0", func := "kotatsu/kotatsulaw15.PictureBlanks", spec := "pictureBlanks", apart := false, narrowed := true }
def PictureBlanksUptoSaid : Prop := pictureBlanksUptoRow.holds Try.pinned (OpenSpec.upto pictureBlanksSpec)

/-- 'kotatsulaw15.PictureLimits', WHERE WHAT IT READS IS OF BULK AT MOST 1048576: true; the input reads as it did. -/
def pictureLimitsUptoRow : OpenClaim := { program := "ytgnhhnmpeklciaa", sum := "2bb6decdd15b6df473d7f6726bd13e6daa189591661284fe0a4dae257f8e3fa0", func := "kotatsu/kotatsulaw15.PictureLimits", spec := "pictureLimits", apart := false, narrowed := true }
def PictureLimitsUptoSaid : Prop := pictureLimitsUptoRow.holds Try.pinned (OpenSpec.upto pictureLimitsSpec)

/-- 'kotatsulaw15.PictureHits', WHERE WHAT IT READS IS OF BULK AT MOST 1048576: true; the input reads as it did. -/
def pictureHitsUptoRow : OpenClaim := { program := "ytgnhhnmpeklciaa", sum := "2bb6decdd15b6df473d7f6726bd13e6daa189591661284fe0a4dae257f8e3fa0", func := "kotatsu/kotatsulaw15.PictureHits", spec := "pictureHits", apart := false, narrowed := true }
def PictureHitsUptoSaid : Prop := pictureHitsUptoRow.holds Try.pinned (OpenSpec.upto pictureHitsSpec)

/-- 'kotatsulaw15.PicturePlays', WHERE WHAT IT READS IS OF BULK AT MOST 1048576: true; the input reads as it did. -/
def picturePlaysUptoRow : OpenClaim := { program := "ytgnhhnmpeklciaa", sum := "2bb6decdd15b6df473d7f6726bd13e6daa189591661284fe0a4dae257f8e3fa0", func := "kotatsu/kotatsulaw15.PicturePlays", spec := "picturePlays", unfollowed := true, recurses := true, apart := false, narrowed := true }
def PicturePlaysUptoSaid : Prop := picturePlaysUptoRow.holds Try.pinned (OpenSpec.upto picturePlaysSpec)

/-- 'kotatsulaw15.PictureFrames', WHERE WHAT IT READS IS OF BULK AT MOST 1048576: true; the input reads as it did. -/
def pictureFramesUptoRow : OpenClaim := { program := "ytgnhhnmpeklciaa", sum := "2bb6decdd15b6df473d7f6726bd13e6daa189591661284fe0a4dae257f8e3fa0", func := "kotatsu/kotatsulaw15.PictureFrames", spec := "pictureFrames", unfollowed := true, recurses := true, apart := false, narrowed := true }
def PictureFramesUptoSaid : Prop := pictureFramesUptoRow.holds Try.pinned (OpenSpec.upto pictureFramesSpec)

/-- 'kotatsulaw15.PictureScrolls', WHERE WHAT IT READS IS OF BULK AT MOST 1048576: true; the input reads as it did. -/
def pictureScrollsUptoRow : OpenClaim := { program := "ytgnhhnmpeklciaa", sum := "2bb6decdd15b6df473d7f6726bd13e6daa189591661284fe0a4dae257f8e3fa0", func := "kotatsu/kotatsulaw15.PictureScrolls", spec := "pictureScrolls", unfollowed := true, recurses := true, apart := false, narrowed := true }
def PictureScrollsUptoSaid : Prop := pictureScrollsUptoRow.holds Try.pinned (OpenSpec.upto pictureScrollsSpec)

/-- 'kotatsulaw15.PictureNil', WHERE WHAT IT READS IS OF BULK AT MOST 1048576: true; the input reads as it did. -/
def pictureNilUptoRow : OpenClaim := { program := "ytgnhhnmpeklciaa", sum := "2bb6decdd15b6df473d7f6726bd13e6daa189591661284fe0a4dae257f8e3fa0", func := "kotatsu/kotatsulaw15.PictureNil", spec := "pictureNil", apart := false, narrowed := true }
def PictureNilUptoSaid : Prop := pictureNilUptoRow.holds Try.pinned (OpenSpec.upto pictureNilSpec)

end Rows
end Go.Proofs.Ytgnhhnmpeklciaa
