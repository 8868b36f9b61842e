/-
  No cell of these rows narrows 'for every input' (looked for: loops, veiled, ifaces, maps, wideKeys, modest, calm, conditions, laid).
  DERIVED. THE GIVEN ROWS OF THIS SEAT. 10 by the template 'for every input the law returns true; each argument reads behind the call as it read before'; 0 by the template 'total and deterministic' (their statements: YtjgnbmgdnfldeaaTotals.lean).
  GIVEN WITH THE SEED: the statements are not yours to turn. If you find one false, say at which input.
  Laid BY PROGRAM, IN A SANDBOX (cutbox-rows.mjs): the forced cells as the released guide's own fill.sh prints them over the translation 1734f0d6fe78b1f0… (all of the seat's roots in one cut). By AI agents, Wed Nov 11 2026. No macro, syntax, notation, axiom, sorry.
-/
import Derived.Test.YtjgnbmgdnfldeaaChecked
import GoSem.Claim
import GoSem.ClaimJoined
import GoSem.ClaimMapViews
import Derived.JoinedTies
import Derived.KernelRfl
namespace Go.Proofs.Ytjgnbmgdnfldeaa
/- THE CELL 'sum', in the pinned program and in every row, IS THE sha256 OF THE DUMP (.gsa) THAT YtjgnbmgdnfldeaaProg.lean LOADS. Nothing in Lean hashes anything: it is a label: what it is worth is what the hold of that sum in a sandbox is worth. -/
noncomputable def Try.pinned : Pinned := { name := "ytjgnbmgdnfldeaa", sum := "1734f0d6fe78b1f070d9f885e12a6e032ddc5bf3a065fd96ebd5056d72b6882f", checked := Try.checked }
namespace Rows
def none {H : Type} : Left H := { results := [], args := [] }

/-- 'tympanlaw32.RegionRows': WHATEVER THE INPUT: true; the input reads as it did. -/
def regionRowsSpec : ChangeSpec := { name := "regionRows", fn := fun _ => fun
  | [d1, d2, d3, d4] => { results := [.lit (.bool true)], args := [d1, d2, d3, d4] }
  | _ => none }
def regionRowsRow : OpenClaim := { program := "ytjgnbmgdnfldeaa", sum := "1734f0d6fe78b1f070d9f885e12a6e032ddc5bf3a065fd96ebd5056d72b6882f", func := "tympan/tympanlaw32.RegionRows", spec := "regionRows", unfollowed := true, recurses := true, apart := false }
def RegionRowsSaid : Prop := regionRowsRow.holds Try.pinned (OpenSpec.ofChange regionRowsSpec)

/-- ITS FALSE NEIGHBOUR: 'it returns false'. Refute it at one input. -/
def regionRowsWrong : ChangeSpec := { name := "regionRows", fn := fun _ => fun
  | [d1, d2, d3, d4] => { results := [.lit (.bool false)], args := [d1, d2, d3, d4] }
  | _ => none }
def RegionRowsWrongFalsely : Prop := regionRowsRow.holds Try.pinned (OpenSpec.ofChange regionRowsWrong)

/-- 'tympanlaw32.RegionMakes': WHATEVER THE INPUT: true; the input reads as it did. -/
def regionMakesSpec : ChangeSpec := { name := "regionMakes", fn := fun _ => fun
  | [d1, d2, d3, d4] => { results := [.lit (.bool true)], args := [d1, d2, d3, d4] }
  | _ => none }
def regionMakesRow : OpenClaim := { program := "ytjgnbmgdnfldeaa", sum := "1734f0d6fe78b1f070d9f885e12a6e032ddc5bf3a065fd96ebd5056d72b6882f", func := "tympan/tympanlaw32.RegionMakes", spec := "regionMakes", unfollowed := true, recurses := true, apart := false }
def RegionMakesSaid : Prop := regionMakesRow.holds Try.pinned (OpenSpec.ofChange regionMakesSpec)

/-- ITS FALSE NEIGHBOUR: 'it returns false'. Refute it at one input. -/
def regionMakesWrong : ChangeSpec := { name := "regionMakes", fn := fun _ => fun
  | [d1, d2, d3, d4] => { results := [.lit (.bool false)], args := [d1, d2, d3, d4] }
  | _ => none }
def RegionMakesWrongFalsely : Prop := regionMakesRow.holds Try.pinned (OpenSpec.ofChange regionMakesWrong)

/-- 'tympanlaw32.RegionBoxes': WHATEVER THE INPUT: true; the input reads as it did. -/
def regionBoxesSpec : ChangeSpec := { name := "regionBoxes", fn := fun _ => fun
  | [d1, d2] => { results := [.lit (.bool true)], args := [d1, d2] }
  | _ => none }
def regionBoxesRow : OpenClaim := { program := "ytjgnbmgdnfldeaa", sum := "1734f0d6fe78b1f070d9f885e12a6e032ddc5bf3a065fd96ebd5056d72b6882f", func := "tympan/tympanlaw32.RegionBoxes", spec := "regionBoxes", unfollowed := true, recurses := true, apart := false }
def RegionBoxesSaid : Prop := regionBoxesRow.holds Try.pinned (OpenSpec.ofChange regionBoxesSpec)

/-- ITS FALSE NEIGHBOUR: 'it returns false'. Refute it at one input. -/
def regionBoxesWrong : ChangeSpec := { name := "regionBoxes", fn := fun _ => fun
  | [d1, d2] => { results := [.lit (.bool false)], args := [d1, d2] }
  | _ => none }
def RegionBoxesWrongFalsely : Prop := regionBoxesRow.holds Try.pinned (OpenSpec.ofChange regionBoxesWrong)

/-- 'tympanlaw32.RegionLaws': WHATEVER THE INPUT: true; the input reads as it did. -/
def regionLawsSpec : ChangeSpec := { name := "regionLaws", fn := fun _ => fun
  | [d1, d2, d3, d4] => { results := [.lit (.bool true)], args := [d1, d2, d3, d4] }
  | _ => none }
def regionLawsRow : OpenClaim := { program := "ytjgnbmgdnfldeaa", sum := "1734f0d6fe78b1f070d9f885e12a6e032ddc5bf3a065fd96ebd5056d72b6882f", func := "tympan/tympanlaw32.RegionLaws", spec := "regionLaws", unfollowed := true, recurses := true, apart := false }
def RegionLawsSaid : Prop := regionLawsRow.holds Try.pinned (OpenSpec.ofChange regionLawsSpec)

/-- ITS FALSE NEIGHBOUR: 'it returns false'. Refute it at one input. -/
def regionLawsWrong : ChangeSpec := { name := "regionLaws", fn := fun _ => fun
  | [d1, d2, d3, d4] => { results := [.lit (.bool false)], args := [d1, d2, d3, d4] }
  | _ => none }
def RegionLawsWrongFalsely : Prop := regionLawsRow.holds Try.pinned (OpenSpec.ofChange regionLawsWrong)

/-- 'tympanlaw32.RegionSays': WHATEVER THE INPUT: true; the input reads as it did. -/
def regionSaysSpec : ChangeSpec := { name := "regionSays", fn := fun _ => fun
  | [d1, d2, d3] => { results := [.lit (.bool true)], args := [d1, d2, d3] }
  | _ => none }
def regionSaysRow : OpenClaim := { program := "ytjgnbmgdnfldeaa", sum := "1734f0d6fe78b1f070d9f885e12a6e032ddc5bf3a065fd96ebd5056d72b6882f", func := "tympan/tympanlaw32.RegionSays", spec := "regionSays", unfollowed := true, recurses := true, apart := false }
def RegionSaysSaid : Prop := regionSaysRow.holds Try.pinned (OpenSpec.ofChange regionSaysSpec)

/-- ITS FALSE NEIGHBOUR: 'it returns false'. Refute it at one input. -/
def regionSaysWrong : ChangeSpec := { name := "regionSays", fn := fun _ => fun
  | [d1, d2, d3] => { results := [.lit (.bool false)], args := [d1, d2, d3] }
  | _ => none }
def RegionSaysWrongFalsely : Prop := regionSaysRow.holds Try.pinned (OpenSpec.ofChange regionSaysWrong)

/-- 'tympanlaw32.RegionBands': WHATEVER THE INPUT: true; the input reads as it did. -/
def regionBandsSpec : ChangeSpec := { name := "regionBands", fn := fun _ => fun
  | [d1, d2, d3, d4, d5] => { results := [.lit (.bool true)], args := [d1, d2, d3, d4, d5] }
  | _ => none }
def regionBandsRow : OpenClaim := { program := "ytjgnbmgdnfldeaa", sum := "1734f0d6fe78b1f070d9f885e12a6e032ddc5bf3a065fd96ebd5056d72b6882f", func := "tympan/tympanlaw32.RegionBands", spec := "regionBands", unfollowed := true, recurses := true, apart := false }
def RegionBandsSaid : Prop := regionBandsRow.holds Try.pinned (OpenSpec.ofChange regionBandsSpec)

/-- ITS FALSE NEIGHBOUR: 'it returns false'. Refute it at one input. -/
def regionBandsWrong : ChangeSpec := { name := "regionBands", fn := fun _ => fun
  | [d1, d2, d3, d4, d5] => { results := [.lit (.bool false)], args := [d1, d2, d3, d4, d5] }
  | _ => none }
def RegionBandsWrongFalsely : Prop := regionBandsRow.holds Try.pinned (OpenSpec.ofChange regionBandsWrong)

/-- 'tympanlaw32.RegionMoves': WHATEVER THE INPUT: true; the input reads as it did. -/
def regionMovesSpec : ChangeSpec := { name := "regionMoves", fn := fun _ => fun
  | [d1, d2, d3, d4, d5] => { results := [.lit (.bool true)], args := [d1, d2, d3, d4, d5] }
  | _ => none }
def regionMovesRow : OpenClaim := { program := "ytjgnbmgdnfldeaa", sum := "1734f0d6fe78b1f070d9f885e12a6e032ddc5bf3a065fd96ebd5056d72b6882f", func := "tympan/tympanlaw32.RegionMoves", spec := "regionMoves", unfollowed := true, recurses := true, apart := false }
def RegionMovesSaid : Prop := regionMovesRow.holds Try.pinned (OpenSpec.ofChange regionMovesSpec)

/-- ITS FALSE NEIGHBOUR: 'it returns false'. Refute it at one input. -/
def regionMovesWrong : ChangeSpec := { name := "regionMoves", fn := fun _ => fun
  | [d1, d2, d3, d4, d5] => { results := [.lit (.bool false)], args := [d1, d2, d3, d4, d5] }
  | _ => none }
def RegionMovesWrongFalsely : Prop := regionMovesRow.holds Try.pinned (OpenSpec.ofChange regionMovesWrong)

/-- 'tympanlaw32.RegionMasks': WHATEVER THE INPUT: true; the input reads as it did. -/
def regionMasksSpec : ChangeSpec := { name := "regionMasks", fn := fun _ => fun
  | [d1, d2, d3, d4] => { results := [.lit (.bool true)], args := [d1, d2, d3, d4] }
  | _ => none }
def regionMasksRow : OpenClaim := { program := "ytjgnbmgdnfldeaa", sum := "1734f0d6fe78b1f070d9f885e12a6e032ddc5bf3a065fd96ebd5056d72b6882f", func := "tympan/tympanlaw32.RegionMasks", spec := "regionMasks", unfollowed := true, recurses := true, apart := false }
def RegionMasksSaid : Prop := regionMasksRow.holds Try.pinned (OpenSpec.ofChange regionMasksSpec)

/-- ITS FALSE NEIGHBOUR: 'it returns false'. Refute it at one input. -/
def regionMasksWrong : ChangeSpec := { name := "regionMasks", fn := fun _ => fun
  | [d1, d2, d3, d4] => { results := [.lit (.bool false)], args := [d1, d2, d3, d4] }
  | _ => none }
def RegionMasksWrongFalsely : Prop := regionMasksRow.holds Try.pinned (OpenSpec.ofChange regionMasksWrong)

/-- 'tympanlaw32.RegionClips': WHATEVER THE INPUT: true; the input reads as it did. -/
def regionClipsSpec : ChangeSpec := { name := "regionClips", fn := fun _ => fun
  | [d1, d2, d3, d4] => { results := [.lit (.bool true)], args := [d1, d2, d3, d4] }
  | _ => none }
def regionClipsRow : OpenClaim := { program := "ytjgnbmgdnfldeaa", sum := "1734f0d6fe78b1f070d9f885e12a6e032ddc5bf3a065fd96ebd5056d72b6882f", func := "tympan/tympanlaw32.RegionClips", spec := "regionClips", unfollowed := true, recurses := true, apart := false }
def RegionClipsSaid : Prop := regionClipsRow.holds Try.pinned (OpenSpec.ofChange regionClipsSpec)

/-- ITS FALSE NEIGHBOUR: 'it returns false'. Refute it at one input. -/
def regionClipsWrong : ChangeSpec := { name := "regionClips", fn := fun _ => fun
  | [d1, d2, d3, d4] => { results := [.lit (.bool false)], args := [d1, d2, d3, d4] }
  | _ => none }
def RegionClipsWrongFalsely : Prop := regionClipsRow.holds Try.pinned (OpenSpec.ofChange regionClipsWrong)

/-- 'tympanlaw32.RegionCovers': WHATEVER THE INPUT: true; the input reads as it did. -/
def regionCoversSpec : ChangeSpec := { name := "regionCovers", fn := fun _ => fun
  | [d1, d2, d3, d4] => { results := [.lit (.bool true)], args := [d1, d2, d3, d4] }
  | _ => none }
def regionCoversRow : OpenClaim := { program := "ytjgnbmgdnfldeaa", sum := "1734f0d6fe78b1f070d9f885e12a6e032ddc5bf3a065fd96ebd5056d72b6882f", func := "tympan/tympanlaw32.RegionCovers", spec := "regionCovers", unfollowed := true, recurses := true, apart := false }
def RegionCoversSaid : Prop := regionCoversRow.holds Try.pinned (OpenSpec.ofChange regionCoversSpec)

/-- ITS FALSE NEIGHBOUR: 'it returns false'. Refute it at one input. -/
def regionCoversWrong : ChangeSpec := { name := "regionCovers", fn := fun _ => fun
  | [d1, d2, d3, d4] => { results := [.lit (.bool false)], args := [d1, d2, d3, d4] }
  | _ => none }
def RegionCoversWrongFalsely : Prop := regionCoversRow.holds Try.pinned (OpenSpec.ofChange regionCoversWrong)

/- THE SECOND FORM. 'bulk': how many values and letters a reading holds, each counted each time it is reached (what is shared counts as often as it is met; a slice's spare places count too). A statement '..UptoSaid' is the law's where the arguments, and the package variables that the reading takes, are together of bulk at most 1048576: NARROWER than '..Said'. Prove '..Said' where nothing that the law and all that it calls make is longer than what came in: it says more and counts as full. Else prove '..UptoSaid'. A law counts once. -/
mutual
def uptoBulk {H : Type} : DataW H → Nat
  | .lit (.string bytes) => bytes.length + 1
  | .lit _ => 1
  | .nil => 1
  | .ptr d => uptoBulk d + 1
  | .slice elems spare => uptoBulkAll elems + uptoBulkAll spare + 1
  | .agg parts => uptoBulkAll parts + 1
  | .iface _ d => uptoBulk d + 1
  | .map entries => uptoBulkEntries entries + 1
  | .held _ => 1
def uptoBulkAll {H : Type} : List (DataW H) → Nat
  | [] => 0
  | d :: r => uptoBulk d + uptoBulkAll r
def uptoBulkEntries {H : Type} : List (Lit × DataW H) → Nat
  | [] => 0
  | x :: r => uptoBulkEntry x + uptoBulkEntries r
def uptoBulkEntry {H : Type} : Lit × DataW H → Nat
  | (.string bytes, d) => bytes.length + uptoBulk d + 1
  | (_, d) => uptoBulk d + 1
 end
def uptoSmall : (H : Type) → List (DataW H) → Bool := fun _ ds => decide (uptoBulkAll ds ≤ 1048576)
def OpenSpec.upto (s : _root_.Go.ChangeSpec) : _root_.Go.OpenSpec := { _root_.Go.OpenSpec.ofChange s with cond := some uptoSmall }

/-- 'tympanlaw32.RegionRows', WHERE WHAT IT READS IS OF BULK AT MOST 1048576: true; the input reads as it did. -/
def regionRowsUptoRow : OpenClaim := { program := "ytjgnbmgdnfldeaa", sum := "1734f0d6fe78b1f070d9f885e12a6e032ddc5bf3a065fd96ebd5056d72b6882f", func := "tympan/tympanlaw32.RegionRows", spec := "regionRows", unfollowed := true, recurses := true, apart := false, narrowed := true }
def RegionRowsUptoSaid : Prop := regionRowsUptoRow.holds Try.pinned (OpenSpec.upto regionRowsSpec)

/-- 'tympanlaw32.RegionMakes', WHERE WHAT IT READS IS OF BULK AT MOST 1048576: true; the input reads as it did. -/
def regionMakesUptoRow : OpenClaim := { program := "ytjgnbmgdnfldeaa", sum := "1734f0d6fe78b1f070d9f885e12a6e032ddc5bf3a065fd96ebd5056d72b6882f", func := "tympan/tympanlaw32.RegionMakes", spec := "regionMakes", unfollowed := true, recurses := true, apart := false, narrowed := true }
def RegionMakesUptoSaid : Prop := regionMakesUptoRow.holds Try.pinned (OpenSpec.upto regionMakesSpec)

/-- 'tympanlaw32.RegionBoxes', WHERE WHAT IT READS IS OF BULK AT MOST 1048576: true; the input reads as it did. -/
def regionBoxesUptoRow : OpenClaim := { program := "ytjgnbmgdnfldeaa", sum := "1734f0d6fe78b1f070d9f885e12a6e032ddc5bf3a065fd96ebd5056d72b6882f", func := "tympan/tympanlaw32.RegionBoxes", spec := "regionBoxes", unfollowed := true, recurses := true, apart := false, narrowed := true }
def RegionBoxesUptoSaid : Prop := regionBoxesUptoRow.holds Try.pinned (OpenSpec.upto regionBoxesSpec)

/-- 'tympanlaw32.RegionLaws', WHERE WHAT IT READS IS OF BULK AT MOST 1048576: true; the input reads as it did. -/
def regionLawsUptoRow : OpenClaim := { program := "ytjgnbmgdnfldeaa", sum := "1734f0d6fe78b1f070d9f885e12a6e032ddc5bf3a065fd96ebd5056d72b6882f", func := "tympan/tympanlaw32.RegionLaws", spec := "regionLaws", unfollowed := true, recurses := true, apart := false, narrowed := true }
def RegionLawsUptoSaid : Prop := regionLawsUptoRow.holds Try.pinned (OpenSpec.upto regionLawsSpec)

/-- 'tympanlaw32.RegionSays', WHERE WHAT IT READS IS OF BULK AT MOST 1048576: true; the input reads as it did. -/
def regionSaysUptoRow : OpenClaim := { program := "ytjgnbmgdnfldeaa", sum := "1734f0d6fe78b1f070d9f885e12a6e032ddc5bf3a065fd96ebd5056d72b6882f", func := "tympan/tympanlaw32.RegionSays", spec := "regionSays", unfollowed := true, recurses := true, apart := false, narrowed := true }
def RegionSaysUptoSaid : Prop := regionSaysUptoRow.holds Try.pinned (OpenSpec.upto regionSaysSpec)

/-- 'tympanlaw32.RegionBands', WHERE WHAT IT READS IS OF BULK AT MOST 1048576: true; the input reads as it did. -/
def regionBandsUptoRow : OpenClaim := { program := "ytjgnbmgdnfldeaa", sum := "1734f0d6fe78b1f070d9f885e12a6e032ddc5bf3a065fd96ebd5056d72b6882f", func := "tympan/tympanlaw32.RegionBands", spec := "regionBands", unfollowed := true, recurses := true, apart := false, narrowed := true }
def RegionBandsUptoSaid : Prop := regionBandsUptoRow.holds Try.pinned (OpenSpec.upto regionBandsSpec)

/-- 'tympanlaw32.RegionMoves', WHERE WHAT IT READS IS OF BULK AT MOST 1048576: true; the input reads as it did. -/
def regionMovesUptoRow : OpenClaim := { program := "ytjgnbmgdnfldeaa", sum := "1734f0d6fe78b1f070d9f885e12a6e032ddc5bf3a065fd96ebd5056d72b6882f", func := "tympan/tympanlaw32.RegionMoves", spec := "regionMoves", unfollowed := true, recurses := true, apart := false, narrowed := true }
def RegionMovesUptoSaid : Prop := regionMovesUptoRow.holds Try.pinned (OpenSpec.upto regionMovesSpec)

/-- 'tympanlaw32.RegionMasks', WHERE WHAT IT READS IS OF BULK AT MOST 1048576: true; the input reads as it did. -/
def regionMasksUptoRow : OpenClaim := { program := "ytjgnbmgdnfldeaa", sum := "1734f0d6fe78b1f070d9f885e12a6e032ddc5bf3a065fd96ebd5056d72b6882f", func := "tympan/tympanlaw32.RegionMasks", spec := "regionMasks", unfollowed := true, recurses := true, apart := false, narrowed := true }
def RegionMasksUptoSaid : Prop := regionMasksUptoRow.holds Try.pinned (OpenSpec.upto regionMasksSpec)

/-- 'tympanlaw32.RegionClips', WHERE WHAT IT READS IS OF BULK AT MOST 1048576: true; the input reads as it did. -/
def regionClipsUptoRow : OpenClaim := { program := "ytjgnbmgdnfldeaa", sum := "1734f0d6fe78b1f070d9f885e12a6e032ddc5bf3a065fd96ebd5056d72b6882f", func := "tympan/tympanlaw32.RegionClips", spec := "regionClips", unfollowed := true, recurses := true, apart := false, narrowed := true }
def RegionClipsUptoSaid : Prop := regionClipsUptoRow.holds Try.pinned (OpenSpec.upto regionClipsSpec)

/-- 'tympanlaw32.RegionCovers', WHERE WHAT IT READS IS OF BULK AT MOST 1048576: true; the input reads as it did. -/
def regionCoversUptoRow : OpenClaim := { program := "ytjgnbmgdnfldeaa", sum := "1734f0d6fe78b1f070d9f885e12a6e032ddc5bf3a065fd96ebd5056d72b6882f", func := "tympan/tympanlaw32.RegionCovers", spec := "regionCovers", unfollowed := true, recurses := true, apart := false, narrowed := true }
def RegionCoversUptoSaid : Prop := regionCoversUptoRow.holds Try.pinned (OpenSpec.upto regionCoversSpec)

end Rows
end Go.Proofs.Ytjgnbmgdnfldeaa
