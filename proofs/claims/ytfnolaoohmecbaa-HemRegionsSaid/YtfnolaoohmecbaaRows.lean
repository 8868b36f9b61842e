/-
  No cell of these rows narrows 'for every input' (looked for: loops, veiled, ifaces, maps, wideKeys, modest, calm, conditions, laid).
  DERIVED. THE GIVEN ROWS OF THIS SEAT. 9 by the template 'for every input the law returns true; each argument reads behind the call as it read before'; 0 by the template 'total and deterministic' (their statements: YtfnolaoohmecbaaTotals.lean).
  GIVEN WITH THE SEED: the statements are not yours to turn. If you find one false, say at which input.
  Laid BY PROGRAM, IN A SANDBOX (cutbox-rows.mjs): the forced cells as the released guide's own fill.sh prints them over the translation d5ba3f07ce021bad… (all of the seat's roots in one cut). By AI agents, Wed Nov 11 2026. No macro, syntax, notation, axiom, sorry.
-/
import Derived.Test.YtfnolaoohmecbaaChecked
import GoSem.Claim
import GoSem.ClaimJoined
import GoSem.ClaimMapViews
import Derived.JoinedTies
import Derived.KernelRfl
namespace Go.Proofs.Ytfnolaoohmecbaa
/- THE CELL 'sum', in the pinned program and in every row, IS THE sha256 OF THE DUMP (.gsa) THAT YtfnolaoohmecbaaProg.lean LOADS. Nothing in Lean hashes anything: it is a label: what it is worth is what the hold of that sum in a sandbox is worth. -/
noncomputable def Try.pinned : Pinned := { name := "ytfnolaoohmecbaa", sum := "d5ba3f07ce021bad4864c33c8ba597ba0ce6398856cdfe2589abf528924177c7", checked := Try.checked }
namespace Rows
def none {H : Type} : Left H := { results := [], args := [] }

/-- 'tympanlaw34.HemLines': WHATEVER THE INPUT: true; the input reads as it did. -/
def hemLinesSpec : ChangeSpec := { name := "hemLines", fn := fun _ => fun
  | [d1, d2, d3, d4] => { results := [.lit (.bool true)], args := [d1, d2, d3, d4] }
  | _ => none }
def hemLinesRow : OpenClaim := { program := "ytfnolaoohmecbaa", sum := "d5ba3f07ce021bad4864c33c8ba597ba0ce6398856cdfe2589abf528924177c7", func := "tympan/tympanlaw34.HemLines", spec := "hemLines", unfollowed := true, recurses := true, apart := false }
def HemLinesSaid : Prop := hemLinesRow.holds Try.pinned (OpenSpec.ofChange hemLinesSpec)

/-- ITS FALSE NEIGHBOUR: 'it returns false'. Refute it at one input. -/
def hemLinesWrong : ChangeSpec := { name := "hemLines", fn := fun _ => fun
  | [d1, d2, d3, d4] => { results := [.lit (.bool false)], args := [d1, d2, d3, d4] }
  | _ => none }
def HemLinesWrongFalsely : Prop := hemLinesRow.holds Try.pinned (OpenSpec.ofChange hemLinesWrong)

/-- 'tympanlaw34.HemRegions': WHATEVER THE INPUT: true; the input reads as it did. -/
def hemRegionsSpec : ChangeSpec := { name := "hemRegions", fn := fun _ => fun
  | [d1, d2, d3, d4] => { results := [.lit (.bool true)], args := [d1, d2, d3, d4] }
  | _ => none }
def hemRegionsRow : OpenClaim := { program := "ytfnolaoohmecbaa", sum := "d5ba3f07ce021bad4864c33c8ba597ba0ce6398856cdfe2589abf528924177c7", func := "tympan/tympanlaw34.HemRegions", spec := "hemRegions", unfollowed := true, recurses := true, apart := false }
def HemRegionsSaid : Prop := hemRegionsRow.holds Try.pinned (OpenSpec.ofChange hemRegionsSpec)

/-- ITS FALSE NEIGHBOUR: 'it returns false'. Refute it at one input. -/
def hemRegionsWrong : ChangeSpec := { name := "hemRegions", fn := fun _ => fun
  | [d1, d2, d3, d4] => { results := [.lit (.bool false)], args := [d1, d2, d3, d4] }
  | _ => none }
def HemRegionsWrongFalsely : Prop := hemRegionsRow.holds Try.pinned (OpenSpec.ofChange hemRegionsWrong)

/-- 'tympanlaw34.HemDisc': WHATEVER THE INPUT: true; the input reads as it did. -/
def hemDiscSpec : ChangeSpec := { name := "hemDisc", fn := fun _ => fun
  | [d1, d2, d3, d4] => { results := [.lit (.bool true)], args := [d1, d2, d3, d4] }
  | _ => none }
def hemDiscRow : OpenClaim := { program := "ytfnolaoohmecbaa", sum := "d5ba3f07ce021bad4864c33c8ba597ba0ce6398856cdfe2589abf528924177c7", func := "tympan/tympanlaw34.HemDisc", spec := "hemDisc", unfollowed := true, recurses := true, apart := false }
def HemDiscSaid : Prop := hemDiscRow.holds Try.pinned (OpenSpec.ofChange hemDiscSpec)

/-- ITS FALSE NEIGHBOUR: 'it returns false'. Refute it at one input. -/
def hemDiscWrong : ChangeSpec := { name := "hemDisc", fn := fun _ => fun
  | [d1, d2, d3, d4] => { results := [.lit (.bool false)], args := [d1, d2, d3, d4] }
  | _ => none }
def HemDiscWrongFalsely : Prop := hemDiscRow.holds Try.pinned (OpenSpec.ofChange hemDiscWrong)

/-- 'tympanlaw34.HemFrames': WHATEVER THE INPUT: true; the input reads as it did. -/
def hemFramesSpec : ChangeSpec := { name := "hemFrames", fn := fun _ => fun
  | [d1, d2] => { results := [.lit (.bool true)], args := [d1, d2] }
  | _ => none }
def hemFramesRow : OpenClaim := { program := "ytfnolaoohmecbaa", sum := "d5ba3f07ce021bad4864c33c8ba597ba0ce6398856cdfe2589abf528924177c7", func := "tympan/tympanlaw34.HemFrames", spec := "hemFrames", unfollowed := true, recurses := true, apart := false }
def HemFramesSaid : Prop := hemFramesRow.holds Try.pinned (OpenSpec.ofChange hemFramesSpec)

/-- ITS FALSE NEIGHBOUR: 'it returns false'. Refute it at one input. -/
def hemFramesWrong : ChangeSpec := { name := "hemFrames", fn := fun _ => fun
  | [d1, d2] => { results := [.lit (.bool false)], args := [d1, d2] }
  | _ => none }
def HemFramesWrongFalsely : Prop := hemFramesRow.holds Try.pinned (OpenSpec.ofChange hemFramesWrong)

/-- 'tympanlaw34.HemPieces': WHATEVER THE INPUT: true; the input reads as it did. -/
def hemPiecesSpec : ChangeSpec := { name := "hemPieces", fn := fun _ => fun
  | [d1, d2, d3, d4, d5] => { results := [.lit (.bool true)], args := [d1, d2, d3, d4, d5] }
  | _ => none }
def hemPiecesRow : OpenClaim := { program := "ytfnolaoohmecbaa", sum := "d5ba3f07ce021bad4864c33c8ba597ba0ce6398856cdfe2589abf528924177c7", func := "tympan/tympanlaw34.HemPieces", spec := "hemPieces", unfollowed := true, recurses := true, apart := false }
def HemPiecesSaid : Prop := hemPiecesRow.holds Try.pinned (OpenSpec.ofChange hemPiecesSpec)

/-- ITS FALSE NEIGHBOUR: 'it returns false'. Refute it at one input. -/
def hemPiecesWrong : ChangeSpec := { name := "hemPieces", fn := fun _ => fun
  | [d1, d2, d3, d4, d5] => { results := [.lit (.bool false)], args := [d1, d2, d3, d4, d5] }
  | _ => none }
def HemPiecesWrongFalsely : Prop := hemPiecesRow.holds Try.pinned (OpenSpec.ofChange hemPiecesWrong)

/-- 'tympanlaw34.HemWider': WHATEVER THE INPUT: true; the input reads as it did. -/
def hemWiderSpec : ChangeSpec := { name := "hemWider", fn := fun _ => fun
  | [d1, d2, d3, d4] => { results := [.lit (.bool true)], args := [d1, d2, d3, d4] }
  | _ => none }
def hemWiderRow : OpenClaim := { program := "ytfnolaoohmecbaa", sum := "d5ba3f07ce021bad4864c33c8ba597ba0ce6398856cdfe2589abf528924177c7", func := "tympan/tympanlaw34.HemWider", spec := "hemWider", unfollowed := true, recurses := true, apart := false }
def HemWiderSaid : Prop := hemWiderRow.holds Try.pinned (OpenSpec.ofChange hemWiderSpec)

/-- ITS FALSE NEIGHBOUR: 'it returns false'. Refute it at one input. -/
def hemWiderWrong : ChangeSpec := { name := "hemWider", fn := fun _ => fun
  | [d1, d2, d3, d4] => { results := [.lit (.bool false)], args := [d1, d2, d3, d4] }
  | _ => none }
def HemWiderWrongFalsely : Prop := hemWiderRow.holds Try.pinned (OpenSpec.ofChange hemWiderWrong)

/-- 'tympanlaw34.HemMoves': WHATEVER THE INPUT: true; the input reads as it did. -/
def hemMovesSpec : ChangeSpec := { name := "hemMoves", fn := fun _ => fun
  | [d1, d2, d3, d4, d5, d6] => { results := [.lit (.bool true)], args := [d1, d2, d3, d4, d5, d6] }
  | _ => none }
def hemMovesRow : OpenClaim := { program := "ytfnolaoohmecbaa", sum := "d5ba3f07ce021bad4864c33c8ba597ba0ce6398856cdfe2589abf528924177c7", func := "tympan/tympanlaw34.HemMoves", spec := "hemMoves", unfollowed := true, recurses := true, apart := false }
def HemMovesSaid : Prop := hemMovesRow.holds Try.pinned (OpenSpec.ofChange hemMovesSpec)

/-- ITS FALSE NEIGHBOUR: 'it returns false'. Refute it at one input. -/
def hemMovesWrong : ChangeSpec := { name := "hemMoves", fn := fun _ => fun
  | [d1, d2, d3, d4, d5, d6] => { results := [.lit (.bool false)], args := [d1, d2, d3, d4, d5, d6] }
  | _ => none }
def HemMovesWrongFalsely : Prop := hemMovesRow.holds Try.pinned (OpenSpec.ofChange hemMovesWrong)

/-- 'tympanlaw34.HemPoints': WHATEVER THE INPUT: true; the input reads as it did. -/
def hemPointsSpec : ChangeSpec := { name := "hemPoints", fn := fun _ => fun
  | [d1, d2, d3] => { results := [.lit (.bool true)], args := [d1, d2, d3] }
  | _ => none }
def hemPointsRow : OpenClaim := { program := "ytfnolaoohmecbaa", sum := "d5ba3f07ce021bad4864c33c8ba597ba0ce6398856cdfe2589abf528924177c7", func := "tympan/tympanlaw34.HemPoints", spec := "hemPoints", unfollowed := true, recurses := true, apart := false }
def HemPointsSaid : Prop := hemPointsRow.holds Try.pinned (OpenSpec.ofChange hemPointsSpec)

/-- ITS FALSE NEIGHBOUR: 'it returns false'. Refute it at one input. -/
def hemPointsWrong : ChangeSpec := { name := "hemPoints", fn := fun _ => fun
  | [d1, d2, d3] => { results := [.lit (.bool false)], args := [d1, d2, d3] }
  | _ => none }
def HemPointsWrongFalsely : Prop := hemPointsRow.holds Try.pinned (OpenSpec.ofChange hemPointsWrong)

/-- 'tympanlaw34.HemStrokes': WHATEVER THE INPUT: true; the input reads as it did. -/
def hemStrokesSpec : ChangeSpec := { name := "hemStrokes", fn := fun _ => fun
  | [d1, d2, d3, d4] => { results := [.lit (.bool true)], args := [d1, d2, d3, d4] }
  | _ => none }
def hemStrokesRow : OpenClaim := { program := "ytfnolaoohmecbaa", sum := "d5ba3f07ce021bad4864c33c8ba597ba0ce6398856cdfe2589abf528924177c7", func := "tympan/tympanlaw34.HemStrokes", spec := "hemStrokes", unfollowed := true, recurses := true, apart := false }
def HemStrokesSaid : Prop := hemStrokesRow.holds Try.pinned (OpenSpec.ofChange hemStrokesSpec)

/-- ITS FALSE NEIGHBOUR: 'it returns false'. Refute it at one input. -/
def hemStrokesWrong : ChangeSpec := { name := "hemStrokes", fn := fun _ => fun
  | [d1, d2, d3, d4] => { results := [.lit (.bool false)], args := [d1, d2, d3, d4] }
  | _ => none }
def HemStrokesWrongFalsely : Prop := hemStrokesRow.holds Try.pinned (OpenSpec.ofChange hemStrokesWrong)

/- THE SECOND FORM. 'bulk': how many values and letters a reading holds, each counted each time it is reached (what is shared counts as often as it is met; a slice's spare places count too). A statement '..UptoSaid' is the law's where the arguments, and the package variables that the reading takes, are together of bulk at most 1048576: NARROWER than '..Said'. Prove '..Said' where nothing that the law and all that it calls make is longer than what came in: it says more and counts as full. Else prove '..UptoSaid'. A law counts once. -/
mutual
def uptoBulk {H : Type} : DataW H → Nat
  | .lit (.string bytes) => bytes.length + 1
  | .lit _ => 1
  | .nil => 1
  | .ptr d => uptoBulk d + 1
  | .slice elems spare => uptoBulkAll elems + uptoBulkAll spare + 1
  | .agg parts => uptoBulkAll parts + 1
  | .iface _ d => uptoBulk d + 1
  | .map entries => uptoBulkEntries entries + 1
  | .held _ => 1
def uptoBulkAll {H : Type} : List (DataW H) → Nat
  | [] => 0
  | d :: r => uptoBulk d + uptoBulkAll r
def uptoBulkEntries {H : Type} : List (Lit × DataW H) → Nat
  | [] => 0
  | x :: r => uptoBulkEntry x + uptoBulkEntries r
def uptoBulkEntry {H : Type} : Lit × DataW H → Nat
  | (.string bytes, d) => bytes.length + uptoBulk d + 1
  | (_, d) => uptoBulk d + 1
 end
def uptoSmall : (H : Type) → List (DataW H) → Bool := fun _ ds => decide (uptoBulkAll ds ≤ 1048576)
def OpenSpec.upto (s : _root_.Go.ChangeSpec) : _root_.Go.OpenSpec := { _root_.Go.OpenSpec.ofChange s with cond := some uptoSmall }

/-- 'tympanlaw34.HemLines', WHERE WHAT IT READS IS OF BULK AT MOST 1048576: true; the input reads as it did. -/
def hemLinesUptoRow : OpenClaim := { program := "ytfnolaoohmecbaa", sum := "d5ba3f07ce021bad4864c33c8ba597ba0ce6398856cdfe2589abf528924177c7", func := "tympan/tympanlaw34.HemLines", spec := "hemLines", unfollowed := true, recurses := true, apart := false, narrowed := true }
def HemLinesUptoSaid : Prop := hemLinesUptoRow.holds Try.pinned (OpenSpec.upto hemLinesSpec)

/-- 'tympanlaw34.HemRegions', WHERE WHAT IT READS IS OF BULK AT MOST 1048576: true; the input reads as it did. -/
def hemRegionsUptoRow : OpenClaim := { program := "ytfnolaoohmecbaa", sum := "d5ba3f07ce021bad4864c33c8ba597ba0ce6398856cdfe2589abf528924177c7", func := "tympan/tympanlaw34.HemRegions", spec := "hemRegions", unfollowed := true, recurses := true, apart := false, narrowed := true }
def HemRegionsUptoSaid : Prop := hemRegionsUptoRow.holds Try.pinned (OpenSpec.upto hemRegionsSpec)

/-- 'tympanlaw34.HemDisc', WHERE WHAT IT READS IS OF BULK AT MOST 1048576: true; the input reads as it did. -/
def hemDiscUptoRow : OpenClaim := { program := "ytfnolaoohmecbaa", sum := "d5ba3f07ce021bad4864c33c8ba597ba0ce6398856cdfe2589abf528924177c7", func := "tympan/tympanlaw34.HemDisc", spec := "hemDisc", unfollowed := true, recurses := true, apart := false, narrowed := true }
def HemDiscUptoSaid : Prop := hemDiscUptoRow.holds Try.pinned (OpenSpec.upto hemDiscSpec)

/-- 'tympanlaw34.HemFrames', WHERE WHAT IT READS IS OF BULK AT MOST 1048576: true; the input reads as it did. -/
def hemFramesUptoRow : OpenClaim := { program := "ytfnolaoohmecbaa", sum := "d5ba3f07ce021bad4864c33c8ba597ba0ce6398856cdfe2589abf528924177c7", func := "tympan/tympanlaw34.HemFrames", spec := "hemFrames", unfollowed := true, recurses := true, apart := false, narrowed := true }
def HemFramesUptoSaid : Prop := hemFramesUptoRow.holds Try.pinned (OpenSpec.upto hemFramesSpec)

/-- 'tympanlaw34.HemPieces', WHERE WHAT IT READS IS OF BULK AT MOST 1048576: true; the input reads as it did. -/
def hemPiecesUptoRow : OpenClaim := { program := "ytfnolaoohmecbaa", sum := "d5ba3f07ce021bad4864c33c8ba597ba0ce6398856cdfe2589abf528924177c7", func := "tympan/tympanlaw34.HemPieces", spec := "hemPieces", unfollowed := true, recurses := true, apart := false, narrowed := true }
def HemPiecesUptoSaid : Prop := hemPiecesUptoRow.holds Try.pinned (OpenSpec.upto hemPiecesSpec)

/-- 'tympanlaw34.HemWider', WHERE WHAT IT READS IS OF BULK AT MOST 1048576: true; the input reads as it did. -/
def hemWiderUptoRow : OpenClaim := { program := "ytfnolaoohmecbaa", sum := "d5ba3f07ce021bad4864c33c8ba597ba0ce6398856cdfe2589abf528924177c7", func := "tympan/tympanlaw34.HemWider", spec := "hemWider", unfollowed := true, recurses := true, apart := false, narrowed := true }
def HemWiderUptoSaid : Prop := hemWiderUptoRow.holds Try.pinned (OpenSpec.upto hemWiderSpec)

/-- 'tympanlaw34.HemMoves', WHERE WHAT IT READS IS OF BULK AT MOST 1048576: true; the input reads as it did. -/
def hemMovesUptoRow : OpenClaim := { program := "ytfnolaoohmecbaa", sum := "d5ba3f07ce021bad4864c33c8ba597ba0ce6398856cdfe2589abf528924177c7", func := "tympan/tympanlaw34.HemMoves", spec := "hemMoves", unfollowed := true, recurses := true, apart := false, narrowed := true }
def HemMovesUptoSaid : Prop := hemMovesUptoRow.holds Try.pinned (OpenSpec.upto hemMovesSpec)

/-- 'tympanlaw34.HemPoints', WHERE WHAT IT READS IS OF BULK AT MOST 1048576: true; the input reads as it did. -/
def hemPointsUptoRow : OpenClaim := { program := "ytfnolaoohmecbaa", sum := "d5ba3f07ce021bad4864c33c8ba597ba0ce6398856cdfe2589abf528924177c7", func := "tympan/tympanlaw34.HemPoints", spec := "hemPoints", unfollowed := true, recurses := true, apart := false, narrowed := true }
def HemPointsUptoSaid : Prop := hemPointsUptoRow.holds Try.pinned (OpenSpec.upto hemPointsSpec)

/-- 'tympanlaw34.HemStrokes', WHERE WHAT IT READS IS OF BULK AT MOST 1048576: true; the input reads as it did. -/
def hemStrokesUptoRow : OpenClaim := { program := "ytfnolaoohmecbaa", sum := "d5ba3f07ce021bad4864c33c8ba597ba0ce6398856cdfe2589abf528924177c7", func := "tympan/tympanlaw34.HemStrokes", spec := "hemStrokes", unfollowed := true, recurses := true, apart := false, narrowed := true }
def HemStrokesUptoSaid : Prop := hemStrokesUptoRow.holds Try.pinned (OpenSpec.upto hemStrokesSpec)

end Rows
end Go.Proofs.Ytfnolaoohmecbaa
