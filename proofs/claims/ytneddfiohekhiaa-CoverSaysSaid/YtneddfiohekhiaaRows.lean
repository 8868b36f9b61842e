/-
  No cell of these rows narrows 'for every input' (looked for: loops, veiled, ifaces, maps, wideKeys, modest, calm, conditions, laid).
  DERIVED. THE GIVEN ROWS OF THIS SEAT. 10 by the template 'for every input the law returns true; each argument reads behind the call as it read before'; 0 by the template 'total and deterministic' (their statements: YtneddfiohekhiaaTotals.lean).
  GIVEN WITH THE SEED: the statements are not yours to turn. If you find one false, say at which input.
  Laid BY PROGRAM, IN A SANDBOX (cutbox-rows.mjs): the forced cells as the released guide's own fill.sh prints them over the translation 31a305d45adede66… (all of the seat's roots in one cut). By AI agents, Wed Nov 11 2026. No macro, syntax, notation, axiom, sorry.
-/
import Derived.Test.YtneddfiohekhiaaChecked
import GoSem.Claim
import GoSem.ClaimJoined
import GoSem.ClaimMapViews
import Derived.JoinedTies
import Derived.KernelRfl
namespace Go.Proofs.Ytneddfiohekhiaa
/- THE CELL 'sum', in the pinned program and in every row, IS THE sha256 OF THE DUMP (.gsa) THAT YtneddfiohekhiaaProg.lean LOADS. Nothing in Lean hashes anything: it is a label: what it is worth is what the hold of that sum in a sandbox is worth. -/
noncomputable def Try.pinned : Pinned := { name := "ytneddfiohekhiaa", sum := "31a305d45adede66408aea21eb12d4e6aacfa2ac48e5cf2786bffba96dc15fc9", checked := Try.checked }
namespace Rows
def none {H : Type} : Left H := { results := [], args := [] }

/-- 'tympanlaw29.CoverMasks': WHATEVER THE INPUT: true; the input reads as it did. -/
def coverMasksSpec : ChangeSpec := { name := "coverMasks", fn := fun _ => fun
  | [d1, d2, d3, d4] => { results := [.lit (.bool true)], args := [d1, d2, d3, d4] }
  | _ => none }
def coverMasksRow : OpenClaim := { program := "ytneddfiohekhiaa", sum := "31a305d45adede66408aea21eb12d4e6aacfa2ac48e5cf2786bffba96dc15fc9", func := "tympan/tympanlaw29.CoverMasks", spec := "coverMasks", unfollowed := true, recurses := true, apart := false }
def CoverMasksSaid : Prop := coverMasksRow.holds Try.pinned (OpenSpec.ofChange coverMasksSpec)

/-- ITS FALSE NEIGHBOUR: 'it returns false'. Refute it at one input. -/
def coverMasksWrong : ChangeSpec := { name := "coverMasks", fn := fun _ => fun
  | [d1, d2, d3, d4] => { results := [.lit (.bool false)], args := [d1, d2, d3, d4] }
  | _ => none }
def CoverMasksWrongFalsely : Prop := coverMasksRow.holds Try.pinned (OpenSpec.ofChange coverMasksWrong)

/-- 'tympanlaw29.CoverMade': WHATEVER THE INPUT: true; the input reads as it did. -/
def coverMadeSpec : ChangeSpec := { name := "coverMade", fn := fun _ => fun
  | [d1, d2, d3, d4] => { results := [.lit (.bool true)], args := [d1, d2, d3, d4] }
  | _ => none }
def coverMadeRow : OpenClaim := { program := "ytneddfiohekhiaa", sum := "31a305d45adede66408aea21eb12d4e6aacfa2ac48e5cf2786bffba96dc15fc9", func := "tympan/tympanlaw29.CoverMade", spec := "coverMade", unfollowed := true, recurses := true, apart := false }
def CoverMadeSaid : Prop := coverMadeRow.holds Try.pinned (OpenSpec.ofChange coverMadeSpec)

/-- ITS FALSE NEIGHBOUR: 'it returns false'. Refute it at one input. -/
def coverMadeWrong : ChangeSpec := { name := "coverMade", fn := fun _ => fun
  | [d1, d2, d3, d4] => { results := [.lit (.bool false)], args := [d1, d2, d3, d4] }
  | _ => none }
def CoverMadeWrongFalsely : Prop := coverMadeRow.holds Try.pinned (OpenSpec.ofChange coverMadeWrong)

/-- 'tympanlaw29.CoverFan': WHATEVER THE INPUT: true; the input reads as it did. -/
def coverFanSpec : ChangeSpec := { name := "coverFan", fn := fun _ => fun
  | [d1, d2, d3] => { results := [.lit (.bool true)], args := [d1, d2, d3] }
  | _ => none }
def coverFanRow : OpenClaim := { program := "ytneddfiohekhiaa", sum := "31a305d45adede66408aea21eb12d4e6aacfa2ac48e5cf2786bffba96dc15fc9", func := "tympan/tympanlaw29.CoverFan", spec := "coverFan", unfollowed := true, recurses := true, apart := false }
def CoverFanSaid : Prop := coverFanRow.holds Try.pinned (OpenSpec.ofChange coverFanSpec)

/-- ITS FALSE NEIGHBOUR: 'it returns false'. Refute it at one input. -/
def coverFanWrong : ChangeSpec := { name := "coverFan", fn := fun _ => fun
  | [d1, d2, d3] => { results := [.lit (.bool false)], args := [d1, d2, d3] }
  | _ => none }
def CoverFanWrongFalsely : Prop := coverFanRow.holds Try.pinned (OpenSpec.ofChange coverFanWrong)

/-- 'tympanlaw29.CoverWithin': WHATEVER THE INPUT: true; the input reads as it did. -/
def coverWithinSpec : ChangeSpec := { name := "coverWithin", fn := fun _ => fun
  | [d1, d2, d3] => { results := [.lit (.bool true)], args := [d1, d2, d3] }
  | _ => none }
def coverWithinRow : OpenClaim := { program := "ytneddfiohekhiaa", sum := "31a305d45adede66408aea21eb12d4e6aacfa2ac48e5cf2786bffba96dc15fc9", func := "tympan/tympanlaw29.CoverWithin", spec := "coverWithin", unfollowed := true, recurses := true, apart := false }
def CoverWithinSaid : Prop := coverWithinRow.holds Try.pinned (OpenSpec.ofChange coverWithinSpec)

/-- ITS FALSE NEIGHBOUR: 'it returns false'. Refute it at one input. -/
def coverWithinWrong : ChangeSpec := { name := "coverWithin", fn := fun _ => fun
  | [d1, d2, d3] => { results := [.lit (.bool false)], args := [d1, d2, d3] }
  | _ => none }
def CoverWithinWrongFalsely : Prop := coverWithinRow.holds Try.pinned (OpenSpec.ofChange coverWithinWrong)

/-- 'tympanlaw29.CoverMoves': WHATEVER THE INPUT: true; the input reads as it did. -/
def coverMovesSpec : ChangeSpec := { name := "coverMoves", fn := fun _ => fun
  | [d1, d2, d3] => { results := [.lit (.bool true)], args := [d1, d2, d3] }
  | _ => none }
def coverMovesRow : OpenClaim := { program := "ytneddfiohekhiaa", sum := "31a305d45adede66408aea21eb12d4e6aacfa2ac48e5cf2786bffba96dc15fc9", func := "tympan/tympanlaw29.CoverMoves", spec := "coverMoves", unfollowed := true, recurses := true, apart := false }
def CoverMovesSaid : Prop := coverMovesRow.holds Try.pinned (OpenSpec.ofChange coverMovesSpec)

/-- ITS FALSE NEIGHBOUR: 'it returns false'. Refute it at one input. -/
def coverMovesWrong : ChangeSpec := { name := "coverMoves", fn := fun _ => fun
  | [d1, d2, d3] => { results := [.lit (.bool false)], args := [d1, d2, d3] }
  | _ => none }
def CoverMovesWrongFalsely : Prop := coverMovesRow.holds Try.pinned (OpenSpec.ofChange coverMovesWrong)

/-- 'tympanlaw29.CoverSides': WHATEVER THE INPUT: true; the input reads as it did. -/
def coverSidesSpec : ChangeSpec := { name := "coverSides", fn := fun _ => fun
  | [d1, d2] => { results := [.lit (.bool true)], args := [d1, d2] }
  | _ => none }
def coverSidesRow : OpenClaim := { program := "ytneddfiohekhiaa", sum := "31a305d45adede66408aea21eb12d4e6aacfa2ac48e5cf2786bffba96dc15fc9", func := "tympan/tympanlaw29.CoverSides", spec := "coverSides", unfollowed := true, recurses := true, apart := false }
def CoverSidesSaid : Prop := coverSidesRow.holds Try.pinned (OpenSpec.ofChange coverSidesSpec)

/-- ITS FALSE NEIGHBOUR: 'it returns false'. Refute it at one input. -/
def coverSidesWrong : ChangeSpec := { name := "coverSides", fn := fun _ => fun
  | [d1, d2] => { results := [.lit (.bool false)], args := [d1, d2] }
  | _ => none }
def CoverSidesWrongFalsely : Prop := coverSidesRow.holds Try.pinned (OpenSpec.ofChange coverSidesWrong)

/-- 'tympanlaw29.CoverSays': WHATEVER THE INPUT: true; the input reads as it did. -/
def coverSaysSpec : ChangeSpec := { name := "coverSays", fn := fun _ => fun
  | [d1, d2, d3, d4] => { results := [.lit (.bool true)], args := [d1, d2, d3, d4] }
  | _ => none }
def coverSaysRow : OpenClaim := { program := "ytneddfiohekhiaa", sum := "31a305d45adede66408aea21eb12d4e6aacfa2ac48e5cf2786bffba96dc15fc9", func := "tympan/tympanlaw29.CoverSays", spec := "coverSays", unfollowed := true, recurses := true, apart := false }
def CoverSaysSaid : Prop := coverSaysRow.holds Try.pinned (OpenSpec.ofChange coverSaysSpec)

/-- ITS FALSE NEIGHBOUR: 'it returns false'. Refute it at one input. -/
def coverSaysWrong : ChangeSpec := { name := "coverSays", fn := fun _ => fun
  | [d1, d2, d3, d4] => { results := [.lit (.bool false)], args := [d1, d2, d3, d4] }
  | _ => none }
def CoverSaysWrongFalsely : Prop := coverSaysRow.holds Try.pinned (OpenSpec.ofChange coverSaysWrong)

/-- 'tympanlaw29.CoverBoxes': WHATEVER THE INPUT: true; the input reads as it did. -/
def coverBoxesSpec : ChangeSpec := { name := "coverBoxes", fn := fun _ => fun
  | [d1, d2] => { results := [.lit (.bool true)], args := [d1, d2] }
  | _ => none }
def coverBoxesRow : OpenClaim := { program := "ytneddfiohekhiaa", sum := "31a305d45adede66408aea21eb12d4e6aacfa2ac48e5cf2786bffba96dc15fc9", func := "tympan/tympanlaw29.CoverBoxes", spec := "coverBoxes", unfollowed := true, recurses := true, apart := false }
def CoverBoxesSaid : Prop := coverBoxesRow.holds Try.pinned (OpenSpec.ofChange coverBoxesSpec)

/-- ITS FALSE NEIGHBOUR: 'it returns false'. Refute it at one input. -/
def coverBoxesWrong : ChangeSpec := { name := "coverBoxes", fn := fun _ => fun
  | [d1, d2] => { results := [.lit (.bool false)], args := [d1, d2] }
  | _ => none }
def CoverBoxesWrongFalsely : Prop := coverBoxesRow.holds Try.pinned (OpenSpec.ofChange coverBoxesWrong)

/-- 'tympanlaw29.CoverRounds': WHATEVER THE INPUT: true; the input reads as it did. -/
def coverRoundsSpec : ChangeSpec := { name := "coverRounds", fn := fun _ => fun
  | [d1, d2, d3] => { results := [.lit (.bool true)], args := [d1, d2, d3] }
  | _ => none }
def coverRoundsRow : OpenClaim := { program := "ytneddfiohekhiaa", sum := "31a305d45adede66408aea21eb12d4e6aacfa2ac48e5cf2786bffba96dc15fc9", func := "tympan/tympanlaw29.CoverRounds", spec := "coverRounds", unfollowed := true, recurses := true, apart := false }
def CoverRoundsSaid : Prop := coverRoundsRow.holds Try.pinned (OpenSpec.ofChange coverRoundsSpec)

/-- ITS FALSE NEIGHBOUR: 'it returns false'. Refute it at one input. -/
def coverRoundsWrong : ChangeSpec := { name := "coverRounds", fn := fun _ => fun
  | [d1, d2, d3] => { results := [.lit (.bool false)], args := [d1, d2, d3] }
  | _ => none }
def CoverRoundsWrongFalsely : Prop := coverRoundsRow.holds Try.pinned (OpenSpec.ofChange coverRoundsWrong)

/-- 'tympanlaw29.CoverSums': WHATEVER THE INPUT: true; the input reads as it did. -/
def coverSumsSpec : ChangeSpec := { name := "coverSums", fn := fun _ => fun
  | [d1, d2] => { results := [.lit (.bool true)], args := [d1, d2] }
  | _ => none }
def coverSumsRow : OpenClaim := { program := "ytneddfiohekhiaa", sum := "31a305d45adede66408aea21eb12d4e6aacfa2ac48e5cf2786bffba96dc15fc9", func := "tympan/tympanlaw29.CoverSums", spec := "coverSums", unfollowed := true, recurses := true, apart := false }
def CoverSumsSaid : Prop := coverSumsRow.holds Try.pinned (OpenSpec.ofChange coverSumsSpec)

/-- ITS FALSE NEIGHBOUR: 'it returns false'. Refute it at one input. -/
def coverSumsWrong : ChangeSpec := { name := "coverSums", fn := fun _ => fun
  | [d1, d2] => { results := [.lit (.bool false)], args := [d1, d2] }
  | _ => none }
def CoverSumsWrongFalsely : Prop := coverSumsRow.holds Try.pinned (OpenSpec.ofChange coverSumsWrong)

/- THE SECOND FORM. 'bulk': how many values and letters a reading holds, each counted each time it is reached (what is shared counts as often as it is met; a slice's spare places count too). A statement '..UptoSaid' is the law's where the arguments, and the package variables that the reading takes, are together of bulk at most 1048576: NARROWER than '..Said'. Prove '..Said' where nothing that the law and all that it calls make is longer than what came in: it says more and counts as full. Else prove '..UptoSaid'. A law counts once. -/
mutual
def uptoBulk {H : Type} : DataW H → Nat
  | .lit (.string bytes) => bytes.length + 1
  | .lit _ => 1
  | .nil => 1
  | .ptr d => uptoBulk d + 1
  | .slice elems spare => uptoBulkAll elems + uptoBulkAll spare + 1
  | .agg parts => uptoBulkAll parts + 1
  | .iface _ d => uptoBulk d + 1
  | .map entries => uptoBulkEntries entries + 1
  | .held _ => 1
def uptoBulkAll {H : Type} : List (DataW H) → Nat
  | [] => 0
  | d :: r => uptoBulk d + uptoBulkAll r
def uptoBulkEntries {H : Type} : List (Lit × DataW H) → Nat
  | [] => 0
  | x :: r => uptoBulkEntry x + uptoBulkEntries r
def uptoBulkEntry {H : Type} : Lit × DataW H → Nat
  | (.string bytes, d) => bytes.length + uptoBulk d + 1
  | (_, d) => uptoBulk d + 1
 end
def uptoSmall : (H : Type) → List (DataW H) → Bool := fun _ ds => decide (uptoBulkAll ds ≤ 1048576)
def OpenSpec.upto (s : _root_.Go.ChangeSpec) : _root_.Go.OpenSpec := { _root_.Go.OpenSpec.ofChange s with cond := some uptoSmall }

/-- 'tympanlaw29.CoverMasks', WHERE WHAT IT READS IS OF BULK AT MOST 1048576: true; the input reads as it did. -/
def coverMasksUptoRow : OpenClaim := { program := "ytneddfiohekhiaa", sum := "31a305d45adede66408aea21eb12d4e6aacfa2ac48e5cf2786bffba96dc15fc9", func := "tympan/tympanlaw29.CoverMasks", spec := "coverMasks", unfollowed := true, recurses := true, apart := false, narrowed := true }
def CoverMasksUptoSaid : Prop := coverMasksUptoRow.holds Try.pinned (OpenSpec.upto coverMasksSpec)

/-- 'tympanlaw29.CoverMade', WHERE WHAT IT READS IS OF BULK AT MOST 1048576: true; the input reads as it did. -/
def coverMadeUptoRow : OpenClaim := { program := "ytneddfiohekhiaa", sum := "31a305d45adede66408aea21eb12d4e6aacfa2ac48e5cf2786bffba96dc15fc9", func := "tympan/tympanlaw29.CoverMade", spec := "coverMade", unfollowed := true, recurses := true, apart := false, narrowed := true }
def CoverMadeUptoSaid : Prop := coverMadeUptoRow.holds Try.pinned (OpenSpec.upto coverMadeSpec)

/-- 'tympanlaw29.CoverFan', WHERE WHAT IT READS IS OF BULK AT MOST 1048576: true; the input reads as it did. -/
def coverFanUptoRow : OpenClaim := { program := "ytneddfiohekhiaa", sum := "31a305d45adede66408aea21eb12d4e6aacfa2ac48e5cf2786bffba96dc15fc9", func := "tympan/tympanlaw29.CoverFan", spec := "coverFan", unfollowed := true, recurses := true, apart := false, narrowed := true }
def CoverFanUptoSaid : Prop := coverFanUptoRow.holds Try.pinned (OpenSpec.upto coverFanSpec)

/-- 'tympanlaw29.CoverWithin', WHERE WHAT IT READS IS OF BULK AT MOST 1048576: true; the input reads as it did. -/
def coverWithinUptoRow : OpenClaim := { program := "ytneddfiohekhiaa", sum := "31a305d45adede66408aea21eb12d4e6aacfa2ac48e5cf2786bffba96dc15fc9", func := "tympan/tympanlaw29.CoverWithin", spec := "coverWithin", unfollowed := true, recurses := true, apart := false, narrowed := true }
def CoverWithinUptoSaid : Prop := coverWithinUptoRow.holds Try.pinned (OpenSpec.upto coverWithinSpec)

/-- 'tympanlaw29.CoverMoves', WHERE WHAT IT READS IS OF BULK AT MOST 1048576: true; the input reads as it did. -/
def coverMovesUptoRow : OpenClaim := { program := "ytneddfiohekhiaa", sum := "31a305d45adede66408aea21eb12d4e6aacfa2ac48e5cf2786bffba96dc15fc9", func := "tympan/tympanlaw29.CoverMoves", spec := "coverMoves", unfollowed := true, recurses := true, apart := false, narrowed := true }
def CoverMovesUptoSaid : Prop := coverMovesUptoRow.holds Try.pinned (OpenSpec.upto coverMovesSpec)

/-- 'tympanlaw29.CoverSides', WHERE WHAT IT READS IS OF BULK AT MOST 1048576: true; the input reads as it did. -/
def coverSidesUptoRow : OpenClaim := { program := "ytneddfiohekhiaa", sum := "31a305d45adede66408aea21eb12d4e6aacfa2ac48e5cf2786bffba96dc15fc9", func := "tympan/tympanlaw29.CoverSides", spec := "coverSides", unfollowed := true, recurses := true, apart := false, narrowed := true }
def CoverSidesUptoSaid : Prop := coverSidesUptoRow.holds Try.pinned (OpenSpec.upto coverSidesSpec)

/-- 'tympanlaw29.CoverSays', WHERE WHAT IT READS IS OF BULK AT MOST 1048576: true; the input reads as it did. -/
def coverSaysUptoRow : OpenClaim := { program := "ytneddfiohekhiaa", sum := "31a305d45adede66408aea21eb12d4e6aacfa2ac48e5cf2786bffba96dc15fc9", func := "tympan/tympanlaw29.CoverSays", spec := "coverSays", unfollowed := true, recurses := true, apart := false, narrowed := true }
def CoverSaysUptoSaid : Prop := coverSaysUptoRow.holds Try.pinned (OpenSpec.upto coverSaysSpec)

/-- 'tympanlaw29.CoverBoxes', WHERE WHAT IT READS IS OF BULK AT MOST 1048576: true; the input reads as it did. -/
def coverBoxesUptoRow : OpenClaim := { program := "ytneddfiohekhiaa", sum := "31a305d45adede66408aea21eb12d4e6aacfa2ac48e5cf2786bffba96dc15fc9", func := "tympan/tympanlaw29.CoverBoxes", spec := "coverBoxes", unfollowed := true, recurses := true, apart := false, narrowed := true }
def CoverBoxesUptoSaid : Prop := coverBoxesUptoRow.holds Try.pinned (OpenSpec.upto coverBoxesSpec)

/-- 'tympanlaw29.CoverRounds', WHERE WHAT IT READS IS OF BULK AT MOST 1048576: true; the input reads as it did. -/
def coverRoundsUptoRow : OpenClaim := { program := "ytneddfiohekhiaa", sum := "31a305d45adede66408aea21eb12d4e6aacfa2ac48e5cf2786bffba96dc15fc9", func := "tympan/tympanlaw29.CoverRounds", spec := "coverRounds", unfollowed := true, recurses := true, apart := false, narrowed := true }
def CoverRoundsUptoSaid : Prop := coverRoundsUptoRow.holds Try.pinned (OpenSpec.upto coverRoundsSpec)

/-- 'tympanlaw29.CoverSums', WHERE WHAT IT READS IS OF BULK AT MOST 1048576: true; the input reads as it did. -/
def coverSumsUptoRow : OpenClaim := { program := "ytneddfiohekhiaa", sum := "31a305d45adede66408aea21eb12d4e6aacfa2ac48e5cf2786bffba96dc15fc9", func := "tympan/tympanlaw29.CoverSums", spec := "coverSums", unfollowed := true, recurses := true, apart := false, narrowed := true }
def CoverSumsUptoSaid : Prop := coverSumsUptoRow.holds Try.pinned (OpenSpec.upto coverSumsSpec)

end Rows
end Go.Proofs.Ytneddfiohekhiaa
