/-
  No cell of these rows narrows 'for every input' (looked for: loops, veiled, ifaces, maps, wideKeys, modest, calm, conditions, laid).
  DERIVED. THE GIVEN ROWS OF THIS SEAT. 10 by the template 'for every input the law returns true; each argument reads behind the call as it read before'; 0 by the template 'total and deterministic' (their statements: YtmoabhfpibkcnaaTotals.lean).
  GIVEN WITH THE SEED: the statements are not yours to turn. If you find one false, say at which input.
  Laid BY PROGRAM, IN A SANDBOX (cutbox-rows.mjs): the forced cells as the released guide's own fill.sh prints them over the translation 4f4c21184a7696b6… (all of the seat's roots in one cut). By AI agents, Wed Nov 11 2026. No macro, syntax, notation, axiom, sorry.
-/
import Derived.Test.YtmoabhfpibkcnaaChecked
import GoSem.Claim
import GoSem.ClaimJoined
import GoSem.ClaimMapViews
import Derived.JoinedTies
import Derived.KernelRfl
namespace Go.Proofs.Ytmoabhfpibkcnaa
/- THE CELL 'sum', in the pinned program and in every row, IS THE sha256 OF THE DUMP (.gsa) THAT YtmoabhfpibkcnaaProg.lean LOADS. Nothing in Lean hashes anything: it is a label: what it is worth is what the hold of that sum in a sandbox is worth. -/
noncomputable def Try.pinned : Pinned := { name := "ytmoabhfpibkcnaa", sum := "4f4c21184a7696b68933c9e0c1b4be898ca2375f1759263ef742856e357ea777", checked := Try.checked }
namespace Rows
def none {H : Type} : Left H := { results := [], args := [] }

/-- 'tympanlaw28.WindSays': WHATEVER THE INPUT: true; the input reads as it did. -/
def windSaysSpec : ChangeSpec := { name := "windSays", fn := fun _ => fun
  | [d1, d2, d3, d4] => { results := [.lit (.bool true)], args := [d1, d2, d3, d4] }
  | _ => none }
def windSaysRow : OpenClaim := { program := "ytmoabhfpibkcnaa", sum := "4f4c21184a7696b68933c9e0c1b4be898ca2375f1759263ef742856e357ea777", func := "tympan/tympanlaw28.WindSays", spec := "windSays", unfollowed := true, recurses := true, apart := false }
def WindSaysSaid : Prop := windSaysRow.holds Try.pinned (OpenSpec.ofChange windSaysSpec)

/-- ITS FALSE NEIGHBOUR: 'it returns false'. Refute it at one input. -/
def windSaysWrong : ChangeSpec := { name := "windSays", fn := fun _ => fun
  | [d1, d2, d3, d4] => { results := [.lit (.bool false)], args := [d1, d2, d3, d4] }
  | _ => none }
def WindSaysWrongFalsely : Prop := windSaysRow.holds Try.pinned (OpenSpec.ofChange windSaysWrong)

/-- 'tympanlaw28.WindTriangle': WHATEVER THE INPUT: true; the input reads as it did. -/
def windTriangleSpec : ChangeSpec := { name := "windTriangle", fn := fun _ => fun
  | [d1, d2, d3] => { results := [.lit (.bool true)], args := [d1, d2, d3] }
  | _ => none }
def windTriangleRow : OpenClaim := { program := "ytmoabhfpibkcnaa", sum := "4f4c21184a7696b68933c9e0c1b4be898ca2375f1759263ef742856e357ea777", func := "tympan/tympanlaw28.WindTriangle", spec := "windTriangle", unfollowed := true, recurses := true, apart := false }
def WindTriangleSaid : Prop := windTriangleRow.holds Try.pinned (OpenSpec.ofChange windTriangleSpec)

/-- ITS FALSE NEIGHBOUR: 'it returns false'. Refute it at one input. -/
def windTriangleWrong : ChangeSpec := { name := "windTriangle", fn := fun _ => fun
  | [d1, d2, d3] => { results := [.lit (.bool false)], args := [d1, d2, d3] }
  | _ => none }
def WindTriangleWrongFalsely : Prop := windTriangleRow.holds Try.pinned (OpenSpec.ofChange windTriangleWrong)

/-- 'tympanlaw28.WindBoxes': WHATEVER THE INPUT: true; the input reads as it did. -/
def windBoxesSpec : ChangeSpec := { name := "windBoxes", fn := fun _ => fun
  | [d1, d2, d3] => { results := [.lit (.bool true)], args := [d1, d2, d3] }
  | _ => none }
def windBoxesRow : OpenClaim := { program := "ytmoabhfpibkcnaa", sum := "4f4c21184a7696b68933c9e0c1b4be898ca2375f1759263ef742856e357ea777", func := "tympan/tympanlaw28.WindBoxes", spec := "windBoxes", unfollowed := true, recurses := true, apart := false }
def WindBoxesSaid : Prop := windBoxesRow.holds Try.pinned (OpenSpec.ofChange windBoxesSpec)

/-- ITS FALSE NEIGHBOUR: 'it returns false'. Refute it at one input. -/
def windBoxesWrong : ChangeSpec := { name := "windBoxes", fn := fun _ => fun
  | [d1, d2, d3] => { results := [.lit (.bool false)], args := [d1, d2, d3] }
  | _ => none }
def WindBoxesWrongFalsely : Prop := windBoxesRow.holds Try.pinned (OpenSpec.ofChange windBoxesWrong)

/-- 'tympanlaw28.WindMade': WHATEVER THE INPUT: true; the input reads as it did. -/
def windMadeSpec : ChangeSpec := { name := "windMade", fn := fun _ => fun
  | [d1, d2, d3] => { results := [.lit (.bool true)], args := [d1, d2, d3] }
  | _ => none }
def windMadeRow : OpenClaim := { program := "ytmoabhfpibkcnaa", sum := "4f4c21184a7696b68933c9e0c1b4be898ca2375f1759263ef742856e357ea777", func := "tympan/tympanlaw28.WindMade", spec := "windMade", unfollowed := true, recurses := true, apart := false }
def WindMadeSaid : Prop := windMadeRow.holds Try.pinned (OpenSpec.ofChange windMadeSpec)

/-- ITS FALSE NEIGHBOUR: 'it returns false'. Refute it at one input. -/
def windMadeWrong : ChangeSpec := { name := "windMade", fn := fun _ => fun
  | [d1, d2, d3] => { results := [.lit (.bool false)], args := [d1, d2, d3] }
  | _ => none }
def WindMadeWrongFalsely : Prop := windMadeRow.holds Try.pinned (OpenSpec.ofChange windMadeWrong)

/-- 'tympanlaw28.WindFan': WHATEVER THE INPUT: true; the input reads as it did. -/
def windFanSpec : ChangeSpec := { name := "windFan", fn := fun _ => fun
  | [d1, d2, d3, d4, d5] => { results := [.lit (.bool true)], args := [d1, d2, d3, d4, d5] }
  | _ => none }
def windFanRow : OpenClaim := { program := "ytmoabhfpibkcnaa", sum := "4f4c21184a7696b68933c9e0c1b4be898ca2375f1759263ef742856e357ea777", func := "tympan/tympanlaw28.WindFan", spec := "windFan", unfollowed := true, recurses := true, apart := false }
def WindFanSaid : Prop := windFanRow.holds Try.pinned (OpenSpec.ofChange windFanSpec)

/-- ITS FALSE NEIGHBOUR: 'it returns false'. Refute it at one input. -/
def windFanWrong : ChangeSpec := { name := "windFan", fn := fun _ => fun
  | [d1, d2, d3, d4, d5] => { results := [.lit (.bool false)], args := [d1, d2, d3, d4, d5] }
  | _ => none }
def WindFanWrongFalsely : Prop := windFanRow.holds Try.pinned (OpenSpec.ofChange windFanWrong)

/-- 'tympanlaw28.WindOut': WHATEVER THE INPUT: true; the input reads as it did. -/
def windOutSpec : ChangeSpec := { name := "windOut", fn := fun _ => fun
  | [d1, d2, d3, d4] => { results := [.lit (.bool true)], args := [d1, d2, d3, d4] }
  | _ => none }
def windOutRow : OpenClaim := { program := "ytmoabhfpibkcnaa", sum := "4f4c21184a7696b68933c9e0c1b4be898ca2375f1759263ef742856e357ea777", func := "tympan/tympanlaw28.WindOut", spec := "windOut", unfollowed := true, recurses := true, apart := false }
def WindOutSaid : Prop := windOutRow.holds Try.pinned (OpenSpec.ofChange windOutSpec)

/-- ITS FALSE NEIGHBOUR: 'it returns false'. Refute it at one input. -/
def windOutWrong : ChangeSpec := { name := "windOut", fn := fun _ => fun
  | [d1, d2, d3, d4] => { results := [.lit (.bool false)], args := [d1, d2, d3, d4] }
  | _ => none }
def WindOutWrongFalsely : Prop := windOutRow.holds Try.pinned (OpenSpec.ofChange windOutWrong)

/-- 'tympanlaw28.WindOrder': WHATEVER THE INPUT: true; the input reads as it did. -/
def windOrderSpec : ChangeSpec := { name := "windOrder", fn := fun _ => fun
  | [d1, d2, d3, d4, d5, d6] => { results := [.lit (.bool true)], args := [d1, d2, d3, d4, d5, d6] }
  | _ => none }
def windOrderRow : OpenClaim := { program := "ytmoabhfpibkcnaa", sum := "4f4c21184a7696b68933c9e0c1b4be898ca2375f1759263ef742856e357ea777", func := "tympan/tympanlaw28.WindOrder", spec := "windOrder", unfollowed := true, recurses := true, apart := false }
def WindOrderSaid : Prop := windOrderRow.holds Try.pinned (OpenSpec.ofChange windOrderSpec)

/-- ITS FALSE NEIGHBOUR: 'it returns false'. Refute it at one input. -/
def windOrderWrong : ChangeSpec := { name := "windOrder", fn := fun _ => fun
  | [d1, d2, d3, d4, d5, d6] => { results := [.lit (.bool false)], args := [d1, d2, d3, d4, d5, d6] }
  | _ => none }
def WindOrderWrongFalsely : Prop := windOrderRow.holds Try.pinned (OpenSpec.ofChange windOrderWrong)

/-- 'tympanlaw28.WindBack': WHATEVER THE INPUT: true; the input reads as it did. -/
def windBackSpec : ChangeSpec := { name := "windBack", fn := fun _ => fun
  | [d1, d2, d3] => { results := [.lit (.bool true)], args := [d1, d2, d3] }
  | _ => none }
def windBackRow : OpenClaim := { program := "ytmoabhfpibkcnaa", sum := "4f4c21184a7696b68933c9e0c1b4be898ca2375f1759263ef742856e357ea777", func := "tympan/tympanlaw28.WindBack", spec := "windBack", unfollowed := true, recurses := true, apart := false }
def WindBackSaid : Prop := windBackRow.holds Try.pinned (OpenSpec.ofChange windBackSpec)

/-- ITS FALSE NEIGHBOUR: 'it returns false'. Refute it at one input. -/
def windBackWrong : ChangeSpec := { name := "windBack", fn := fun _ => fun
  | [d1, d2, d3] => { results := [.lit (.bool false)], args := [d1, d2, d3] }
  | _ => none }
def WindBackWrongFalsely : Prop := windBackRow.holds Try.pinned (OpenSpec.ofChange windBackWrong)

/-- 'tympanlaw28.WindHalves': WHATEVER THE INPUT: true; the input reads as it did. -/
def windHalvesSpec : ChangeSpec := { name := "windHalves", fn := fun _ => fun
  | [d1, d2, d3] => { results := [.lit (.bool true)], args := [d1, d2, d3] }
  | _ => none }
def windHalvesRow : OpenClaim := { program := "ytmoabhfpibkcnaa", sum := "4f4c21184a7696b68933c9e0c1b4be898ca2375f1759263ef742856e357ea777", func := "tympan/tympanlaw28.WindHalves", spec := "windHalves", unfollowed := true, recurses := true, apart := false }
def WindHalvesSaid : Prop := windHalvesRow.holds Try.pinned (OpenSpec.ofChange windHalvesSpec)

/-- ITS FALSE NEIGHBOUR: 'it returns false'. Refute it at one input. -/
def windHalvesWrong : ChangeSpec := { name := "windHalves", fn := fun _ => fun
  | [d1, d2, d3] => { results := [.lit (.bool false)], args := [d1, d2, d3] }
  | _ => none }
def WindHalvesWrongFalsely : Prop := windHalvesRow.holds Try.pinned (OpenSpec.ofChange windHalvesWrong)

/-- 'tympanlaw28.WindFlat': WHATEVER THE INPUT: true; the input reads as it did. -/
def windFlatSpec : ChangeSpec := { name := "windFlat", fn := fun _ => fun
  | [d1, d2, d3] => { results := [.lit (.bool true)], args := [d1, d2, d3] }
  | _ => none }
def windFlatRow : OpenClaim := { program := "ytmoabhfpibkcnaa", sum := "4f4c21184a7696b68933c9e0c1b4be898ca2375f1759263ef742856e357ea777", func := "tympan/tympanlaw28.WindFlat", spec := "windFlat", unfollowed := true, recurses := true, apart := false }
def WindFlatSaid : Prop := windFlatRow.holds Try.pinned (OpenSpec.ofChange windFlatSpec)

/-- ITS FALSE NEIGHBOUR: 'it returns false'. Refute it at one input. -/
def windFlatWrong : ChangeSpec := { name := "windFlat", fn := fun _ => fun
  | [d1, d2, d3] => { results := [.lit (.bool false)], args := [d1, d2, d3] }
  | _ => none }
def WindFlatWrongFalsely : Prop := windFlatRow.holds Try.pinned (OpenSpec.ofChange windFlatWrong)

/- THE SECOND FORM. 'bulk': how many values and letters a reading holds, each counted each time it is reached (what is shared counts as often as it is met; a slice's spare places count too). A statement '..UptoSaid' is the law's where the arguments, and the package variables that the reading takes, are together of bulk at most 1048576: NARROWER than '..Said'. Prove '..Said' where nothing that the law and all that it calls make is longer than what came in: it says more and counts as full. Else prove '..UptoSaid'. A law counts once. -/
mutual
def uptoBulk {H : Type} : DataW H → Nat
  | .lit (.string bytes) => bytes.length + 1
  | .lit _ => 1
  | .nil => 1
  | .ptr d => uptoBulk d + 1
  | .slice elems spare => uptoBulkAll elems + uptoBulkAll spare + 1
  | .agg parts => uptoBulkAll parts + 1
  | .iface _ d => uptoBulk d + 1
  | .map entries => uptoBulkEntries entries + 1
  | .held _ => 1
def uptoBulkAll {H : Type} : List (DataW H) → Nat
  | [] => 0
  | d :: r => uptoBulk d + uptoBulkAll r
def uptoBulkEntries {H : Type} : List (Lit × DataW H) → Nat
  | [] => 0
  | x :: r => uptoBulkEntry x + uptoBulkEntries r
def uptoBulkEntry {H : Type} : Lit × DataW H → Nat
  | (.string bytes, d) => bytes.length + uptoBulk d + 1
  | (_, d) => uptoBulk d + 1
 end
def uptoSmall : (H : Type) → List (DataW H) → Bool := fun _ ds => decide (uptoBulkAll ds ≤ 1048576)
def OpenSpec.upto (s : _root_.Go.ChangeSpec) : _root_.Go.OpenSpec := { _root_.Go.OpenSpec.ofChange s with cond := some uptoSmall }

/-- 'tympanlaw28.WindSays', WHERE WHAT IT READS IS OF BULK AT MOST 1048576: true; the input reads as it did. -/
def windSaysUptoRow : OpenClaim := { program := "ytmoabhfpibkcnaa", sum := "4f4c21184a7696b68933c9e0c1b4be898ca2375f1759263ef742856e357ea777", func := "tympan/tympanlaw28.WindSays", spec := "windSays", unfollowed := true, recurses := true, apart := false, narrowed := true }
def WindSaysUptoSaid : Prop := windSaysUptoRow.holds Try.pinned (OpenSpec.upto windSaysSpec)

/-- 'tympanlaw28.WindTriangle', WHERE WHAT IT READS IS OF BULK AT MOST 1048576: true; the input reads as it did. -/
def windTriangleUptoRow : OpenClaim := { program := "ytmoabhfpibkcnaa", sum := "4f4c21184a7696b68933c9e0c1b4be898ca2375f1759263ef742856e357ea777", func := "tympan/tympanlaw28.WindTriangle", spec := "windTriangle", unfollowed := true, recurses := true, apart := false, narrowed := true }
def WindTriangleUptoSaid : Prop := windTriangleUptoRow.holds Try.pinned (OpenSpec.upto windTriangleSpec)

/-- 'tympanlaw28.WindBoxes', WHERE WHAT IT READS IS OF BULK AT MOST 1048576: true; the input reads as it did. -/
def windBoxesUptoRow : OpenClaim := { program := "ytmoabhfpibkcnaa", sum := "4f4c21184a7696b68933c9e0c1b4be898ca2375f1759263ef742856e357ea777", func := "tympan/tympanlaw28.WindBoxes", spec := "windBoxes", unfollowed := true, recurses := true, apart := false, narrowed := true }
def WindBoxesUptoSaid : Prop := windBoxesUptoRow.holds Try.pinned (OpenSpec.upto windBoxesSpec)

/-- 'tympanlaw28.WindMade', WHERE WHAT IT READS IS OF BULK AT MOST 1048576: true; the input reads as it did. -/
def windMadeUptoRow : OpenClaim := { program := "ytmoabhfpibkcnaa", sum := "4f4c21184a7696b68933c9e0c1b4be898ca2375f1759263ef742856e357ea777", func := "tympan/tympanlaw28.WindMade", spec := "windMade", unfollowed := true, recurses := true, apart := false, narrowed := true }
def WindMadeUptoSaid : Prop := windMadeUptoRow.holds Try.pinned (OpenSpec.upto windMadeSpec)

/-- 'tympanlaw28.WindFan', WHERE WHAT IT READS IS OF BULK AT MOST 1048576: true; the input reads as it did. -/
def windFanUptoRow : OpenClaim := { program := "ytmoabhfpibkcnaa", sum := "4f4c21184a7696b68933c9e0c1b4be898ca2375f1759263ef742856e357ea777", func := "tympan/tympanlaw28.WindFan", spec := "windFan", unfollowed := true, recurses := true, apart := false, narrowed := true }
def WindFanUptoSaid : Prop := windFanUptoRow.holds Try.pinned (OpenSpec.upto windFanSpec)

/-- 'tympanlaw28.WindOut', WHERE WHAT IT READS IS OF BULK AT MOST 1048576: true; the input reads as it did. -/
def windOutUptoRow : OpenClaim := { program := "ytmoabhfpibkcnaa", sum := "4f4c21184a7696b68933c9e0c1b4be898ca2375f1759263ef742856e357ea777", func := "tympan/tympanlaw28.WindOut", spec := "windOut", unfollowed := true, recurses := true, apart := false, narrowed := true }
def WindOutUptoSaid : Prop := windOutUptoRow.holds Try.pinned (OpenSpec.upto windOutSpec)

/-- 'tympanlaw28.WindOrder', WHERE WHAT IT READS IS OF BULK AT MOST 1048576: true; the input reads as it did. -/
def windOrderUptoRow : OpenClaim := { program := "ytmoabhfpibkcnaa", sum := "4f4c21184a7696b68933c9e0c1b4be898ca2375f1759263ef742856e357ea777", func := "tympan/tympanlaw28.WindOrder", spec := "windOrder", unfollowed := true, recurses := true, apart := false, narrowed := true }
def WindOrderUptoSaid : Prop := windOrderUptoRow.holds Try.pinned (OpenSpec.upto windOrderSpec)

/-- 'tympanlaw28.WindBack', WHERE WHAT IT READS IS OF BULK AT MOST 1048576: true; the input reads as it did. -/
def windBackUptoRow : OpenClaim := { program := "ytmoabhfpibkcnaa", sum := "4f4c21184a7696b68933c9e0c1b4be898ca2375f1759263ef742856e357ea777", func := "tympan/tympanlaw28.WindBack", spec := "windBack", unfollowed := true, recurses := true, apart := false, narrowed := true }
def WindBackUptoSaid : Prop := windBackUptoRow.holds Try.pinned (OpenSpec.upto windBackSpec)

/-- 'tympanlaw28.WindHalves', WHERE WHAT IT READS IS OF BULK AT MOST 1048576: true; the input reads as it did. -/
def windHalvesUptoRow : OpenClaim := { program := "ytmoabhfpibkcnaa", sum := "4f4c21184a7696b68933c9e0c1b4be898ca2375f1759263ef742856e357ea777", func := "tympan/tympanlaw28.WindHalves", spec := "windHalves", unfollowed := true, recurses := true, apart := false, narrowed := true }
def WindHalvesUptoSaid : Prop := windHalvesUptoRow.holds Try.pinned (OpenSpec.upto windHalvesSpec)

/-- 'tympanlaw28.WindFlat', WHERE WHAT IT READS IS OF BULK AT MOST 1048576: true; the input reads as it did. -/
def windFlatUptoRow : OpenClaim := { program := "ytmoabhfpibkcnaa", sum := "4f4c21184a7696b68933c9e0c1b4be898ca2375f1759263ef742856e357ea777", func := "tympan/tympanlaw28.WindFlat", spec := "windFlat", unfollowed := true, recurses := true, apart := false, narrowed := true }
def WindFlatUptoSaid : Prop := windFlatUptoRow.holds Try.pinned (OpenSpec.upto windFlatSpec)

end Rows
end Go.Proofs.Ytmoabhfpibkcnaa
