/-
  No cell of these rows narrows 'for every input' (looked for: loops, veiled, ifaces, maps, wideKeys, modest, calm, conditions, laid).
  DERIVED. THE GIVEN ROWS OF THIS SEAT. 8 by the template 'for every input the law returns true; each argument reads behind the call as it read before'; 0 by the template 'total and deterministic' (their statements: YtmnoeoecjfhhbaaGreatTotals.lean).
  GIVEN WITH THE SEED: the statements are not yours to turn. If you find one false, say at which input.
  Laid BY PROGRAM, IN A SANDBOX (cutbox-rows.mjs): the forced cells as the released guide's own fill.sh prints them over the translation 2410f4f585435ec9… (all of the seat's roots in one cut). By AI agents, Wed Nov 11 2026. No macro, syntax, notation, axiom, sorry.
-/
import Derived.Test.YtmnoeoecjfhhbaaGreatChecked
import GoSem.Claim
import GoSem.ClaimJoined
import GoSem.ClaimMapViews
import Derived.JoinedTies
import Derived.KernelRfl
namespace Go.Proofs.YtmnoeoecjfhhbaaGreat
/- THE CELL 'sum', in the pinned program and in every row, IS THE sha256 OF THE DUMP (.gsa) THAT YtmnoeoecjfhhbaaGreatProg.lean LOADS. Nothing in Lean hashes anything: it is a label: what it is worth is what the hold of that sum in a sandbox is worth. -/
noncomputable def Tryz.pinned : Pinned := { name := "ytmnoeoecjfhhbaagreat", sum := "2410f4f585435ec96a3d51b43f9ed8602288fc55728da085633ea3eaf30387b1", checked := Tryz.checked }
namespace Rows
def none {H : Type} : Left H := { results := [], args := [] }

/-- 'tympanlaw43.ListMarks': WHATEVER THE INPUT: true; the input reads as it did. -/
def listMarksSpec : ChangeSpec := { name := "listMarks", fn := fun _ => fun
  | [d1, d2, d3, d4] => { results := [.lit (.bool true)], args := [d1, d2, d3, d4] }
  | _ => none }
def listMarksRow : OpenClaim := { program := "ytmnoeoecjfhhbaagreat", sum := "2410f4f585435ec96a3d51b43f9ed8602288fc55728da085633ea3eaf30387b1", func := "tympan/tympanlaw43.ListMarks", spec := "listMarks", unfollowed := true, recurses := true, apart := false }
def ListMarksSaid : Prop := listMarksRow.holds Tryz.pinned (OpenSpec.ofChange listMarksSpec)

/-- ITS FALSE NEIGHBOUR: 'it returns false'. Refute it at one input. -/
def listMarksWrong : ChangeSpec := { name := "listMarks", fn := fun _ => fun
  | [d1, d2, d3, d4] => { results := [.lit (.bool false)], args := [d1, d2, d3, d4] }
  | _ => none }
def ListMarksWrongFalsely : Prop := listMarksRow.holds Tryz.pinned (OpenSpec.ofChange listMarksWrong)

/-- 'tympanlaw43.ListTwice': WHATEVER THE INPUT: true; the input reads as it did. -/
def listTwiceSpec : ChangeSpec := { name := "listTwice", fn := fun _ => fun
  | [d1, d2, d3] => { results := [.lit (.bool true)], args := [d1, d2, d3] }
  | _ => none }
def listTwiceRow : OpenClaim := { program := "ytmnoeoecjfhhbaagreat", sum := "2410f4f585435ec96a3d51b43f9ed8602288fc55728da085633ea3eaf30387b1", func := "tympan/tympanlaw43.ListTwice", spec := "listTwice", unfollowed := true, recurses := true, apart := false }
def ListTwiceSaid : Prop := listTwiceRow.holds Tryz.pinned (OpenSpec.ofChange listTwiceSpec)

/-- ITS FALSE NEIGHBOUR: 'it returns false'. Refute it at one input. -/
def listTwiceWrong : ChangeSpec := { name := "listTwice", fn := fun _ => fun
  | [d1, d2, d3] => { results := [.lit (.bool false)], args := [d1, d2, d3] }
  | _ => none }
def ListTwiceWrongFalsely : Prop := listTwiceRow.holds Tryz.pinned (OpenSpec.ofChange listTwiceWrong)

/-- 'tympanlaw43.ListPaints': WHATEVER THE INPUT: true; the input reads as it did. -/
def listPaintsSpec : ChangeSpec := { name := "listPaints", fn := fun _ => fun
  | [d1, d2, d3, d4, d5, d6] => { results := [.lit (.bool true)], args := [d1, d2, d3, d4, d5, d6] }
  | _ => none }
def listPaintsRow : OpenClaim := { program := "ytmnoeoecjfhhbaagreat", sum := "2410f4f585435ec96a3d51b43f9ed8602288fc55728da085633ea3eaf30387b1", func := "tympan/tympanlaw43.ListPaints", spec := "listPaints", unfollowed := true, recurses := true, apart := false }
def ListPaintsSaid : Prop := listPaintsRow.holds Tryz.pinned (OpenSpec.ofChange listPaintsSpec)

/-- ITS FALSE NEIGHBOUR: 'it returns false'. Refute it at one input. -/
def listPaintsWrong : ChangeSpec := { name := "listPaints", fn := fun _ => fun
  | [d1, d2, d3, d4, d5, d6] => { results := [.lit (.bool false)], args := [d1, d2, d3, d4, d5, d6] }
  | _ => none }
def ListPaintsWrongFalsely : Prop := listPaintsRow.holds Tryz.pinned (OpenSpec.ofChange listPaintsWrong)

/-- 'tympanlaw43.ListBands': WHATEVER THE INPUT: true; the input reads as it did. -/
def listBandsSpec : ChangeSpec := { name := "listBands", fn := fun _ => fun
  | [d1, d2, d3, d4] => { results := [.lit (.bool true)], args := [d1, d2, d3, d4] }
  | _ => none }
def listBandsRow : OpenClaim := { program := "ytmnoeoecjfhhbaagreat", sum := "2410f4f585435ec96a3d51b43f9ed8602288fc55728da085633ea3eaf30387b1", func := "tympan/tympanlaw43.ListBands", spec := "listBands", unfollowed := true, recurses := true, apart := false }
def ListBandsSaid : Prop := listBandsRow.holds Tryz.pinned (OpenSpec.ofChange listBandsSpec)

/-- ITS FALSE NEIGHBOUR: 'it returns false'. Refute it at one input. -/
def listBandsWrong : ChangeSpec := { name := "listBands", fn := fun _ => fun
  | [d1, d2, d3, d4] => { results := [.lit (.bool false)], args := [d1, d2, d3, d4] }
  | _ => none }
def ListBandsWrongFalsely : Prop := listBandsRow.holds Tryz.pinned (OpenSpec.ofChange listBandsWrong)

/-- 'tympanlaw43.ListAbove': WHATEVER THE INPUT: true; the input reads as it did. -/
def listAboveSpec : ChangeSpec := { name := "listAbove", fn := fun _ => fun
  | [d1, d2, d3, d4] => { results := [.lit (.bool true)], args := [d1, d2, d3, d4] }
  | _ => none }
def listAboveRow : OpenClaim := { program := "ytmnoeoecjfhhbaagreat", sum := "2410f4f585435ec96a3d51b43f9ed8602288fc55728da085633ea3eaf30387b1", func := "tympan/tympanlaw43.ListAbove", spec := "listAbove", unfollowed := true, recurses := true, apart := false }
def ListAboveSaid : Prop := listAboveRow.holds Tryz.pinned (OpenSpec.ofChange listAboveSpec)

/-- ITS FALSE NEIGHBOUR: 'it returns false'. Refute it at one input. -/
def listAboveWrong : ChangeSpec := { name := "listAbove", fn := fun _ => fun
  | [d1, d2, d3, d4] => { results := [.lit (.bool false)], args := [d1, d2, d3, d4] }
  | _ => none }
def ListAboveWrongFalsely : Prop := listAboveRow.holds Tryz.pinned (OpenSpec.ofChange listAboveWrong)

/-- 'tympanlaw43.ListApart': WHATEVER THE INPUT: true; the input reads as it did. -/
def listApartSpec : ChangeSpec := { name := "listApart", fn := fun _ => fun
  | [d1, d2, d3, d4] => { results := [.lit (.bool true)], args := [d1, d2, d3, d4] }
  | _ => none }
def listApartRow : OpenClaim := { program := "ytmnoeoecjfhhbaagreat", sum := "2410f4f585435ec96a3d51b43f9ed8602288fc55728da085633ea3eaf30387b1", func := "tympan/tympanlaw43.ListApart", spec := "listApart", unfollowed := true, recurses := true, apart := false }
def ListApartSaid : Prop := listApartRow.holds Tryz.pinned (OpenSpec.ofChange listApartSpec)

/-- ITS FALSE NEIGHBOUR: 'it returns false'. Refute it at one input. -/
def listApartWrong : ChangeSpec := { name := "listApart", fn := fun _ => fun
  | [d1, d2, d3, d4] => { results := [.lit (.bool false)], args := [d1, d2, d3, d4] }
  | _ => none }
def ListApartWrongFalsely : Prop := listApartRow.holds Tryz.pinned (OpenSpec.ofChange listApartWrong)

/-- 'tympanlaw43.ListWithin': WHATEVER THE INPUT: true; the input reads as it did. -/
def listWithinSpec : ChangeSpec := { name := "listWithin", fn := fun _ => fun
  | [d1, d2, d3, d4, d5] => { results := [.lit (.bool true)], args := [d1, d2, d3, d4, d5] }
  | _ => none }
def listWithinRow : OpenClaim := { program := "ytmnoeoecjfhhbaagreat", sum := "2410f4f585435ec96a3d51b43f9ed8602288fc55728da085633ea3eaf30387b1", func := "tympan/tympanlaw43.ListWithin", spec := "listWithin", unfollowed := true, recurses := true, apart := false }
def ListWithinSaid : Prop := listWithinRow.holds Tryz.pinned (OpenSpec.ofChange listWithinSpec)

/-- ITS FALSE NEIGHBOUR: 'it returns false'. Refute it at one input. -/
def listWithinWrong : ChangeSpec := { name := "listWithin", fn := fun _ => fun
  | [d1, d2, d3, d4, d5] => { results := [.lit (.bool false)], args := [d1, d2, d3, d4, d5] }
  | _ => none }
def ListWithinWrongFalsely : Prop := listWithinRow.holds Tryz.pinned (OpenSpec.ofChange listWithinWrong)

/-- 'tympanlaw43.ListMoved': WHATEVER THE INPUT: true; the input reads as it did. -/
def listMovedSpec : ChangeSpec := { name := "listMoved", fn := fun _ => fun
  | [d1, d2, d3, d4, d5] => { results := [.lit (.bool true)], args := [d1, d2, d3, d4, d5] }
  | _ => none }
def listMovedRow : OpenClaim := { program := "ytmnoeoecjfhhbaagreat", sum := "2410f4f585435ec96a3d51b43f9ed8602288fc55728da085633ea3eaf30387b1", func := "tympan/tympanlaw43.ListMoved", spec := "listMoved", unfollowed := true, recurses := true, apart := false }
def ListMovedSaid : Prop := listMovedRow.holds Tryz.pinned (OpenSpec.ofChange listMovedSpec)

/-- ITS FALSE NEIGHBOUR: 'it returns false'. Refute it at one input. -/
def listMovedWrong : ChangeSpec := { name := "listMoved", fn := fun _ => fun
  | [d1, d2, d3, d4, d5] => { results := [.lit (.bool false)], args := [d1, d2, d3, d4, d5] }
  | _ => none }
def ListMovedWrongFalsely : Prop := listMovedRow.holds Tryz.pinned (OpenSpec.ofChange listMovedWrong)

/- THE SECOND FORM. 'bulk': how many values and letters a reading holds, each counted each time it is reached (what is shared counts as often as it is met; a slice's spare places count too). A statement '..UptoSaid' is the law's where the arguments, and the package variables that the reading takes, are together of bulk at most 1048576: NARROWER than '..Said'. Prove '..Said' where nothing that the law and all that it calls make is longer than what came in: it says more and counts as full. Else prove '..UptoSaid'. A law counts once. -/
mutual
def uptoBulk {H : Type} : DataW H → Nat
  | .lit (.string bytes) => bytes.length + 1
  | .lit _ => 1
  | .nil => 1
  | .ptr d => uptoBulk d + 1
  | .slice elems spare => uptoBulkAll elems + uptoBulkAll spare + 1
  | .agg parts => uptoBulkAll parts + 1
  | .iface _ d => uptoBulk d + 1
  | .map entries => uptoBulkEntries entries + 1
  | .held _ => 1
def uptoBulkAll {H : Type} : List (DataW H) → Nat
  | [] => 0
  | d :: r => uptoBulk d + uptoBulkAll r
def uptoBulkEntries {H : Type} : List (Lit × DataW H) → Nat
  | [] => 0
  | x :: r => uptoBulkEntry x + uptoBulkEntries r
def uptoBulkEntry {H : Type} : Lit × DataW H → Nat
  | (.string bytes, d) => bytes.length + uptoBulk d + 1
  | (_, d) => uptoBulk d + 1
 end
def uptoSmall : (H : Type) → List (DataW H) → Bool := fun _ ds => decide (uptoBulkAll ds ≤ 1048576)
def OpenSpec.upto (s : _root_.Go.ChangeSpec) : _root_.Go.OpenSpec := { _root_.Go.OpenSpec.ofChange s with cond := some uptoSmall }

/-- 'tympanlaw43.ListMarks', WHERE WHAT IT READS IS OF BULK AT MOST 1048576: true; the input reads as it did. -/
def listMarksUptoRow : OpenClaim := { program := "ytmnoeoecjfhhbaagreat", sum := "2410f4f585435ec96a3d51b43f9ed8602288fc55728da085633ea3eaf30387b1", func := "tympan/tympanlaw43.ListMarks", spec := "listMarks", unfollowed := true, recurses := true, apart := false, narrowed := true }
def ListMarksUptoSaid : Prop := listMarksUptoRow.holds Tryz.pinned (OpenSpec.upto listMarksSpec)

/-- 'tympanlaw43.ListTwice', WHERE WHAT IT READS IS OF BULK AT MOST 1048576: true; the input reads as it did. -/
def listTwiceUptoRow : OpenClaim := { program := "ytmnoeoecjfhhbaagreat", sum := "2410f4f585435ec96a3d51b43f9ed8602288fc55728da085633ea3eaf30387b1", func := "tympan/tympanlaw43.ListTwice", spec := "listTwice", unfollowed := true, recurses := true, apart := false, narrowed := true }
def ListTwiceUptoSaid : Prop := listTwiceUptoRow.holds Tryz.pinned (OpenSpec.upto listTwiceSpec)

/-- 'tympanlaw43.ListPaints', WHERE WHAT IT READS IS OF BULK AT MOST 1048576: true; the input reads as it did. -/
def listPaintsUptoRow : OpenClaim := { program := "ytmnoeoecjfhhbaagreat", sum := "2410f4f585435ec96a3d51b43f9ed8602288fc55728da085633ea3eaf30387b1", func := "tympan/tympanlaw43.ListPaints", spec := "listPaints", unfollowed := true, recurses := true, apart := false, narrowed := true }
def ListPaintsUptoSaid : Prop := listPaintsUptoRow.holds Tryz.pinned (OpenSpec.upto listPaintsSpec)

/-- 'tympanlaw43.ListBands', WHERE WHAT IT READS IS OF BULK AT MOST 1048576: true; the input reads as it did. -/
def listBandsUptoRow : OpenClaim := { program := "ytmnoeoecjfhhbaagreat", sum := "2410f4f585435ec96a3d51b43f9ed8602288fc55728da085633ea3eaf30387b1", func := "tympan/tympanlaw43.ListBands", spec := "listBands", unfollowed := true, recurses := true, apart := false, narrowed := true }
def ListBandsUptoSaid : Prop := listBandsUptoRow.holds Tryz.pinned (OpenSpec.upto listBandsSpec)

/-- 'tympanlaw43.ListAbove', WHERE WHAT IT READS IS OF BULK AT MOST 1048576: true; the input reads as it did. -/
def listAboveUptoRow : OpenClaim := { program := "ytmnoeoecjfhhbaagreat", sum := "2410f4f585435ec96a3d51b43f9ed8602288fc55728da085633ea3eaf30387b1", func := "tympan/tympanlaw43.ListAbove", spec := "listAbove", unfollowed := true, recurses := true, apart := false, narrowed := true }
def ListAboveUptoSaid : Prop := listAboveUptoRow.holds Tryz.pinned (OpenSpec.upto listAboveSpec)

/-- 'tympanlaw43.ListApart', WHERE WHAT IT READS IS OF BULK AT MOST 1048576: true; the input reads as it did. -/
def listApartUptoRow : OpenClaim := { program := "ytmnoeoecjfhhbaagreat", sum := "2410f4f585435ec96a3d51b43f9ed8602288fc55728da085633ea3eaf30387b1", func := "tympan/tympanlaw43.ListApart", spec := "listApart", unfollowed := true, recurses := true, apart := false, narrowed := true }
def ListApartUptoSaid : Prop := listApartUptoRow.holds Tryz.pinned (OpenSpec.upto listApartSpec)

/-- 'tympanlaw43.ListWithin', WHERE WHAT IT READS IS OF BULK AT MOST 1048576: true; the input reads as it did. -/
def listWithinUptoRow : OpenClaim := { program := "ytmnoeoecjfhhbaagreat", sum := "2410f4f585435ec96a3d51b43f9ed8602288fc55728da085633ea3eaf30387b1", func := "tympan/tympanlaw43.ListWithin", spec := "listWithin", unfollowed := true, recurses := true, apart := false, narrowed := true }
def ListWithinUptoSaid : Prop := listWithinUptoRow.holds Tryz.pinned (OpenSpec.upto listWithinSpec)

/-- 'tympanlaw43.ListMoved', WHERE WHAT IT READS IS OF BULK AT MOST 1048576: true; the input reads as it did. -/
def listMovedUptoRow : OpenClaim := { program := "ytmnoeoecjfhhbaagreat", sum := "2410f4f585435ec96a3d51b43f9ed8602288fc55728da085633ea3eaf30387b1", func := "tympan/tympanlaw43.ListMoved", spec := "listMoved", unfollowed := true, recurses := true, apart := false, narrowed := true }
def ListMovedUptoSaid : Prop := listMovedUptoRow.holds Tryz.pinned (OpenSpec.upto listMovedSpec)

end Rows
end Go.Proofs.YtmnoeoecjfhhbaaGreat
