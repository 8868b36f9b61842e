/-
  No cell of these rows narrows 'for every input' (looked for: loops, veiled, ifaces, maps, wideKeys, modest, calm, conditions, laid).
  DERIVED. THE GIVEN ROWS OF THIS SEAT. 10 by the template 'for every input the law returns true; each argument reads behind the call as it read before'; 0 by the template 'total and deterministic' (their statements: YtkgblkaihblgeaaTotals.lean).
  GIVEN WITH THE SEED: the statements are not yours to turn. If you find one false, say at which input.
  Laid BY PROGRAM, IN A SANDBOX (cutbox-rows.mjs): the forced cells as the released guide's own fill.sh prints them over the translation a25fe7f4c443e6ba… (all of the seat's roots in one cut). By AI agents, Wed Nov 11 2026. No macro, syntax, notation, axiom, sorry.
-/
import Derived.Test.YtkgblkaihblgeaaChecked
import GoSem.Claim
import GoSem.ClaimJoined
import GoSem.ClaimMapViews
import Derived.JoinedTies
import Derived.KernelRfl
namespace Go.Proofs.Ytkgblkaihblgeaa
/- THE CELL 'sum', in the pinned program and in every row, IS THE sha256 OF THE DUMP (.gsa) THAT YtkgblkaihblgeaaProg.lean LOADS. Nothing in Lean hashes anything: it is a label: what it is worth is what the hold of that sum in a sandbox is worth. -/
noncomputable def Try.pinned : Pinned := { name := "ytkgblkaihblgeaa", sum := "a25fe7f4c443e6bae692eb55b07759e29af0fce57cbf664b141ac2c26d669a0c", checked := Try.checked }
namespace Rows
def none {H : Type} : Left H := { results := [], args := [] }

/-- 'tympanlaw31.ScanLines': WHATEVER THE INPUT: true; the input reads as it did. -/
def scanLinesSpec : ChangeSpec := { name := "scanLines", fn := fun _ => fun
  | [d1, d2, d3, d4] => { results := [.lit (.bool true)], args := [d1, d2, d3, d4] }
  | _ => none }
def scanLinesRow : OpenClaim := { program := "ytkgblkaihblgeaa", sum := "a25fe7f4c443e6bae692eb55b07759e29af0fce57cbf664b141ac2c26d669a0c", func := "tympan/tympanlaw31.ScanLines", spec := "scanLines", apart := false }
def ScanLinesSaid : Prop := scanLinesRow.holds Try.pinned (OpenSpec.ofChange scanLinesSpec)

/-- ITS FALSE NEIGHBOUR: 'it returns false'. Refute it at one input. -/
def scanLinesWrong : ChangeSpec := { name := "scanLines", fn := fun _ => fun
  | [d1, d2, d3, d4] => { results := [.lit (.bool false)], args := [d1, d2, d3, d4] }
  | _ => none }
def ScanLinesWrongFalsely : Prop := scanLinesRow.holds Try.pinned (OpenSpec.ofChange scanLinesWrong)

/-- 'tympanlaw31.ScanRegions': WHATEVER THE INPUT: true; the input reads as it did. -/
def scanRegionsSpec : ChangeSpec := { name := "scanRegions", fn := fun _ => fun
  | [d1, d2, d3, d4] => { results := [.lit (.bool true)], args := [d1, d2, d3, d4] }
  | _ => none }
def scanRegionsRow : OpenClaim := { program := "ytkgblkaihblgeaa", sum := "a25fe7f4c443e6bae692eb55b07759e29af0fce57cbf664b141ac2c26d669a0c", func := "tympan/tympanlaw31.ScanRegions", spec := "scanRegions", apart := false }
def ScanRegionsSaid : Prop := scanRegionsRow.holds Try.pinned (OpenSpec.ofChange scanRegionsSpec)

/-- ITS FALSE NEIGHBOUR: 'it returns false'. Refute it at one input. -/
def scanRegionsWrong : ChangeSpec := { name := "scanRegions", fn := fun _ => fun
  | [d1, d2, d3, d4] => { results := [.lit (.bool false)], args := [d1, d2, d3, d4] }
  | _ => none }
def ScanRegionsWrongFalsely : Prop := scanRegionsRow.holds Try.pinned (OpenSpec.ofChange scanRegionsWrong)

/-- 'tympanlaw31.ScanCuts': WHATEVER THE INPUT: true; the input reads as it did. -/
def scanCutsSpec : ChangeSpec := { name := "scanCuts", fn := fun _ => fun
  | [d1, d2, d3, d4] => { results := [.lit (.bool true)], args := [d1, d2, d3, d4] }
  | _ => none }
def scanCutsRow : OpenClaim := { program := "ytkgblkaihblgeaa", sum := "a25fe7f4c443e6bae692eb55b07759e29af0fce57cbf664b141ac2c26d669a0c", func := "tympan/tympanlaw31.ScanCuts", spec := "scanCuts", apart := false }
def ScanCutsSaid : Prop := scanCutsRow.holds Try.pinned (OpenSpec.ofChange scanCutsSpec)

/-- ITS FALSE NEIGHBOUR: 'it returns false'. Refute it at one input. -/
def scanCutsWrong : ChangeSpec := { name := "scanCuts", fn := fun _ => fun
  | [d1, d2, d3, d4] => { results := [.lit (.bool false)], args := [d1, d2, d3, d4] }
  | _ => none }
def ScanCutsWrongFalsely : Prop := scanCutsRow.holds Try.pinned (OpenSpec.ofChange scanCutsWrong)

/-- 'tympanlaw31.ScanFan': WHATEVER THE INPUT: true; the input reads as it did. -/
def scanFanSpec : ChangeSpec := { name := "scanFan", fn := fun _ => fun
  | [d1, d2, d3, d4] => { results := [.lit (.bool true)], args := [d1, d2, d3, d4] }
  | _ => none }
def scanFanRow : OpenClaim := { program := "ytkgblkaihblgeaa", sum := "a25fe7f4c443e6bae692eb55b07759e29af0fce57cbf664b141ac2c26d669a0c", func := "tympan/tympanlaw31.ScanFan", spec := "scanFan", unfollowed := true, recurses := true, apart := false }
def ScanFanSaid : Prop := scanFanRow.holds Try.pinned (OpenSpec.ofChange scanFanSpec)

/-- ITS FALSE NEIGHBOUR: 'it returns false'. Refute it at one input. -/
def scanFanWrong : ChangeSpec := { name := "scanFan", fn := fun _ => fun
  | [d1, d2, d3, d4] => { results := [.lit (.bool false)], args := [d1, d2, d3, d4] }
  | _ => none }
def ScanFanWrongFalsely : Prop := scanFanRow.holds Try.pinned (OpenSpec.ofChange scanFanWrong)

/-- 'tympanlaw31.ScanMoves': WHATEVER THE INPUT: true; the input reads as it did. -/
def scanMovesSpec : ChangeSpec := { name := "scanMoves", fn := fun _ => fun
  | [d1, d2, d3, d4] => { results := [.lit (.bool true)], args := [d1, d2, d3, d4] }
  | _ => none }
def scanMovesRow : OpenClaim := { program := "ytkgblkaihblgeaa", sum := "a25fe7f4c443e6bae692eb55b07759e29af0fce57cbf664b141ac2c26d669a0c", func := "tympan/tympanlaw31.ScanMoves", spec := "scanMoves", apart := false }
def ScanMovesSaid : Prop := scanMovesRow.holds Try.pinned (OpenSpec.ofChange scanMovesSpec)

/-- ITS FALSE NEIGHBOUR: 'it returns false'. Refute it at one input. -/
def scanMovesWrong : ChangeSpec := { name := "scanMoves", fn := fun _ => fun
  | [d1, d2, d3, d4] => { results := [.lit (.bool false)], args := [d1, d2, d3, d4] }
  | _ => none }
def ScanMovesWrongFalsely : Prop := scanMovesRow.holds Try.pinned (OpenSpec.ofChange scanMovesWrong)

/-- 'tympanlaw31.ScanHalves': WHATEVER THE INPUT: true; the input reads as it did. -/
def scanHalvesSpec : ChangeSpec := { name := "scanHalves", fn := fun _ => fun
  | [d1, d2] => { results := [.lit (.bool true)], args := [d1, d2] }
  | _ => none }
def scanHalvesRow : OpenClaim := { program := "ytkgblkaihblgeaa", sum := "a25fe7f4c443e6bae692eb55b07759e29af0fce57cbf664b141ac2c26d669a0c", func := "tympan/tympanlaw31.ScanHalves", spec := "scanHalves", apart := false }
def ScanHalvesSaid : Prop := scanHalvesRow.holds Try.pinned (OpenSpec.ofChange scanHalvesSpec)

/-- ITS FALSE NEIGHBOUR: 'it returns false'. Refute it at one input. -/
def scanHalvesWrong : ChangeSpec := { name := "scanHalves", fn := fun _ => fun
  | [d1, d2] => { results := [.lit (.bool false)], args := [d1, d2] }
  | _ => none }
def ScanHalvesWrongFalsely : Prop := scanHalvesRow.holds Try.pinned (OpenSpec.ofChange scanHalvesWrong)

/-- 'tympanlaw31.ScanTurned': WHATEVER THE INPUT: true; the input reads as it did. -/
def scanTurnedSpec : ChangeSpec := { name := "scanTurned", fn := fun _ => fun
  | [d1, d2, d3, d4] => { results := [.lit (.bool true)], args := [d1, d2, d3, d4] }
  | _ => none }
def scanTurnedRow : OpenClaim := { program := "ytkgblkaihblgeaa", sum := "a25fe7f4c443e6bae692eb55b07759e29af0fce57cbf664b141ac2c26d669a0c", func := "tympan/tympanlaw31.ScanTurned", spec := "scanTurned", apart := false }
def ScanTurnedSaid : Prop := scanTurnedRow.holds Try.pinned (OpenSpec.ofChange scanTurnedSpec)

/-- ITS FALSE NEIGHBOUR: 'it returns false'. Refute it at one input. -/
def scanTurnedWrong : ChangeSpec := { name := "scanTurned", fn := fun _ => fun
  | [d1, d2, d3, d4] => { results := [.lit (.bool false)], args := [d1, d2, d3, d4] }
  | _ => none }
def ScanTurnedWrongFalsely : Prop := scanTurnedRow.holds Try.pinned (OpenSpec.ofChange scanTurnedWrong)

/-- 'tympanlaw31.ScanSums': WHATEVER THE INPUT: true; the input reads as it did. -/
def scanSumsSpec : ChangeSpec := { name := "scanSums", fn := fun _ => fun
  | [d1, d2] => { results := [.lit (.bool true)], args := [d1, d2] }
  | _ => none }
def scanSumsRow : OpenClaim := { program := "ytkgblkaihblgeaa", sum := "a25fe7f4c443e6bae692eb55b07759e29af0fce57cbf664b141ac2c26d669a0c", func := "tympan/tympanlaw31.ScanSums", spec := "scanSums", unfollowed := true, recurses := true, apart := false }
def ScanSumsSaid : Prop := scanSumsRow.holds Try.pinned (OpenSpec.ofChange scanSumsSpec)

/-- ITS FALSE NEIGHBOUR: 'it returns false'. Refute it at one input. -/
def scanSumsWrong : ChangeSpec := { name := "scanSums", fn := fun _ => fun
  | [d1, d2] => { results := [.lit (.bool false)], args := [d1, d2] }
  | _ => none }
def ScanSumsWrongFalsely : Prop := scanSumsRow.holds Try.pinned (OpenSpec.ofChange scanSumsWrong)

/-- 'tympanlaw31.ScanWinds': WHATEVER THE INPUT: true; the input reads as it did. -/
def scanWindsSpec : ChangeSpec := { name := "scanWinds", fn := fun _ => fun
  | [d1, d2, d3] => { results := [.lit (.bool true)], args := [d1, d2, d3] }
  | _ => none }
def scanWindsRow : OpenClaim := { program := "ytkgblkaihblgeaa", sum := "a25fe7f4c443e6bae692eb55b07759e29af0fce57cbf664b141ac2c26d669a0c", func := "tympan/tympanlaw31.ScanWinds", spec := "scanWinds", unfollowed := true, recurses := true, apart := false }
def ScanWindsSaid : Prop := scanWindsRow.holds Try.pinned (OpenSpec.ofChange scanWindsSpec)

/-- ITS FALSE NEIGHBOUR: 'it returns false'. Refute it at one input. -/
def scanWindsWrong : ChangeSpec := { name := "scanWinds", fn := fun _ => fun
  | [d1, d2, d3] => { results := [.lit (.bool false)], args := [d1, d2, d3] }
  | _ => none }
def ScanWindsWrongFalsely : Prop := scanWindsRow.holds Try.pinned (OpenSpec.ofChange scanWindsWrong)

/-- 'tympanlaw31.ScanCovers': WHATEVER THE INPUT: true; the input reads as it did. -/
def scanCoversSpec : ChangeSpec := { name := "scanCovers", fn := fun _ => fun
  | [d1, d2, d3, d4] => { results := [.lit (.bool true)], args := [d1, d2, d3, d4] }
  | _ => none }
def scanCoversRow : OpenClaim := { program := "ytkgblkaihblgeaa", sum := "a25fe7f4c443e6bae692eb55b07759e29af0fce57cbf664b141ac2c26d669a0c", func := "tympan/tympanlaw31.ScanCovers", spec := "scanCovers", unfollowed := true, recurses := true, apart := false }
def ScanCoversSaid : Prop := scanCoversRow.holds Try.pinned (OpenSpec.ofChange scanCoversSpec)

/-- ITS FALSE NEIGHBOUR: 'it returns false'. Refute it at one input. -/
def scanCoversWrong : ChangeSpec := { name := "scanCovers", fn := fun _ => fun
  | [d1, d2, d3, d4] => { results := [.lit (.bool false)], args := [d1, d2, d3, d4] }
  | _ => none }
def ScanCoversWrongFalsely : Prop := scanCoversRow.holds Try.pinned (OpenSpec.ofChange scanCoversWrong)

/- THE SECOND FORM. 'bulk': how many values and letters a reading holds, each counted each time it is reached (what is shared counts as often as it is met; a slice's spare places count too). A statement '..UptoSaid' is the law's where the arguments, and the package variables that the reading takes, are together of bulk at most 1048576: NARROWER than '..Said'. Prove '..Said' where nothing that the law and all that it calls make is longer than what came in: it says more and counts as full. Else prove '..UptoSaid'. A law counts once. -/
mutual
def uptoBulk {H : Type} : DataW H → Nat
  | .lit (.string bytes) => bytes.length + 1
  | .lit _ => 1
  | .nil => 1
  | .ptr d => uptoBulk d + 1
  | .slice elems spare => uptoBulkAll elems + uptoBulkAll spare + 1
  | .agg parts => uptoBulkAll parts + 1
  | .iface _ d => uptoBulk d + 1
  | .map entries => uptoBulkEntries entries + 1
  | .held _ => 1
def uptoBulkAll {H : Type} : List (DataW H) → Nat
  | [] => 0
  | d :: r => uptoBulk d + uptoBulkAll r
def uptoBulkEntries {H : Type} : List (Lit × DataW H) → Nat
  | [] => 0
  | x :: r => uptoBulkEntry x + uptoBulkEntries r
def uptoBulkEntry {H : Type} : Lit × DataW H → Nat
  | (.string bytes, d) => bytes.length + uptoBulk d + 1
  | (_, d) => uptoBulk d + 1
 end
def uptoSmall : (H : Type) → List (DataW H) → Bool := fun _ ds => decide (uptoBulkAll ds ≤ 1048576)
def OpenSpec.upto (s : _root_.Go.ChangeSpec) : _root_.Go.OpenSpec := { _root_.Go.OpenSpec.ofChange s with cond := some uptoSmall }

/-- 'tympanlaw31.ScanLines', WHERE WHAT IT READS IS OF BULK AT MOST 1048576: true; the input reads as it did. -/
def scanLinesUptoRow : OpenClaim := { program := "ytkgblkaihblgeaa", sum := "a25fe7f4c443e6bae692eb55b07759e29af0fce57cbf664b141ac2c26d669a0c", func := "tympan/tympanlaw31.ScanLines", spec := "scanLines", apart := false, narrowed := true }
def ScanLinesUptoSaid : Prop := scanLinesUptoRow.holds Try.pinned (OpenSpec.upto scanLinesSpec)

/-- 'tympanlaw31.ScanRegions', WHERE WHAT IT READS IS OF BULK AT MOST 1048576: true; the input reads as it did. -/
def scanRegionsUptoRow : OpenClaim := { program := "ytkgblkaihblgeaa", sum := "a25fe7f4c443e6bae692eb55b07759e29af0fce57cbf664b141ac2c26d669a0c", func := "tympan/tympanlaw31.ScanRegions", spec := "scanRegions", apart := false, narrowed := true }
def ScanRegionsUptoSaid : Prop := scanRegionsUptoRow.holds Try.pinned (OpenSpec.upto scanRegionsSpec)

/-- 'tympanlaw31.ScanCuts', WHERE WHAT IT READS IS OF BULK AT MOST 1048576: true; the input reads as it did. -/
def scanCutsUptoRow : OpenClaim := { program := "ytkgblkaihblgeaa", sum := "a25fe7f4c443e6bae692eb55b07759e29af0fce57cbf664b141ac2c26d669a0c", func := "tympan/tympanlaw31.ScanCuts", spec := "scanCuts", apart := false, narrowed := true }
def ScanCutsUptoSaid : Prop := scanCutsUptoRow.holds Try.pinned (OpenSpec.upto scanCutsSpec)

/-- 'tympanlaw31.ScanFan', WHERE WHAT IT READS IS OF BULK AT MOST 1048576: true; the input reads as it did. -/
def scanFanUptoRow : OpenClaim := { program := "ytkgblkaihblgeaa", sum := "a25fe7f4c443e6bae692eb55b07759e29af0fce57cbf664b141ac2c26d669a0c", func := "tympan/tympanlaw31.ScanFan", spec := "scanFan", unfollowed := true, recurses := true, apart := false, narrowed := true }
def ScanFanUptoSaid : Prop := scanFanUptoRow.holds Try.pinned (OpenSpec.upto scanFanSpec)

/-- 'tympanlaw31.ScanMoves', WHERE WHAT IT READS IS OF BULK AT MOST 1048576: true; the input reads as it did. -/
def scanMovesUptoRow : OpenClaim := { program := "ytkgblkaihblgeaa", sum := "a25fe7f4c443e6bae692eb55b07759e29af0fce57cbf664b141ac2c26d669a0c", func := "tympan/tympanlaw31.ScanMoves", spec := "scanMoves", apart := false, narrowed := true }
def ScanMovesUptoSaid : Prop := scanMovesUptoRow.holds Try.pinned (OpenSpec.upto scanMovesSpec)

/-- 'tympanlaw31.ScanHalves', WHERE WHAT IT READS IS OF BULK AT MOST 1048576: true; the input reads as it did. -/
def scanHalvesUptoRow : OpenClaim := { program := "ytkgblkaihblgeaa", sum := "a25fe7f4c443e6bae692eb55b07759e29af0fce57cbf664b141ac2c26d669a0c", func := "tympan/tympanlaw31.ScanHalves", spec := "scanHalves", apart := false, narrowed := true }
def ScanHalvesUptoSaid : Prop := scanHalvesUptoRow.holds Try.pinned (OpenSpec.upto scanHalvesSpec)

/-- 'tympanlaw31.ScanTurned', WHERE WHAT IT READS IS OF BULK AT MOST 1048576: true; the input reads as it did. -/
def scanTurnedUptoRow : OpenClaim := { program := "ytkgblkaihblgeaa", sum := "a25fe7f4c443e6bae692eb55b07759e29af0fce57cbf664b141ac2c26d669a0c", func := "tympan/tympanlaw31.ScanTurned", spec := "scanTurned", apart := false, narrowed := true }
def ScanTurnedUptoSaid : Prop := scanTurnedUptoRow.holds Try.pinned (OpenSpec.upto scanTurnedSpec)

/-- 'tympanlaw31.ScanSums', WHERE WHAT IT READS IS OF BULK AT MOST 1048576: true; the input reads as it did. -/
def scanSumsUptoRow : OpenClaim := { program := "ytkgblkaihblgeaa", sum := "a25fe7f4c443e6bae692eb55b07759e29af0fce57cbf664b141ac2c26d669a0c", func := "tympan/tympanlaw31.ScanSums", spec := "scanSums", unfollowed := true, recurses := true, apart := false, narrowed := true }
def ScanSumsUptoSaid : Prop := scanSumsUptoRow.holds Try.pinned (OpenSpec.upto scanSumsSpec)

/-- 'tympanlaw31.ScanWinds', WHERE WHAT IT READS IS OF BULK AT MOST 1048576: true; the input reads as it did. -/
def scanWindsUptoRow : OpenClaim := { program := "ytkgblkaihblgeaa", sum := "a25fe7f4c443e6bae692eb55b07759e29af0fce57cbf664b141ac2c26d669a0c", func := "tympan/tympanlaw31.ScanWinds", spec := "scanWinds", unfollowed := true, recurses := true, apart := false, narrowed := true }
def ScanWindsUptoSaid : Prop := scanWindsUptoRow.holds Try.pinned (OpenSpec.upto scanWindsSpec)

/-- 'tympanlaw31.ScanCovers', WHERE WHAT IT READS IS OF BULK AT MOST 1048576: true; the input reads as it did. -/
def scanCoversUptoRow : OpenClaim := { program := "ytkgblkaihblgeaa", sum := "a25fe7f4c443e6bae692eb55b07759e29af0fce57cbf664b141ac2c26d669a0c", func := "tympan/tympanlaw31.ScanCovers", spec := "scanCovers", unfollowed := true, recurses := true, apart := false, narrowed := true }
def ScanCoversUptoSaid : Prop := scanCoversUptoRow.holds Try.pinned (OpenSpec.upto scanCoversSpec)

end Rows
end Go.Proofs.Ytkgblkaihblgeaa
