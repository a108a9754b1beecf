/-
  No cell of these rows narrows 'for every input' (looked for: loops, veiled, ifaces, maps, wideKeys, modest, calm, conditions, laid).
  DERIVED. THE GIVEN ROWS OF THIS SEAT. 8 by the template 'for every input the law returns true; each argument reads behind the call as it read before'; 0 by the template 'total and deterministic' (their statements: YteohbocjhfcbdaaTotals.lean).
  GIVEN WITH THE SEED: the statements are not yours to turn. If you find one false, say at which input.
  Laid BY PROGRAM, IN A SANDBOX (cutbox-rows.mjs): the forced cells as the released guide's own fill.sh prints them over the translation d6d7ae4af1f35f50… (all of the seat's roots in one cut). By AI agents, Wed Nov 11 2026. No macro, syntax, notation, axiom, sorry.
-/
import Derived.Test.YteohbocjhfcbdaaChecked
import GoSem.Claim
import GoSem.ClaimJoined
import GoSem.ClaimMapViews
import Derived.JoinedTies
import Derived.KernelRfl
namespace Go.Proofs.Yteohbocjhfcbdaa
/- THE CELL 'sum', in the pinned program and in every row, IS THE sha256 OF THE DUMP (.gsa) THAT YteohbocjhfcbdaaProg.lean LOADS. Nothing in Lean hashes anything: it is a label: what it is worth is what the hold of that sum in a sandbox is worth. -/
noncomputable def Try.pinned : Pinned := { name := "yteohbocjhfcbdaa", sum := "d6d7ae4af1f35f501782056709e8d26db5e8b3f043707e59b4829bc3e9d82f28", checked := Try.checked }
namespace Rows
def none {H : Type} : Left H := { results := [], args := [] }

/-- 'hopmeshlaw05.GeometryShapes': WHATEVER THE INPUT: true; the input reads as it did. -/
def geometryShapesSpec : ChangeSpec := { name := "geometryShapes", fn := fun _ => fun
  | [d1, d2, d3] => { results := [.lit (.bool true)], args := [d1, d2, d3] }
  | _ => none }
def geometryShapesRow : OpenClaim := { program := "yteohbocjhfcbdaa", sum := "d6d7ae4af1f35f501782056709e8d26db5e8b3f043707e59b4829bc3e9d82f28", func := "hopmesh/hopmeshlaw05.GeometryShapes", spec := "geometryShapes", unfollowed := true, recurses := true, apart := false }
def GeometryShapesSaid : Prop := geometryShapesRow.holds Try.pinned (OpenSpec.ofChange geometryShapesSpec)

/-- ITS FALSE NEIGHBOUR: 'it returns false'. Refute it at one input. -/
def geometryShapesWrong : ChangeSpec := { name := "geometryShapes", fn := fun _ => fun
  | [d1, d2, d3] => { results := [.lit (.bool false)], args := [d1, d2, d3] }
  | _ => none }
def GeometryShapesWrongFalsely : Prop := geometryShapesRow.holds Try.pinned (OpenSpec.ofChange geometryShapesWrong)

/-- 'hopmeshlaw05.GeometryMoves': WHATEVER THE INPUT: true; the input reads as it did. -/
def geometryMovesSpec : ChangeSpec := { name := "geometryMoves", fn := fun _ => fun
  | [d1, d2, d3] => { results := [.lit (.bool true)], args := [d1, d2, d3] }
  | _ => none }
def geometryMovesRow : OpenClaim := { program := "yteohbocjhfcbdaa", sum := "d6d7ae4af1f35f501782056709e8d26db5e8b3f043707e59b4829bc3e9d82f28", func := "hopmesh/hopmeshlaw05.GeometryMoves", spec := "geometryMoves", unfollowed := true, recurses := true, apart := false }
def GeometryMovesSaid : Prop := geometryMovesRow.holds Try.pinned (OpenSpec.ofChange geometryMovesSpec)

/-- ITS FALSE NEIGHBOUR: 'it returns false'. Refute it at one input. -/
def geometryMovesWrong : ChangeSpec := { name := "geometryMoves", fn := fun _ => fun
  | [d1, d2, d3] => { results := [.lit (.bool false)], args := [d1, d2, d3] }
  | _ => none }
def GeometryMovesWrongFalsely : Prop := geometryMovesRow.holds Try.pinned (OpenSpec.ofChange geometryMovesWrong)

/-- 'hopmeshlaw05.GeometryCrossings': WHATEVER THE INPUT: true; the input reads as it did. -/
def geometryCrossingsSpec : ChangeSpec := { name := "geometryCrossings", fn := fun _ => fun
  | [d1, d2, d3] => { results := [.lit (.bool true)], args := [d1, d2, d3] }
  | _ => none }
def geometryCrossingsRow : OpenClaim := { program := "yteohbocjhfcbdaa", sum := "d6d7ae4af1f35f501782056709e8d26db5e8b3f043707e59b4829bc3e9d82f28", func := "hopmesh/hopmeshlaw05.GeometryCrossings", spec := "geometryCrossings", unfollowed := true, recurses := true, apart := false }
def GeometryCrossingsSaid : Prop := geometryCrossingsRow.holds Try.pinned (OpenSpec.ofChange geometryCrossingsSpec)

/-- ITS FALSE NEIGHBOUR: 'it returns false'. Refute it at one input. -/
def geometryCrossingsWrong : ChangeSpec := { name := "geometryCrossings", fn := fun _ => fun
  | [d1, d2, d3] => { results := [.lit (.bool false)], args := [d1, d2, d3] }
  | _ => none }
def GeometryCrossingsWrongFalsely : Prop := geometryCrossingsRow.holds Try.pinned (OpenSpec.ofChange geometryCrossingsWrong)

/-- 'hopmeshlaw05.GeometryDistances': WHATEVER THE INPUT: true; the input reads as it did. -/
def geometryDistancesSpec : ChangeSpec := { name := "geometryDistances", fn := fun _ => fun
  | [d1, d2, d3] => { results := [.lit (.bool true)], args := [d1, d2, d3] }
  | _ => none }
def geometryDistancesRow : OpenClaim := { program := "yteohbocjhfcbdaa", sum := "d6d7ae4af1f35f501782056709e8d26db5e8b3f043707e59b4829bc3e9d82f28", func := "hopmesh/hopmeshlaw05.GeometryDistances", spec := "geometryDistances", unfollowed := true, recurses := true, apart := false }
def GeometryDistancesSaid : Prop := geometryDistancesRow.holds Try.pinned (OpenSpec.ofChange geometryDistancesSpec)

/-- ITS FALSE NEIGHBOUR: 'it returns false'. Refute it at one input. -/
def geometryDistancesWrong : ChangeSpec := { name := "geometryDistances", fn := fun _ => fun
  | [d1, d2, d3] => { results := [.lit (.bool false)], args := [d1, d2, d3] }
  | _ => none }
def GeometryDistancesWrongFalsely : Prop := geometryDistancesRow.holds Try.pinned (OpenSpec.ofChange geometryDistancesWrong)

/-- 'hopmeshlaw05.GeometryWalls': WHATEVER THE INPUT: true; the input reads as it did. -/
def geometryWallsSpec : ChangeSpec := { name := "geometryWalls", fn := fun _ => fun
  | [d1, d2, d3] => { results := [.lit (.bool true)], args := [d1, d2, d3] }
  | _ => none }
def geometryWallsRow : OpenClaim := { program := "yteohbocjhfcbdaa", sum := "d6d7ae4af1f35f501782056709e8d26db5e8b3f043707e59b4829bc3e9d82f28", func := "hopmesh/hopmeshlaw05.GeometryWalls", spec := "geometryWalls", unfollowed := true, recurses := true, apart := false }
def GeometryWallsSaid : Prop := geometryWallsRow.holds Try.pinned (OpenSpec.ofChange geometryWallsSpec)

/-- ITS FALSE NEIGHBOUR: 'it returns false'. Refute it at one input. -/
def geometryWallsWrong : ChangeSpec := { name := "geometryWalls", fn := fun _ => fun
  | [d1, d2, d3] => { results := [.lit (.bool false)], args := [d1, d2, d3] }
  | _ => none }
def GeometryWallsWrongFalsely : Prop := geometryWallsRow.holds Try.pinned (OpenSpec.ofChange geometryWallsWrong)

/-- 'hopmeshlaw05.GeometryPowers': WHATEVER THE INPUT: true; the input reads as it did. -/
def geometryPowersSpec : ChangeSpec := { name := "geometryPowers", fn := fun _ => fun
  | [d1, d2] => { results := [.lit (.bool true)], args := [d1, d2] }
  | _ => none }
def geometryPowersRow : OpenClaim := { program := "yteohbocjhfcbdaa", sum := "d6d7ae4af1f35f501782056709e8d26db5e8b3f043707e59b4829bc3e9d82f28", func := "hopmesh/hopmeshlaw05.GeometryPowers", spec := "geometryPowers", unfollowed := true, recurses := true, apart := false }
def GeometryPowersSaid : Prop := geometryPowersRow.holds Try.pinned (OpenSpec.ofChange geometryPowersSpec)

/-- ITS FALSE NEIGHBOUR: 'it returns false'. Refute it at one input. -/
def geometryPowersWrong : ChangeSpec := { name := "geometryPowers", fn := fun _ => fun
  | [d1, d2] => { results := [.lit (.bool false)], args := [d1, d2] }
  | _ => none }
def GeometryPowersWrongFalsely : Prop := geometryPowersRow.holds Try.pinned (OpenSpec.ofChange geometryPowersWrong)

/-- 'hopmeshlaw05.GeometryFinds': WHATEVER THE INPUT: true; the input reads as it did. -/
def geometryFindsSpec : ChangeSpec := { name := "geometryFinds", fn := fun _ => fun
  | [d1, d2, d3] => { results := [.lit (.bool true)], args := [d1, d2, d3] }
  | _ => none }
def geometryFindsRow : OpenClaim := { program := "yteohbocjhfcbdaa", sum := "d6d7ae4af1f35f501782056709e8d26db5e8b3f043707e59b4829bc3e9d82f28", func := "hopmesh/hopmeshlaw05.GeometryFinds", spec := "geometryFinds", unfollowed := true, recurses := true, apart := false }
def GeometryFindsSaid : Prop := geometryFindsRow.holds Try.pinned (OpenSpec.ofChange geometryFindsSpec)

/-- ITS FALSE NEIGHBOUR: 'it returns false'. Refute it at one input. -/
def geometryFindsWrong : ChangeSpec := { name := "geometryFinds", fn := fun _ => fun
  | [d1, d2, d3] => { results := [.lit (.bool false)], args := [d1, d2, d3] }
  | _ => none }
def GeometryFindsWrongFalsely : Prop := geometryFindsRow.holds Try.pinned (OpenSpec.ofChange geometryFindsWrong)

/-- 'hopmeshlaw05.GeometryTables': WHATEVER THE INPUT: true; the input reads as it did. -/
def geometryTablesSpec : ChangeSpec := { name := "geometryTables", fn := fun _ => fun
  | [d] => { results := [.lit (.bool true)], args := [d] }
  | _ => none }
def geometryTablesRow : OpenClaim := { program := "yteohbocjhfcbdaa", sum := "d6d7ae4af1f35f501782056709e8d26db5e8b3f043707e59b4829bc3e9d82f28", func := "hopmesh/hopmeshlaw05.GeometryTables", spec := "geometryTables", unfollowed := true, recurses := true, apart := false }
def GeometryTablesSaid : Prop := geometryTablesRow.holds Try.pinned (OpenSpec.ofChange geometryTablesSpec)

/-- ITS FALSE NEIGHBOUR: 'it returns false'. Refute it at one input. -/
def geometryTablesWrong : ChangeSpec := { name := "geometryTables", fn := fun _ => fun
  | [d] => { results := [.lit (.bool false)], args := [d] }
  | _ => none }
def GeometryTablesWrongFalsely : Prop := geometryTablesRow.holds Try.pinned (OpenSpec.ofChange geometryTablesWrong)

/- THE SECOND FORM. 'bulk': how many values and letters a reading holds, each counted each time it is reached (what is shared counts as often as it is met; a slice's spare places count too). A statement '..UptoSaid' is the law's where the arguments, and the package variables that the reading takes, are together of bulk at most 1048576: NARROWER than '..Said'. Prove '..Said' where nothing that the law and all that it calls make is longer than what came in: it says more and counts as full. Else prove '..UptoSaid'. A law counts once. -/
mutual
def uptoBulk {H : Type} : DataW H → Nat
  | .lit (.string bytes) => bytes.length + 1
  | .lit _ => 1
  | .nil => 1
  | .ptr d => uptoBulk d + 1
  | .slice elems spare => uptoBulkAll elems + uptoBulkAll spare + 1
  | .agg parts => uptoBulkAll parts + 1
  | .iface _ d => uptoBulk d + 1
  | .map entries => uptoBulkEntries entries + 1
  | .held _ => 1
def uptoBulkAll {H : Type} : List (DataW H) → Nat
  | [] => 0
  | d :: r => uptoBulk d + uptoBulkAll r
def uptoBulkEntries {H : Type} : List (Lit × DataW H) → Nat
  | [] => 0
  | x :: r => uptoBulkEntry x + uptoBulkEntries r
def uptoBulkEntry {H : Type} : Lit × DataW H → Nat
  | (.string bytes, d) => bytes.length + uptoBulk d + 1
  | (_, d) => uptoBulk d + 1
 end
def uptoSmall : (H : Type) → List (DataW H) → Bool := fun _ ds => decide (uptoBulkAll ds ≤ 1048576)
def OpenSpec.upto (s : _root_.Go.ChangeSpec) : _root_.Go.OpenSpec := { _root_.Go.OpenSpec.ofChange s with cond := some uptoSmall }

/-- 'hopmeshlaw05.GeometryShapes', WHERE WHAT IT READS IS OF BULK AT MOST 1048576: true; the input reads as it did. -/
def geometryShapesUptoRow : OpenClaim := { program := "yteohbocjhfcbdaa", sum := "d6d7ae4af1f35f501782056709e8d26db5e8b3f043707e59b4829bc3e9d82f28", func := "hopmesh/hopmeshlaw05.GeometryShapes", spec := "geometryShapes", unfollowed := true, recurses := true, apart := false, narrowed := true }
def GeometryShapesUptoSaid : Prop := geometryShapesUptoRow.holds Try.pinned (OpenSpec.upto geometryShapesSpec)

/-- 'hopmeshlaw05.GeometryMoves', WHERE WHAT IT READS IS OF BULK AT MOST 1048576: true; the input reads as it did. -/
def geometryMovesUptoRow : OpenClaim := { program := "yteohbocjhfcbdaa", sum := "d6d7ae4af1f35f501782056709e8d26db5e8b3f043707e59b4829bc3e9d82f28", func := "hopmesh/hopmeshlaw05.GeometryMoves", spec := "geometryMoves", unfollowed := true, recurses := true, apart := false, narrowed := true }
def GeometryMovesUptoSaid : Prop := geometryMovesUptoRow.holds Try.pinned (OpenSpec.upto geometryMovesSpec)

/-- 'hopmeshlaw05.GeometryCrossings', WHERE WHAT IT READS IS OF BULK AT MOST 1048576: true; the input reads as it did. -/
def geometryCrossingsUptoRow : OpenClaim := { program := "yteohbocjhfcbdaa", sum := "d6d7ae4af1f35f501782056709e8d26db5e8b3f043707e59b4829bc3e9d82f28", func := "hopmesh/hopmeshlaw05.GeometryCrossings", spec := "geometryCrossings", unfollowed := true, recurses := true, apart := false, narrowed := true }
def GeometryCrossingsUptoSaid : Prop := geometryCrossingsUptoRow.holds Try.pinned (OpenSpec.upto geometryCrossingsSpec)

/-- 'hopmeshlaw05.GeometryDistances', WHERE WHAT IT READS IS OF BULK AT MOST 1048576: true; the input reads as it did. -/
def geometryDistancesUptoRow : OpenClaim := { program := "yteohbocjhfcbdaa", sum := "d6d7ae4af1f35f501782056709e8d26db5e8b3f043707e59b4829bc3e9d82f28", func := "hopmesh/hopmeshlaw05.GeometryDistances", spec := "geometryDistances", unfollowed := true, recurses := true, apart := false, narrowed := true }
def GeometryDistancesUptoSaid : Prop := geometryDistancesUptoRow.holds Try.pinned (OpenSpec.upto geometryDistancesSpec)

/-- 'hopmeshlaw05.GeometryWalls', WHERE WHAT IT READS IS OF BULK AT MOST 1048576: true; the input reads as it did. -/
def geometryWallsUptoRow : OpenClaim := { program := "yteohbocjhfcbdaa", sum := "d6d7ae4af1f35f501782056709e8d26db5e8b3f043707e59b4829bc3e9d82f28", func := "hopmesh/hopmeshlaw05.GeometryWalls", spec := "geometryWalls", unfollowed := true, recurses := true, apart := false, narrowed := true }
def GeometryWallsUptoSaid : Prop := geometryWallsUptoRow.holds Try.pinned (OpenSpec.upto geometryWallsSpec)

/-- 'hopmeshlaw05.GeometryPowers', WHERE WHAT IT READS IS OF BULK AT MOST 1048576: true; the input reads as it did. -/
def geometryPowersUptoRow : OpenClaim := { program := "yteohbocjhfcbdaa", sum := "d6d7ae4af1f35f501782056709e8d26db5e8b3f043707e59b4829bc3e9d82f28", func := "hopmesh/hopmeshlaw05.GeometryPowers", spec := "geometryPowers", unfollowed := true, recurses := true, apart := false, narrowed := true }
def GeometryPowersUptoSaid : Prop := geometryPowersUptoRow.holds Try.pinned (OpenSpec.upto geometryPowersSpec)

/-- 'hopmeshlaw05.GeometryFinds', WHERE WHAT IT READS IS OF BULK AT MOST 1048576: true; the input reads as it did. -/
def geometryFindsUptoRow : OpenClaim := { program := "yteohbocjhfcbdaa", sum := "d6d7ae4af1f35f501782056709e8d26db5e8b3f043707e59b4829bc3e9d82f28", func := "hopmesh/hopmeshlaw05.GeometryFinds", spec := "geometryFinds", unfollowed := true, recurses := true, apart := false, narrowed := true }
def GeometryFindsUptoSaid : Prop := geometryFindsUptoRow.holds Try.pinned (OpenSpec.upto geometryFindsSpec)

/-- 'hopmeshlaw05.GeometryTables', WHERE WHAT IT READS IS OF BULK AT MOST 1048576: true; the input reads as it did. -/
def geometryTablesUptoRow : OpenClaim := { program := "yteohbocjhfcbdaa", sum := "d6d7ae4af1f35f501782056709e8d26db5e8b3f043707e59b4829bc3e9d82f28", func := "hopmesh/hopmeshlaw05.GeometryTables", spec := "geometryTables", unfollowed := true, recurses := true, apart := false, narrowed := true }
def GeometryTablesUptoSaid : Prop := geometryTablesUptoRow.holds Try.pinned (OpenSpec.upto geometryTablesSpec)

end Rows
end Go.Proofs.Yteohbocjhfcbdaa
