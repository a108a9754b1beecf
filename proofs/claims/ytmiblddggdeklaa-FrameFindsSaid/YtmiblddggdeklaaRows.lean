/-
  No cell of these rows narrows 'for every input' (looked for: loops, veiled, ifaces, maps, wideKeys, modest, calm, conditions, laid).
  DERIVED. THE GIVEN ROWS OF THIS SEAT. 7 by the template 'for every input the law returns true; each argument reads behind the call as it read before'; 0 by the template 'total and deterministic' (their statements: YtmiblddggdeklaaTotals.lean).
  GIVEN WITH THE SEED: the statements are not yours to turn. If you find one false, say at which input.
  Laid BY PROGRAM, IN A SANDBOX (cutbox-rows.mjs): the forced cells as the released guide's own fill.sh prints them over the translation b9d1150f3ac2a0ab… (all of the seat's roots in one cut). By AI agents, Wed Nov 11 2026. No macro, syntax, notation, axiom, sorry.
-/
import Derived.Test.YtmiblddggdeklaaChecked
import GoSem.Claim
import GoSem.ClaimJoined
import GoSem.ClaimMapViews
import Derived.JoinedTies
import Derived.KernelRfl
namespace Go.Proofs.Ytmiblddggdeklaa
/- THE CELL 'sum', in the pinned program and in every row, IS THE sha256 OF THE DUMP (.gsa) THAT YtmiblddggdeklaaProg.lean LOADS. Nothing in Lean hashes anything: it is a label: what it is worth is what the hold of that sum in a sandbox is worth. -/
noncomputable def Try.pinned : Pinned := { name := "ytmiblddggdeklaa", sum := "b9d1150f3ac2a0ab3e1f474a5221e691eaca15ce50c74103d537a5255be18c2b", checked := Try.checked }
namespace Rows
def none {H : Type} : Left H := { results := [], args := [] }

/-- 'hopmeshlaw13.FrameEncodes': WHATEVER THE INPUT: true; the input reads as it did. -/
def frameEncodesSpec : ChangeSpec := { name := "frameEncodes", fn := fun _ => fun
  | [d] => { results := [.lit (.bool true)], args := [d] }
  | _ => none }
def frameEncodesRow : OpenClaim := { program := "ytmiblddggdeklaa", sum := "b9d1150f3ac2a0ab3e1f474a5221e691eaca15ce50c74103d537a5255be18c2b", func := "hopmesh/hopmeshlaw13.FrameEncodes", spec := "frameEncodes", unfollowed := true, recurses := true, apart := false }
def FrameEncodesSaid : Prop := frameEncodesRow.holds Try.pinned (OpenSpec.ofChange frameEncodesSpec)

/-- ITS FALSE NEIGHBOUR: 'it returns false'. Refute it at one input. -/
def frameEncodesWrong : ChangeSpec := { name := "frameEncodes", fn := fun _ => fun
  | [d] => { results := [.lit (.bool false)], args := [d] }
  | _ => none }
def FrameEncodesWrongFalsely : Prop := frameEncodesRow.holds Try.pinned (OpenSpec.ofChange frameEncodesWrong)

/-- 'hopmeshlaw13.FrameTimes': WHATEVER THE INPUT: true; the input reads as it did. -/
def frameTimesSpec : ChangeSpec := { name := "frameTimes", fn := fun _ => fun
  | [d1, d2, d3] => { results := [.lit (.bool true)], args := [d1, d2, d3] }
  | _ => none }
def frameTimesRow : OpenClaim := { program := "ytmiblddggdeklaa", sum := "b9d1150f3ac2a0ab3e1f474a5221e691eaca15ce50c74103d537a5255be18c2b", func := "hopmesh/hopmeshlaw13.FrameTimes", spec := "frameTimes", unfollowed := true, recurses := true, apart := false }
def FrameTimesSaid : Prop := frameTimesRow.holds Try.pinned (OpenSpec.ofChange frameTimesSpec)

/-- ITS FALSE NEIGHBOUR: 'it returns false'. Refute it at one input. -/
def frameTimesWrong : ChangeSpec := { name := "frameTimes", fn := fun _ => fun
  | [d1, d2, d3] => { results := [.lit (.bool false)], args := [d1, d2, d3] }
  | _ => none }
def FrameTimesWrongFalsely : Prop := frameTimesRow.holds Try.pinned (OpenSpec.ofChange frameTimesWrong)

/-- 'hopmeshlaw13.FrameDecodes': WHATEVER THE INPUT: true; the input reads as it did. -/
def frameDecodesSpec : ChangeSpec := { name := "frameDecodes", fn := fun _ => fun
  | [d] => { results := [.lit (.bool true)], args := [d] }
  | _ => none }
def frameDecodesRow : OpenClaim := { program := "ytmiblddggdeklaa", sum := "b9d1150f3ac2a0ab3e1f474a5221e691eaca15ce50c74103d537a5255be18c2b", func := "hopmesh/hopmeshlaw13.FrameDecodes", spec := "frameDecodes", unfollowed := true, recurses := true, apart := false }
def FrameDecodesSaid : Prop := frameDecodesRow.holds Try.pinned (OpenSpec.ofChange frameDecodesSpec)

/-- ITS FALSE NEIGHBOUR: 'it returns false'. Refute it at one input. -/
def frameDecodesWrong : ChangeSpec := { name := "frameDecodes", fn := fun _ => fun
  | [d] => { results := [.lit (.bool false)], args := [d] }
  | _ => none }
def FrameDecodesWrongFalsely : Prop := frameDecodesRow.holds Try.pinned (OpenSpec.ofChange frameDecodesWrong)

/-- 'hopmeshlaw13.FrameBack': WHATEVER THE INPUT: true; the input reads as it did. -/
def frameBackSpec : ChangeSpec := { name := "frameBack", fn := fun _ => fun
  | [d] => { results := [.lit (.bool true)], args := [d] }
  | _ => none }
def frameBackRow : OpenClaim := { program := "ytmiblddggdeklaa", sum := "b9d1150f3ac2a0ab3e1f474a5221e691eaca15ce50c74103d537a5255be18c2b", func := "hopmesh/hopmeshlaw13.FrameBack", spec := "frameBack", unfollowed := true, recurses := true, apart := false }
def FrameBackSaid : Prop := frameBackRow.holds Try.pinned (OpenSpec.ofChange frameBackSpec)

/-- ITS FALSE NEIGHBOUR: 'it returns false'. Refute it at one input. -/
def frameBackWrong : ChangeSpec := { name := "frameBack", fn := fun _ => fun
  | [d] => { results := [.lit (.bool false)], args := [d] }
  | _ => none }
def FrameBackWrongFalsely : Prop := frameBackRow.holds Try.pinned (OpenSpec.ofChange frameBackWrong)

/-- 'hopmeshlaw13.FrameStrict': WHATEVER THE INPUT: true; the input reads as it did. -/
def frameStrictSpec : ChangeSpec := { name := "frameStrict", fn := fun _ => fun
  | [d] => { results := [.lit (.bool true)], args := [d] }
  | _ => none }
def frameStrictRow : OpenClaim := { program := "ytmiblddggdeklaa", sum := "b9d1150f3ac2a0ab3e1f474a5221e691eaca15ce50c74103d537a5255be18c2b", func := "hopmesh/hopmeshlaw13.FrameStrict", spec := "frameStrict", unfollowed := true, recurses := true, apart := false }
def FrameStrictSaid : Prop := frameStrictRow.holds Try.pinned (OpenSpec.ofChange frameStrictSpec)

/-- ITS FALSE NEIGHBOUR: 'it returns false'. Refute it at one input. -/
def frameStrictWrong : ChangeSpec := { name := "frameStrict", fn := fun _ => fun
  | [d] => { results := [.lit (.bool false)], args := [d] }
  | _ => none }
def FrameStrictWrongFalsely : Prop := frameStrictRow.holds Try.pinned (OpenSpec.ofChange frameStrictWrong)

/-- 'hopmeshlaw13.FrameFinds': WHATEVER THE INPUT: true; the input reads as it did. -/
def frameFindsSpec : ChangeSpec := { name := "frameFinds", fn := fun _ => fun
  | [d1, d2, d3] => { results := [.lit (.bool true)], args := [d1, d2, d3] }
  | _ => none }
def frameFindsRow : OpenClaim := { program := "ytmiblddggdeklaa", sum := "b9d1150f3ac2a0ab3e1f474a5221e691eaca15ce50c74103d537a5255be18c2b", func := "hopmesh/hopmeshlaw13.FrameFinds", spec := "frameFinds", unfollowed := true, recurses := true, apart := false }
def FrameFindsSaid : Prop := frameFindsRow.holds Try.pinned (OpenSpec.ofChange frameFindsSpec)

/-- ITS FALSE NEIGHBOUR: 'it returns false'. Refute it at one input. -/
def frameFindsWrong : ChangeSpec := { name := "frameFinds", fn := fun _ => fun
  | [d1, d2, d3] => { results := [.lit (.bool false)], args := [d1, d2, d3] }
  | _ => none }
def FrameFindsWrongFalsely : Prop := frameFindsRow.holds Try.pinned (OpenSpec.ofChange frameFindsWrong)

/-- 'hopmeshlaw13.FrameRooms': WHATEVER THE INPUT: true; the input reads as it did. -/
def frameRoomsSpec : ChangeSpec := { name := "frameRooms", fn := fun _ => fun
  | [d] => { results := [.lit (.bool true)], args := [d] }
  | _ => none }
def frameRoomsRow : OpenClaim := { program := "ytmiblddggdeklaa", sum := "b9d1150f3ac2a0ab3e1f474a5221e691eaca15ce50c74103d537a5255be18c2b", func := "hopmesh/hopmeshlaw13.FrameRooms", spec := "frameRooms", inPlace := ["internal/abi.NoEscape", "internal/bytealg.MakeNoZero"], unfollowed := true, recurses := true, apart := false }
def FrameRoomsSaid : Prop := frameRoomsRow.holds Try.pinned (OpenSpec.ofChange frameRoomsSpec)

/-- ITS FALSE NEIGHBOUR: 'it returns false'. Refute it at one input. -/
def frameRoomsWrong : ChangeSpec := { name := "frameRooms", fn := fun _ => fun
  | [d] => { results := [.lit (.bool false)], args := [d] }
  | _ => none }
def FrameRoomsWrongFalsely : Prop := frameRoomsRow.holds Try.pinned (OpenSpec.ofChange frameRoomsWrong)

/- THE SECOND FORM. 'bulk': how many values and letters a reading holds, each counted each time it is reached (what is shared counts as often as it is met; a slice's spare places count too). A statement '..UptoSaid' is the law's where the arguments, and the package variables that the reading takes, are together of bulk at most 1048576: NARROWER than '..Said'. Prove '..Said' where nothing that the law and all that it calls make is longer than what came in: it says more and counts as full. Else prove '..UptoSaid'. A law counts once. -/
mutual
def uptoBulk {H : Type} : DataW H → Nat
  | .lit (.string bytes) => bytes.length + 1
  | .lit _ => 1
  | .nil => 1
  | .ptr d => uptoBulk d + 1
  | .slice elems spare => uptoBulkAll elems + uptoBulkAll spare + 1
  | .agg parts => uptoBulkAll parts + 1
  | .iface _ d => uptoBulk d + 1
  | .map entries => uptoBulkEntries entries + 1
  | .held _ => 1
def uptoBulkAll {H : Type} : List (DataW H) → Nat
  | [] => 0
  | d :: r => uptoBulk d + uptoBulkAll r
def uptoBulkEntries {H : Type} : List (Lit × DataW H) → Nat
  | [] => 0
  | x :: r => uptoBulkEntry x + uptoBulkEntries r
def uptoBulkEntry {H : Type} : Lit × DataW H → Nat
  | (.string bytes, d) => bytes.length + uptoBulk d + 1
  | (_, d) => uptoBulk d + 1
 end
def uptoSmall : (H : Type) → List (DataW H) → Bool := fun _ ds => decide (uptoBulkAll ds ≤ 1048576)
def OpenSpec.upto (s : _root_.Go.ChangeSpec) : _root_.Go.OpenSpec := { _root_.Go.OpenSpec.ofChange s with cond := some uptoSmall }

/-- 'hopmeshlaw13.FrameEncodes', WHERE WHAT IT READS IS OF BULK AT MOST 1048576: true; the input reads as it did. -/
def frameEncodesUptoRow : OpenClaim := { program := "ytmiblddggdeklaa", sum := "b9d1150f3ac2a0ab3e1f474a5221e691eaca15ce50c74103d537a5255be18c2b", func := "hopmesh/hopmeshlaw13.FrameEncodes", spec := "frameEncodes", unfollowed := true, recurses := true, apart := false, narrowed := true }
def FrameEncodesUptoSaid : Prop := frameEncodesUptoRow.holds Try.pinned (OpenSpec.upto frameEncodesSpec)

/-- 'hopmeshlaw13.FrameTimes', WHERE WHAT IT READS IS OF BULK AT MOST 1048576: true; the input reads as it did. -/
def frameTimesUptoRow : OpenClaim := { program := "ytmiblddggdeklaa", sum := "b9d1150f3ac2a0ab3e1f474a5221e691eaca15ce50c74103d537a5255be18c2b", func := "hopmesh/hopmeshlaw13.FrameTimes", spec := "frameTimes", unfollowed := true, recurses := true, apart := false, narrowed := true }
def FrameTimesUptoSaid : Prop := frameTimesUptoRow.holds Try.pinned (OpenSpec.upto frameTimesSpec)

/-- 'hopmeshlaw13.FrameDecodes', WHERE WHAT IT READS IS OF BULK AT MOST 1048576: true; the input reads as it did. -/
def frameDecodesUptoRow : OpenClaim := { program := "ytmiblddggdeklaa", sum := "b9d1150f3ac2a0ab3e1f474a5221e691eaca15ce50c74103d537a5255be18c2b", func := "hopmesh/hopmeshlaw13.FrameDecodes", spec := "frameDecodes", unfollowed := true, recurses := true, apart := false, narrowed := true }
def FrameDecodesUptoSaid : Prop := frameDecodesUptoRow.holds Try.pinned (OpenSpec.upto frameDecodesSpec)

/-- 'hopmeshlaw13.FrameBack', WHERE WHAT IT READS IS OF BULK AT MOST 1048576: true; the input reads as it did. -/
def frameBackUptoRow : OpenClaim := { program := "ytmiblddggdeklaa", sum := "b9d1150f3ac2a0ab3e1f474a5221e691eaca15ce50c74103d537a5255be18c2b", func := "hopmesh/hopmeshlaw13.FrameBack", spec := "frameBack", unfollowed := true, recurses := true, apart := false, narrowed := true }
def FrameBackUptoSaid : Prop := frameBackUptoRow.holds Try.pinned (OpenSpec.upto frameBackSpec)

/-- 'hopmeshlaw13.FrameStrict', WHERE WHAT IT READS IS OF BULK AT MOST 1048576: true; the input reads as it did. -/
def frameStrictUptoRow : OpenClaim := { program := "ytmiblddggdeklaa", sum := "b9d1150f3ac2a0ab3e1f474a5221e691eaca15ce50c74103d537a5255be18c2b", func := "hopmesh/hopmeshlaw13.FrameStrict", spec := "frameStrict", unfollowed := true, recurses := true, apart := false, narrowed := true }
def FrameStrictUptoSaid : Prop := frameStrictUptoRow.holds Try.pinned (OpenSpec.upto frameStrictSpec)

/-- 'hopmeshlaw13.FrameFinds', WHERE WHAT IT READS IS OF BULK AT MOST 1048576: true; the input reads as it did. -/
def frameFindsUptoRow : OpenClaim := { program := "ytmiblddggdeklaa", sum := "b9d1150f3ac2a0ab3e1f474a5221e691eaca15ce50c74103d537a5255be18c2b", func := "hopmesh/hopmeshlaw13.FrameFinds", spec := "frameFinds", unfollowed := true, recurses := true, apart := false, narrowed := true }
def FrameFindsUptoSaid : Prop := frameFindsUptoRow.holds Try.pinned (OpenSpec.upto frameFindsSpec)

/-- 'hopmeshlaw13.FrameRooms', WHERE WHAT IT READS IS OF BULK AT MOST 1048576: true; the input reads as it did. -/
def frameRoomsUptoRow : OpenClaim := { program := "ytmiblddggdeklaa", sum := "b9d1150f3ac2a0ab3e1f474a5221e691eaca15ce50c74103d537a5255be18c2b", func := "hopmesh/hopmeshlaw13.FrameRooms", spec := "frameRooms", inPlace := ["internal/abi.NoEscape", "internal/bytealg.MakeNoZero"], unfollowed := true, recurses := true, apart := false, narrowed := true }
def FrameRoomsUptoSaid : Prop := frameRoomsUptoRow.holds Try.pinned (OpenSpec.upto frameRoomsSpec)

end Rows
end Go.Proofs.Ytmiblddggdeklaa
