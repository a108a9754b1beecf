/-
  No cell of these rows narrows 'for every input' (looked for: loops, veiled, ifaces, maps, wideKeys, modest, calm, conditions, laid).
  DERIVED. THE GIVEN ROWS OF THIS SEAT. 7 by the template 'for every input the law returns true; each argument reads behind the call as it read before'; 0 by the template 'total and deterministic' (their statements: YtomapffoalmodaaTotals.lean).
  GIVEN WITH THE SEED: the statements are not yours to turn. If you find one false, say at which input.
  Laid BY PROGRAM, IN A SANDBOX (cutbox-rows.mjs): the forced cells as the released guide's own fill.sh prints them over the translation 831ea477c9282a96… (all of the seat's roots in one cut). By AI agents, Wed Nov 11 2026. No macro, syntax, notation, axiom, sorry.
-/
import Derived.Test.YtomapffoalmodaaChecked
import GoSem.Claim
import GoSem.ClaimJoined
import GoSem.ClaimMapViews
import Derived.JoinedTies
import Derived.KernelRfl
namespace Go.Proofs.Ytomapffoalmodaa
/- THE CELL 'sum', in the pinned program and in every row, IS THE sha256 OF THE DUMP (.gsa) THAT YtomapffoalmodaaProg.lean LOADS. Nothing in Lean hashes anything: it is a label: what it is worth is what the hold of that sum in a sandbox is worth. -/
noncomputable def Try.pinned : Pinned := { name := "ytomapffoalmodaa", sum := "831ea477c9282a96c8125443141b2b211f59822046f4ed00ced76bcad70f07de", checked := Try.checked }
namespace Rows
def none {H : Type} : Left H := { results := [], args := [] }

/-- 'hopmeshlaw49.InstallNothing': WHATEVER THE INPUT: true; the input reads as it did. -/
def installNothingSpec : ChangeSpec := { name := "installNothing", fn := fun _ => fun
  | [d1, d2, d3] => { results := [.lit (.bool true)], args := [d1, d2, d3] }
  | _ => none }
def installNothingRow : OpenClaim := { program := "ytomapffoalmodaa", sum := "831ea477c9282a96c8125443141b2b211f59822046f4ed00ced76bcad70f07de", func := "hopmesh/hopmeshlaw49.InstallNothing", spec := "installNothing", inPlace := ["internal/abi.NoEscape", "internal/bytealg.MakeNoZero"], unfollowed := true, recurses := true, apart := false }
def InstallNothingSaid : Prop := installNothingRow.holds Try.pinned (OpenSpec.ofChange installNothingSpec)

/-- ITS FALSE NEIGHBOUR: 'it returns false'. Refute it at one input. -/
def installNothingWrong : ChangeSpec := { name := "installNothing", fn := fun _ => fun
  | [d1, d2, d3] => { results := [.lit (.bool false)], args := [d1, d2, d3] }
  | _ => none }
def InstallNothingWrongFalsely : Prop := installNothingRow.holds Try.pinned (OpenSpec.ofChange installNothingWrong)

/-- 'hopmeshlaw49.InstallCancelled': WHATEVER THE INPUT: true; the input reads as it did. -/
def installCancelledSpec : ChangeSpec := { name := "installCancelled", fn := fun _ => fun
  | [d1, d2, d3] => { results := [.lit (.bool true)], args := [d1, d2, d3] }
  | _ => none }
def installCancelledRow : OpenClaim := { program := "ytomapffoalmodaa", sum := "831ea477c9282a96c8125443141b2b211f59822046f4ed00ced76bcad70f07de", func := "hopmesh/hopmeshlaw49.InstallCancelled", spec := "installCancelled", inPlace := ["internal/abi.NoEscape", "internal/bytealg.MakeNoZero"], unfollowed := true, recurses := true, apart := false }
def InstallCancelledSaid : Prop := installCancelledRow.holds Try.pinned (OpenSpec.ofChange installCancelledSpec)

/-- ITS FALSE NEIGHBOUR: 'it returns false'. Refute it at one input. -/
def installCancelledWrong : ChangeSpec := { name := "installCancelled", fn := fun _ => fun
  | [d1, d2, d3] => { results := [.lit (.bool false)], args := [d1, d2, d3] }
  | _ => none }
def InstallCancelledWrongFalsely : Prop := installCancelledRow.holds Try.pinned (OpenSpec.ofChange installCancelledWrong)

/-- 'hopmeshlaw49.InstallEncodes': WHATEVER THE INPUT: true; the input reads as it did. -/
def installEncodesSpec : ChangeSpec := { name := "installEncodes", fn := fun _ => fun
  | [d1, d2] => { results := [.lit (.bool true)], args := [d1, d2] }
  | _ => none }
def installEncodesRow : OpenClaim := { program := "ytomapffoalmodaa", sum := "831ea477c9282a96c8125443141b2b211f59822046f4ed00ced76bcad70f07de", func := "hopmesh/hopmeshlaw49.InstallEncodes", spec := "installEncodes", inPlace := ["internal/abi.NoEscape", "internal/bytealg.MakeNoZero"], unfollowed := true, recurses := true, apart := false }
def InstallEncodesSaid : Prop := installEncodesRow.holds Try.pinned (OpenSpec.ofChange installEncodesSpec)

/-- ITS FALSE NEIGHBOUR: 'it returns false'. Refute it at one input. -/
def installEncodesWrong : ChangeSpec := { name := "installEncodes", fn := fun _ => fun
  | [d1, d2] => { results := [.lit (.bool false)], args := [d1, d2] }
  | _ => none }
def InstallEncodesWrongFalsely : Prop := installEncodesRow.holds Try.pinned (OpenSpec.ofChange installEncodesWrong)

/-- 'hopmeshlaw49.InstallBoards': WHATEVER THE INPUT: true; the input reads as it did. -/
def installBoardsSpec : ChangeSpec := { name := "installBoards", fn := fun _ => fun
  | [d1, d2, d3, d4] => { results := [.lit (.bool true)], args := [d1, d2, d3, d4] }
  | _ => none }
def installBoardsRow : OpenClaim := { program := "ytomapffoalmodaa", sum := "831ea477c9282a96c8125443141b2b211f59822046f4ed00ced76bcad70f07de", func := "hopmesh/hopmeshlaw49.InstallBoards", spec := "installBoards", inPlace := ["internal/abi.NoEscape", "internal/bytealg.MakeNoZero"], unfollowed := true, recurses := true, apart := false }
def InstallBoardsSaid : Prop := installBoardsRow.holds Try.pinned (OpenSpec.ofChange installBoardsSpec)

/-- ITS FALSE NEIGHBOUR: 'it returns false'. Refute it at one input. -/
def installBoardsWrong : ChangeSpec := { name := "installBoards", fn := fun _ => fun
  | [d1, d2, d3, d4] => { results := [.lit (.bool false)], args := [d1, d2, d3, d4] }
  | _ => none }
def InstallBoardsWrongFalsely : Prop := installBoardsRow.holds Try.pinned (OpenSpec.ofChange installBoardsWrong)

/-- 'hopmeshlaw49.InstallNumbers': WHATEVER THE INPUT: true; the input reads as it did. -/
def installNumbersSpec : ChangeSpec := { name := "installNumbers", fn := fun _ => fun
  | [d1, d2] => { results := [.lit (.bool true)], args := [d1, d2] }
  | _ => none }
def installNumbersRow : OpenClaim := { program := "ytomapffoalmodaa", sum := "831ea477c9282a96c8125443141b2b211f59822046f4ed00ced76bcad70f07de", func := "hopmesh/hopmeshlaw49.InstallNumbers", spec := "installNumbers", inPlace := ["internal/abi.NoEscape", "internal/bytealg.MakeNoZero"], unfollowed := true, recurses := true, apart := false }
def InstallNumbersSaid : Prop := installNumbersRow.holds Try.pinned (OpenSpec.ofChange installNumbersSpec)

/-- ITS FALSE NEIGHBOUR: 'it returns false'. Refute it at one input. -/
def installNumbersWrong : ChangeSpec := { name := "installNumbers", fn := fun _ => fun
  | [d1, d2] => { results := [.lit (.bool false)], args := [d1, d2] }
  | _ => none }
def InstallNumbersWrongFalsely : Prop := installNumbersRow.holds Try.pinned (OpenSpec.ofChange installNumbersWrong)

/-- 'hopmeshlaw49.InstallTogether': WHATEVER THE INPUT: true; the input reads as it did. -/
def installTogetherSpec : ChangeSpec := { name := "installTogether", fn := fun _ => fun
  | [d1, d2, d3] => { results := [.lit (.bool true)], args := [d1, d2, d3] }
  | _ => none }
def installTogetherRow : OpenClaim := { program := "ytomapffoalmodaa", sum := "831ea477c9282a96c8125443141b2b211f59822046f4ed00ced76bcad70f07de", func := "hopmesh/hopmeshlaw49.InstallTogether", spec := "installTogether", inPlace := ["internal/abi.NoEscape", "internal/bytealg.MakeNoZero"], unfollowed := true, recurses := true, apart := false }
def InstallTogetherSaid : Prop := installTogetherRow.holds Try.pinned (OpenSpec.ofChange installTogetherSpec)

/-- ITS FALSE NEIGHBOUR: 'it returns false'. Refute it at one input. -/
def installTogetherWrong : ChangeSpec := { name := "installTogether", fn := fun _ => fun
  | [d1, d2, d3] => { results := [.lit (.bool false)], args := [d1, d2, d3] }
  | _ => none }
def InstallTogetherWrongFalsely : Prop := installTogetherRow.holds Try.pinned (OpenSpec.ofChange installTogetherWrong)

/-- 'hopmeshlaw49.InstallAgreed': WHATEVER THE INPUT: true; the input reads as it did. -/
def installAgreedSpec : ChangeSpec := { name := "installAgreed", fn := fun _ => fun
  | [d1, d2, d3] => { results := [.lit (.bool true)], args := [d1, d2, d3] }
  | _ => none }
def installAgreedRow : OpenClaim := { program := "ytomapffoalmodaa", sum := "831ea477c9282a96c8125443141b2b211f59822046f4ed00ced76bcad70f07de", func := "hopmesh/hopmeshlaw49.InstallAgreed", spec := "installAgreed", inPlace := ["internal/abi.NoEscape", "internal/bytealg.MakeNoZero"], unfollowed := true, recurses := true, apart := false }
def InstallAgreedSaid : Prop := installAgreedRow.holds Try.pinned (OpenSpec.ofChange installAgreedSpec)

/-- ITS FALSE NEIGHBOUR: 'it returns false'. Refute it at one input. -/
def installAgreedWrong : ChangeSpec := { name := "installAgreed", fn := fun _ => fun
  | [d1, d2, d3] => { results := [.lit (.bool false)], args := [d1, d2, d3] }
  | _ => none }
def InstallAgreedWrongFalsely : Prop := installAgreedRow.holds Try.pinned (OpenSpec.ofChange installAgreedWrong)

/- THE SECOND FORM. 'bulk': how many values and letters a reading holds, each counted each time it is reached (what is shared counts as often as it is met; a slice's spare places count too). A statement '..UptoSaid' is the law's where the arguments, and the package variables that the reading takes, are together of bulk at most 1048576: NARROWER than '..Said'. Prove '..Said' where nothing that the law and all that it calls make is longer than what came in: it says more and counts as full. Else prove '..UptoSaid'. A law counts once. -/
mutual
def uptoBulk {H : Type} : DataW H → Nat
  | .lit (.string bytes) => bytes.length + 1
  | .lit _ => 1
  | .nil => 1
  | .ptr d => uptoBulk d + 1
  | .slice elems spare => uptoBulkAll elems + uptoBulkAll spare + 1
  | .agg parts => uptoBulkAll parts + 1
  | .iface _ d => uptoBulk d + 1
  | .map entries => uptoBulkEntries entries + 1
  | .held _ => 1
def uptoBulkAll {H : Type} : List (DataW H) → Nat
  | [] => 0
  | d :: r => uptoBulk d + uptoBulkAll r
def uptoBulkEntries {H : Type} : List (Lit × DataW H) → Nat
  | [] => 0
  | x :: r => uptoBulkEntry x + uptoBulkEntries r
def uptoBulkEntry {H : Type} : Lit × DataW H → Nat
  | (.string bytes, d) => bytes.length + uptoBulk d + 1
  | (_, d) => uptoBulk d + 1
 end
def uptoSmall : (H : Type) → List (DataW H) → Bool := fun _ ds => decide (uptoBulkAll ds ≤ 1048576)
def OpenSpec.upto (s : _root_.Go.ChangeSpec) : _root_.Go.OpenSpec := { _root_.Go.OpenSpec.ofChange s with cond := some uptoSmall }

/-- 'hopmeshlaw49.InstallNothing', WHERE WHAT IT READS IS OF BULK AT MOST 1048576: true; the input reads as it did. -/
def installNothingUptoRow : OpenClaim := { program := "ytomapffoalmodaa", sum := "831ea477c9282a96c8125443141b2b211f59822046f4ed00ced76bcad70f07de", func := "hopmesh/hopmeshlaw49.InstallNothing", spec := "installNothing", inPlace := ["internal/abi.NoEscape", "internal/bytealg.MakeNoZero"], unfollowed := true, recurses := true, apart := false, narrowed := true }
def InstallNothingUptoSaid : Prop := installNothingUptoRow.holds Try.pinned (OpenSpec.upto installNothingSpec)

/-- 'hopmeshlaw49.InstallCancelled', WHERE WHAT IT READS IS OF BULK AT MOST 1048576: true; the input reads as it did. -/
def installCancelledUptoRow : OpenClaim := { program := "ytomapffoalmodaa", sum := "831ea477c9282a96c8125443141b2b211f59822046f4ed00ced76bcad70f07de", func := "hopmesh/hopmeshlaw49.InstallCancelled", spec := "installCancelled", inPlace := ["internal/abi.NoEscape", "internal/bytealg.MakeNoZero"], unfollowed := true, recurses := true, apart := false, narrowed := true }
def InstallCancelledUptoSaid : Prop := installCancelledUptoRow.holds Try.pinned (OpenSpec.upto installCancelledSpec)

/-- 'hopmeshlaw49.InstallEncodes', WHERE WHAT IT READS IS OF BULK AT MOST 1048576: true; the input reads as it did. -/
def installEncodesUptoRow : OpenClaim := { program := "ytomapffoalmodaa", sum := "831ea477c9282a96c8125443141b2b211f59822046f4ed00ced76bcad70f07de", func := "hopmesh/hopmeshlaw49.InstallEncodes", spec := "installEncodes", inPlace := ["internal/abi.NoEscape", "internal/bytealg.MakeNoZero"], unfollowed := true, recurses := true, apart := false, narrowed := true }
def InstallEncodesUptoSaid : Prop := installEncodesUptoRow.holds Try.pinned (OpenSpec.upto installEncodesSpec)

/-- 'hopmeshlaw49.InstallBoards', WHERE WHAT IT READS IS OF BULK AT MOST 1048576: true; the input reads as it did. -/
def installBoardsUptoRow : OpenClaim := { program := "ytomapffoalmodaa", sum := "831ea477c9282a96c8125443141b2b211f59822046f4ed00ced76bcad70f07de", func := "hopmesh/hopmeshlaw49.InstallBoards", spec := "installBoards", inPlace := ["internal/abi.NoEscape", "internal/bytealg.MakeNoZero"], unfollowed := true, recurses := true, apart := false, narrowed := true }
def InstallBoardsUptoSaid : Prop := installBoardsUptoRow.holds Try.pinned (OpenSpec.upto installBoardsSpec)

/-- 'hopmeshlaw49.InstallNumbers', WHERE WHAT IT READS IS OF BULK AT MOST 1048576: true; the input reads as it did. -/
def installNumbersUptoRow : OpenClaim := { program := "ytomapffoalmodaa", sum := "831ea477c9282a96c8125443141b2b211f59822046f4ed00ced76bcad70f07de", func := "hopmesh/hopmeshlaw49.InstallNumbers", spec := "installNumbers", inPlace := ["internal/abi.NoEscape", "internal/bytealg.MakeNoZero"], unfollowed := true, recurses := true, apart := false, narrowed := true }
def InstallNumbersUptoSaid : Prop := installNumbersUptoRow.holds Try.pinned (OpenSpec.upto installNumbersSpec)

/-- 'hopmeshlaw49.InstallTogether', WHERE WHAT IT READS IS OF BULK AT MOST 1048576: true; the input reads as it did. -/
def installTogetherUptoRow : OpenClaim := { program := "ytomapffoalmodaa", sum := "831ea477c9282a96c8125443141b2b211f59822046f4ed00ced76bcad70f07de", func := "hopmesh/hopmeshlaw49.InstallTogether", spec := "installTogether", inPlace := ["internal/abi.NoEscape", "internal/bytealg.MakeNoZero"], unfollowed := true, recurses := true, apart := false, narrowed := true }
def InstallTogetherUptoSaid : Prop := installTogetherUptoRow.holds Try.pinned (OpenSpec.upto installTogetherSpec)

/-- 'hopmeshlaw49.InstallAgreed', WHERE WHAT IT READS IS OF BULK AT MOST 1048576: true; the input reads as it did. -/
def installAgreedUptoRow : OpenClaim := { program := "ytomapffoalmodaa", sum := "831ea477c9282a96c8125443141b2b211f59822046f4ed00ced76bcad70f07de", func := "hopmesh/hopmeshlaw49.InstallAgreed", spec := "installAgreed", inPlace := ["internal/abi.NoEscape", "internal/bytealg.MakeNoZero"], unfollowed := true, recurses := true, apart := false, narrowed := true }
def InstallAgreedUptoSaid : Prop := installAgreedUptoRow.holds Try.pinned (OpenSpec.upto installAgreedSpec)

end Rows
end Go.Proofs.Ytomapffoalmodaa
