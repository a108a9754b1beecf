/-
  No cell of these rows narrows 'for every input' (looked for: loops, veiled, ifaces, maps, wideKeys, modest, calm, conditions, laid).
  DERIVED. THE GIVEN ROWS OF THIS SEAT. 3 by the template 'for every input the law returns true; each argument reads behind the call as it read before'; 0 by the template 'total and deterministic' (their statements: YtlkjiffohmkidaaGreatTotals.lean).
  GIVEN WITH THE SEED: the statements are not yours to turn. If you find one false, say at which input.
  Laid BY PROGRAM, IN A SANDBOX (cutbox-rows.mjs): the forced cells as the released guide's own fill.sh prints them over the translation 1bdd5c0d6646f7de… (all of the seat's roots in one cut). By AI agents, Wed Nov 11 2026. No macro, syntax, notation, axiom, sorry.
-/
import Derived.Test.YtlkjiffohmkidaaGreatChecked
import GoSem.Claim
import GoSem.ClaimJoined
import GoSem.ClaimMapViews
import Derived.JoinedTies
import Derived.KernelRfl
namespace Go.Proofs.YtlkjiffohmkidaaGreat
/- THE CELL 'sum', in the pinned program and in every row, IS THE sha256 OF THE DUMP (.gsa) THAT YtlkjiffohmkidaaGreatProg.lean LOADS. Nothing in Lean hashes anything: it is a label: what it is worth is what the hold of that sum in a sandbox is worth. -/
noncomputable def Tryz.pinned : Pinned := { name := "ytlkjiffohmkidaagreat", sum := "1bdd5c0d6646f7de45d6b08f594e71c5b3107c4b9a81971c6191c7206b8c75db", checked := Tryz.checked }
namespace Rows
def none {H : Type} : Left H := { results := [], args := [] }

/-- 'hopmeshtop.TopGuard': WHATEVER THE INPUT: true; the input reads as it did. -/
def topGuardSpec : ChangeSpec := { name := "topGuard", fn := fun _ => fun
  | [d1, d2, d3] => { results := [.lit (.bool true)], args := [d1, d2, d3] }
  | _ => none }
def topGuardRow : OpenClaim := { program := "ytlkjiffohmkidaagreat", sum := "1bdd5c0d6646f7de45d6b08f594e71c5b3107c4b9a81971c6191c7206b8c75db", func := "hopmesh/hopmeshtop.TopGuard", spec := "topGuard", unfollowed := true, recurses := true, apart := false }
def TopGuardSaid : Prop := topGuardRow.holds Tryz.pinned (OpenSpec.ofChange topGuardSpec)

/-- ITS FALSE NEIGHBOUR: 'it returns false'. Refute it at one input. -/
def topGuardWrong : ChangeSpec := { name := "topGuard", fn := fun _ => fun
  | [d1, d2, d3] => { results := [.lit (.bool false)], args := [d1, d2, d3] }
  | _ => none }
def TopGuardWrongFalsely : Prop := topGuardRow.holds Tryz.pinned (OpenSpec.ofChange topGuardWrong)

/-- 'hopmeshtop.TopOffsets': WHATEVER THE INPUT: true; the input reads as it did. -/
def topOffsetsSpec : ChangeSpec := { name := "topOffsets", fn := fun _ => fun
  | [d1, d2, d3] => { results := [.lit (.bool true)], args := [d1, d2, d3] }
  | _ => none }
def topOffsetsRow : OpenClaim := { program := "ytlkjiffohmkidaagreat", sum := "1bdd5c0d6646f7de45d6b08f594e71c5b3107c4b9a81971c6191c7206b8c75db", func := "hopmesh/hopmeshtop.TopOffsets", spec := "topOffsets", unfollowed := true, recurses := true, apart := false }
def TopOffsetsSaid : Prop := topOffsetsRow.holds Tryz.pinned (OpenSpec.ofChange topOffsetsSpec)

/-- ITS FALSE NEIGHBOUR: 'it returns false'. Refute it at one input. -/
def topOffsetsWrong : ChangeSpec := { name := "topOffsets", fn := fun _ => fun
  | [d1, d2, d3] => { results := [.lit (.bool false)], args := [d1, d2, d3] }
  | _ => none }
def TopOffsetsWrongFalsely : Prop := topOffsetsRow.holds Tryz.pinned (OpenSpec.ofChange topOffsetsWrong)

/-- 'hopmeshtop.TopFragments': WHATEVER THE INPUT: true; the input reads as it did. -/
def topFragmentsSpec : ChangeSpec := { name := "topFragments", fn := fun _ => fun
  | [d1, d2, d3] => { results := [.lit (.bool true)], args := [d1, d2, d3] }
  | _ => none }
def topFragmentsRow : OpenClaim := { program := "ytlkjiffohmkidaagreat", sum := "1bdd5c0d6646f7de45d6b08f594e71c5b3107c4b9a81971c6191c7206b8c75db", func := "hopmesh/hopmeshtop.TopFragments", spec := "topFragments", inPlace := ["internal/abi.NoEscape", "internal/bytealg.MakeNoZero"], unfollowed := true, recurses := true, apart := false }
def TopFragmentsSaid : Prop := topFragmentsRow.holds Tryz.pinned (OpenSpec.ofChange topFragmentsSpec)

/-- ITS FALSE NEIGHBOUR: 'it returns false'. Refute it at one input. -/
def topFragmentsWrong : ChangeSpec := { name := "topFragments", fn := fun _ => fun
  | [d1, d2, d3] => { results := [.lit (.bool false)], args := [d1, d2, d3] }
  | _ => none }
def TopFragmentsWrongFalsely : Prop := topFragmentsRow.holds Tryz.pinned (OpenSpec.ofChange topFragmentsWrong)

/- THE SECOND FORM. 'bulk': how many values and letters a reading holds, each counted each time it is reached (what is shared counts as often as it is met; a slice's spare places count too). A statement '..UptoSaid' is the law's where the arguments, and the package variables that the reading takes, are together of bulk at most 1048576: NARROWER than '..Said'. Prove '..Said' where nothing that the law and all that it calls make is longer than what came in: it says more and counts as full. Else prove '..UptoSaid'. A law counts once. -/
mutual
def uptoBulk {H : Type} : DataW H → Nat
  | .lit (.string bytes) => bytes.length + 1
  | .lit _ => 1
  | .nil => 1
  | .ptr d => uptoBulk d + 1
  | .slice elems spare => uptoBulkAll elems + uptoBulkAll spare + 1
  | .agg parts => uptoBulkAll parts + 1
  | .iface _ d => uptoBulk d + 1
  | .map entries => uptoBulkEntries entries + 1
  | .held _ => 1
def uptoBulkAll {H : Type} : List (DataW H) → Nat
  | [] => 0
  | d :: r => uptoBulk d + uptoBulkAll r
def uptoBulkEntries {H : Type} : List (Lit × DataW H) → Nat
  | [] => 0
  | x :: r => uptoBulkEntry x + uptoBulkEntries r
def uptoBulkEntry {H : Type} : Lit × DataW H → Nat
  | (.string bytes, d) => bytes.length + uptoBulk d + 1
  | (_, d) => uptoBulk d + 1
 end
def uptoSmall : (H : Type) → List (DataW H) → Bool := fun _ ds => decide (uptoBulkAll ds ≤ 1048576)
def OpenSpec.upto (s : _root_.Go.ChangeSpec) : _root_.Go.OpenSpec := { _root_.Go.OpenSpec.ofChange s with cond := some uptoSmall }

/-- 'hopmeshtop.TopGuard', WHERE WHAT IT READS IS OF BULK AT MOST 1048576: true; the input reads as it did. -/
def topGuardUptoRow : OpenClaim := { program := "ytlkjiffohmkidaagreat", sum := "1bdd5c0d6646f7de45d6b08f594e71c5b3107c4b9a81971c6191c7206b8c75db", func := "hopmesh/hopmeshtop.TopGuard", spec := "topGuard", unfollowed := true, recurses := true, apart := false, narrowed := true }
def TopGuardUptoSaid : Prop := topGuardUptoRow.holds Tryz.pinned (OpenSpec.upto topGuardSpec)

/-- 'hopmeshtop.TopOffsets', WHERE WHAT IT READS IS OF BULK AT MOST 1048576: true; the input reads as it did. -/
def topOffsetsUptoRow : OpenClaim := { program := "ytlkjiffohmkidaagreat", sum := "1bdd5c0d6646f7de45d6b08f594e71c5b3107c4b9a81971c6191c7206b8c75db", func := "hopmesh/hopmeshtop.TopOffsets", spec := "topOffsets", unfollowed := true, recurses := true, apart := false, narrowed := true }
def TopOffsetsUptoSaid : Prop := topOffsetsUptoRow.holds Tryz.pinned (OpenSpec.upto topOffsetsSpec)

/-- 'hopmeshtop.TopFragments', WHERE WHAT IT READS IS OF BULK AT MOST 1048576: true; the input reads as it did. -/
def topFragmentsUptoRow : OpenClaim := { program := "ytlkjiffohmkidaagreat", sum := "1bdd5c0d6646f7de45d6b08f594e71c5b3107c4b9a81971c6191c7206b8c75db", func := "hopmesh/hopmeshtop.TopFragments", spec := "topFragments", inPlace := ["internal/abi.NoEscape", "internal/bytealg.MakeNoZero"], unfollowed := true, recurses := true, apart := false, narrowed := true }
def TopFragmentsUptoSaid : Prop := topFragmentsUptoRow.holds Tryz.pinned (OpenSpec.upto topFragmentsSpec)

end Rows
end Go.Proofs.YtlkjiffohmkidaaGreat
