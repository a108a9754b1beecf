/-
  No cell of these rows narrows 'for every input' (looked for: loops, veiled, ifaces, maps, wideKeys, modest, calm, conditions, laid).
  DERIVED. THE GIVEN ROWS OF THIS SEAT. 7 by the template 'for every input the law returns true; each argument reads behind the call as it read before'; 0 by the template 'total and deterministic' (their statements: YtcfgikdpokjhpaaGreatTotals.lean).
  GIVEN WITH THE SEED: the statements are not yours to turn. If you find one false, say at which input.
  Laid BY PROGRAM, IN A SANDBOX (cutbox-rows.mjs): the forced cells as the released guide's own fill.sh prints them over the translation 83c52fc8e39ccff1… (all of the seat's roots in one cut). By AI agents, Wed Nov 11 2026. No macro, syntax, notation, axiom, sorry.
-/
import Derived.Test.YtcfgikdpokjhpaaGreatChecked
import GoSem.Claim
import GoSem.ClaimJoined
import GoSem.ClaimMapViews
import Derived.JoinedTies
import Derived.KernelRfl
namespace Go.Proofs.YtcfgikdpokjhpaaGreat
/- THE CELL 'sum', in the pinned program and in every row, IS THE sha256 OF THE DUMP (.gsa) THAT YtcfgikdpokjhpaaGreatProg.lean LOADS. Nothing in Lean hashes anything: it is a label: what it is worth is what the hold of that sum in a sandbox is worth. -/
noncomputable def Tryz.pinned : Pinned := { name := "ytcfgikdpokjhpaagreat", sum := "83c52fc8e39ccff1587f4d153052e995b70205974f57302cbf377376f6cb1c46", checked := Tryz.checked }
namespace Rows
def none {H : Type} : Left H := { results := [], args := [] }

/-- 'hopmeshlaw19.FieldEmits': WHATEVER THE INPUT: true; the input reads as it did. -/
def fieldEmitsSpec : ChangeSpec := { name := "fieldEmits", fn := fun _ => fun
  | [d] => { results := [.lit (.bool true)], args := [d] }
  | _ => none }
def fieldEmitsRow : OpenClaim := { program := "ytcfgikdpokjhpaagreat", sum := "83c52fc8e39ccff1587f4d153052e995b70205974f57302cbf377376f6cb1c46", func := "hopmesh/hopmeshlaw19.FieldEmits", spec := "fieldEmits", unfollowed := true, recurses := true, apart := false }
def FieldEmitsSaid : Prop := fieldEmitsRow.holds Tryz.pinned (OpenSpec.ofChange fieldEmitsSpec)

/-- ITS FALSE NEIGHBOUR: 'it returns false'. Refute it at one input. -/
def fieldEmitsWrong : ChangeSpec := { name := "fieldEmits", fn := fun _ => fun
  | [d] => { results := [.lit (.bool false)], args := [d] }
  | _ => none }
def FieldEmitsWrongFalsely : Prop := fieldEmitsRow.holds Tryz.pinned (OpenSpec.ofChange fieldEmitsWrong)

/-- 'hopmeshlaw19.FieldSlots': WHATEVER THE INPUT: true; the input reads as it did. -/
def fieldSlotsSpec : ChangeSpec := { name := "fieldSlots", fn := fun _ => fun
  | [d] => { results := [.lit (.bool true)], args := [d] }
  | _ => none }
def fieldSlotsRow : OpenClaim := { program := "ytcfgikdpokjhpaagreat", sum := "83c52fc8e39ccff1587f4d153052e995b70205974f57302cbf377376f6cb1c46", func := "hopmesh/hopmeshlaw19.FieldSlots", spec := "fieldSlots", unfollowed := true, recurses := true, apart := false }
def FieldSlotsSaid : Prop := fieldSlotsRow.holds Tryz.pinned (OpenSpec.ofChange fieldSlotsSpec)

/-- ITS FALSE NEIGHBOUR: 'it returns false'. Refute it at one input. -/
def fieldSlotsWrong : ChangeSpec := { name := "fieldSlots", fn := fun _ => fun
  | [d] => { results := [.lit (.bool false)], args := [d] }
  | _ => none }
def FieldSlotsWrongFalsely : Prop := fieldSlotsRow.holds Tryz.pinned (OpenSpec.ofChange fieldSlotsWrong)

/-- 'hopmeshlaw19.FieldAcked': WHATEVER THE INPUT: true; the input reads as it did. -/
def fieldAckedSpec : ChangeSpec := { name := "fieldAcked", fn := fun _ => fun
  | [d] => { results := [.lit (.bool true)], args := [d] }
  | _ => none }
def fieldAckedRow : OpenClaim := { program := "ytcfgikdpokjhpaagreat", sum := "83c52fc8e39ccff1587f4d153052e995b70205974f57302cbf377376f6cb1c46", func := "hopmesh/hopmeshlaw19.FieldAcked", spec := "fieldAcked", unfollowed := true, recurses := true, apart := false }
def FieldAckedSaid : Prop := fieldAckedRow.holds Tryz.pinned (OpenSpec.ofChange fieldAckedSpec)

/-- ITS FALSE NEIGHBOUR: 'it returns false'. Refute it at one input. -/
def fieldAckedWrong : ChangeSpec := { name := "fieldAcked", fn := fun _ => fun
  | [d] => { results := [.lit (.bool false)], args := [d] }
  | _ => none }
def FieldAckedWrongFalsely : Prop := fieldAckedRow.holds Tryz.pinned (OpenSpec.ofChange fieldAckedWrong)

/-- 'hopmeshlaw19.FieldAlone': WHATEVER THE INPUT: true; the input reads as it did. -/
def fieldAloneSpec : ChangeSpec := { name := "fieldAlone", fn := fun _ => fun
  | [d1, d2, d3, d4] => { results := [.lit (.bool true)], args := [d1, d2, d3, d4] }
  | _ => none }
def fieldAloneRow : OpenClaim := { program := "ytcfgikdpokjhpaagreat", sum := "83c52fc8e39ccff1587f4d153052e995b70205974f57302cbf377376f6cb1c46", func := "hopmesh/hopmeshlaw19.FieldAlone", spec := "fieldAlone", unfollowed := true, recurses := true, apart := false }
def FieldAloneSaid : Prop := fieldAloneRow.holds Tryz.pinned (OpenSpec.ofChange fieldAloneSpec)

/-- ITS FALSE NEIGHBOUR: 'it returns false'. Refute it at one input. -/
def fieldAloneWrong : ChangeSpec := { name := "fieldAlone", fn := fun _ => fun
  | [d1, d2, d3, d4] => { results := [.lit (.bool false)], args := [d1, d2, d3, d4] }
  | _ => none }
def FieldAloneWrongFalsely : Prop := fieldAloneRow.holds Tryz.pinned (OpenSpec.ofChange fieldAloneWrong)

/-- 'hopmeshlaw19.FieldHears': WHATEVER THE INPUT: true; the input reads as it did. -/
def fieldHearsSpec : ChangeSpec := { name := "fieldHears", fn := fun _ => fun
  | [d] => { results := [.lit (.bool true)], args := [d] }
  | _ => none }
def fieldHearsRow : OpenClaim := { program := "ytcfgikdpokjhpaagreat", sum := "83c52fc8e39ccff1587f4d153052e995b70205974f57302cbf377376f6cb1c46", func := "hopmesh/hopmeshlaw19.FieldHears", spec := "fieldHears", unfollowed := true, recurses := true, apart := false }
def FieldHearsSaid : Prop := fieldHearsRow.holds Tryz.pinned (OpenSpec.ofChange fieldHearsSpec)

/-- ITS FALSE NEIGHBOUR: 'it returns false'. Refute it at one input. -/
def fieldHearsWrong : ChangeSpec := { name := "fieldHears", fn := fun _ => fun
  | [d] => { results := [.lit (.bool false)], args := [d] }
  | _ => none }
def FieldHearsWrongFalsely : Prop := fieldHearsRow.holds Tryz.pinned (OpenSpec.ofChange fieldHearsWrong)

/-- 'hopmeshlaw19.FieldChannels': WHATEVER THE INPUT: true; the input reads as it did. -/
def fieldChannelsSpec : ChangeSpec := { name := "fieldChannels", fn := fun _ => fun
  | [d1, d2] => { results := [.lit (.bool true)], args := [d1, d2] }
  | _ => none }
def fieldChannelsRow : OpenClaim := { program := "ytcfgikdpokjhpaagreat", sum := "83c52fc8e39ccff1587f4d153052e995b70205974f57302cbf377376f6cb1c46", func := "hopmesh/hopmeshlaw19.FieldChannels", spec := "fieldChannels", unfollowed := true, recurses := true, apart := false }
def FieldChannelsSaid : Prop := fieldChannelsRow.holds Tryz.pinned (OpenSpec.ofChange fieldChannelsSpec)

/-- ITS FALSE NEIGHBOUR: 'it returns false'. Refute it at one input. -/
def fieldChannelsWrong : ChangeSpec := { name := "fieldChannels", fn := fun _ => fun
  | [d1, d2] => { results := [.lit (.bool false)], args := [d1, d2] }
  | _ => none }
def FieldChannelsWrongFalsely : Prop := fieldChannelsRow.holds Tryz.pinned (OpenSpec.ofChange fieldChannelsWrong)

/-- 'hopmeshlaw19.FieldChecks': WHATEVER THE INPUT: true; the input reads as it did. -/
def fieldChecksSpec : ChangeSpec := { name := "fieldChecks", fn := fun _ => fun
  | [d1, d2, d3] => { results := [.lit (.bool true)], args := [d1, d2, d3] }
  | _ => none }
def fieldChecksRow : OpenClaim := { program := "ytcfgikdpokjhpaagreat", sum := "83c52fc8e39ccff1587f4d153052e995b70205974f57302cbf377376f6cb1c46", func := "hopmesh/hopmeshlaw19.FieldChecks", spec := "fieldChecks", unfollowed := true, recurses := true, apart := false }
def FieldChecksSaid : Prop := fieldChecksRow.holds Tryz.pinned (OpenSpec.ofChange fieldChecksSpec)

/-- ITS FALSE NEIGHBOUR: 'it returns false'. Refute it at one input. -/
def fieldChecksWrong : ChangeSpec := { name := "fieldChecks", fn := fun _ => fun
  | [d1, d2, d3] => { results := [.lit (.bool false)], args := [d1, d2, d3] }
  | _ => none }
def FieldChecksWrongFalsely : Prop := fieldChecksRow.holds Tryz.pinned (OpenSpec.ofChange fieldChecksWrong)

/- THE SECOND FORM. 'bulk': how many values and letters a reading holds, each counted each time it is reached (what is shared counts as often as it is met; a slice's spare places count too). A statement '..UptoSaid' is the law's where the arguments, and the package variables that the reading takes, are together of bulk at most 1048576: NARROWER than '..Said'. Prove '..Said' where nothing that the law and all that it calls make is longer than what came in: it says more and counts as full. Else prove '..UptoSaid'. A law counts once. -/
mutual
def uptoBulk {H : Type} : DataW H → Nat
  | .lit (.string bytes) => bytes.length + 1
  | .lit _ => 1
  | .nil => 1
  | .ptr d => uptoBulk d + 1
  | .slice elems spare => uptoBulkAll elems + uptoBulkAll spare + 1
  | .agg parts => uptoBulkAll parts + 1
  | .iface _ d => uptoBulk d + 1
  | .map entries => uptoBulkEntries entries + 1
  | .held _ => 1
def uptoBulkAll {H : Type} : List (DataW H) → Nat
  | [] => 0
  | d :: r => uptoBulk d + uptoBulkAll r
def uptoBulkEntries {H : Type} : List (Lit × DataW H) → Nat
  | [] => 0
  | x :: r => uptoBulkEntry x + uptoBulkEntries r
def uptoBulkEntry {H : Type} : Lit × DataW H → Nat
  | (.string bytes, d) => bytes.length + uptoBulk d + 1
  | (_, d) => uptoBulk d + 1
 end
def uptoSmall : (H : Type) → List (DataW H) → Bool := fun _ ds => decide (uptoBulkAll ds ≤ 1048576)
def OpenSpec.upto (s : _root_.Go.ChangeSpec) : _root_.Go.OpenSpec := { _root_.Go.OpenSpec.ofChange s with cond := some uptoSmall }

/-- 'hopmeshlaw19.FieldEmits', WHERE WHAT IT READS IS OF BULK AT MOST 1048576: true; the input reads as it did. -/
def fieldEmitsUptoRow : OpenClaim := { program := "ytcfgikdpokjhpaagreat", sum := "83c52fc8e39ccff1587f4d153052e995b70205974f57302cbf377376f6cb1c46", func := "hopmesh/hopmeshlaw19.FieldEmits", spec := "fieldEmits", unfollowed := true, recurses := true, apart := false, narrowed := true }
def FieldEmitsUptoSaid : Prop := fieldEmitsUptoRow.holds Tryz.pinned (OpenSpec.upto fieldEmitsSpec)

/-- 'hopmeshlaw19.FieldSlots', WHERE WHAT IT READS IS OF BULK AT MOST 1048576: true; the input reads as it did. -/
def fieldSlotsUptoRow : OpenClaim := { program := "ytcfgikdpokjhpaagreat", sum := "83c52fc8e39ccff1587f4d153052e995b70205974f57302cbf377376f6cb1c46", func := "hopmesh/hopmeshlaw19.FieldSlots", spec := "fieldSlots", unfollowed := true, recurses := true, apart := false, narrowed := true }
def FieldSlotsUptoSaid : Prop := fieldSlotsUptoRow.holds Tryz.pinned (OpenSpec.upto fieldSlotsSpec)

/-- 'hopmeshlaw19.FieldAcked', WHERE WHAT IT READS IS OF BULK AT MOST 1048576: true; the input reads as it did. -/
def fieldAckedUptoRow : OpenClaim := { program := "ytcfgikdpokjhpaagreat", sum := "83c52fc8e39ccff1587f4d153052e995b70205974f57302cbf377376f6cb1c46", func := "hopmesh/hopmeshlaw19.FieldAcked", spec := "fieldAcked", unfollowed := true, recurses := true, apart := false, narrowed := true }
def FieldAckedUptoSaid : Prop := fieldAckedUptoRow.holds Tryz.pinned (OpenSpec.upto fieldAckedSpec)

/-- 'hopmeshlaw19.FieldAlone', WHERE WHAT IT READS IS OF BULK AT MOST 1048576: true; the input reads as it did. -/
def fieldAloneUptoRow : OpenClaim := { program := "ytcfgikdpokjhpaagreat", sum := "83c52fc8e39ccff1587f4d153052e995b70205974f57302cbf377376f6cb1c46", func := "hopmesh/hopmeshlaw19.FieldAlone", spec := "fieldAlone", unfollowed := true, recurses := true, apart := false, narrowed := true }
def FieldAloneUptoSaid : Prop := fieldAloneUptoRow.holds Tryz.pinned (OpenSpec.upto fieldAloneSpec)

/-- 'hopmeshlaw19.FieldHears', WHERE WHAT IT READS IS OF BULK AT MOST 1048576: true; the input reads as it did. -/
def fieldHearsUptoRow : OpenClaim := { program := "ytcfgikdpokjhpaagreat", sum := "83c52fc8e39ccff1587f4d153052e995b70205974f57302cbf377376f6cb1c46", func := "hopmesh/hopmeshlaw19.FieldHears", spec := "fieldHears", unfollowed := true, recurses := true, apart := false, narrowed := true }
def FieldHearsUptoSaid : Prop := fieldHearsUptoRow.holds Tryz.pinned (OpenSpec.upto fieldHearsSpec)

/-- 'hopmeshlaw19.FieldChannels', WHERE WHAT IT READS IS OF BULK AT MOST 1048576: true; the input reads as it did. -/
def fieldChannelsUptoRow : OpenClaim := { program := "ytcfgikdpokjhpaagreat", sum := "83c52fc8e39ccff1587f4d153052e995b70205974f57302cbf377376f6cb1c46", func := "hopmesh/hopmeshlaw19.FieldChannels", spec := "fieldChannels", unfollowed := true, recurses := true, apart := false, narrowed := true }
def FieldChannelsUptoSaid : Prop := fieldChannelsUptoRow.holds Tryz.pinned (OpenSpec.upto fieldChannelsSpec)

/-- 'hopmeshlaw19.FieldChecks', WHERE WHAT IT READS IS OF BULK AT MOST 1048576: true; the input reads as it did. -/
def fieldChecksUptoRow : OpenClaim := { program := "ytcfgikdpokjhpaagreat", sum := "83c52fc8e39ccff1587f4d153052e995b70205974f57302cbf377376f6cb1c46", func := "hopmesh/hopmeshlaw19.FieldChecks", spec := "fieldChecks", unfollowed := true, recurses := true, apart := false, narrowed := true }
def FieldChecksUptoSaid : Prop := fieldChecksUptoRow.holds Tryz.pinned (OpenSpec.upto fieldChecksSpec)

end Rows
end Go.Proofs.YtcfgikdpokjhpaaGreat
