/-
  Law 'HopSequences': for every input the law returns true, and its arguments read behind the call as they read before. Conditions: none beyond those of the given statement.
-/
import Derived.Test.YtkbdhjibehdabaaRows
import Derived.Test.YtkbdhjibehdabaaC1
namespace Go.Proofs.Ytkbdhjibehdabaa.hopSequences
set_option linter.unusedVariables false
open Go.ChangeShapes Go.WideShapes Go.ChangeAt Go.RowKit Go.Sh
set_option maxRecDepth 100000
theorem own : ownKnob Try.prog.godebug = none := by kernel_rfl
theorem lifted (os : Os) (started : os.Started) (H : Type) (enc : TypeId × Value → H) :
    ReturnsInHanded {} Try.checked os 9 .any (Rows.hopSequencesSpec.pre6 enc Try.prog Try.f9 Rows.hopSequencesRow.domain false) (Rows.hopSequencesSpec.post enc Try.prog Try.f9 false true false false) :=
  law_row (Ck := Try.checked) pol (s := Rows.hopSequencesSpec) (ads := [hpsD, (false, [.int .i64])]) own started (by kernel_rfl) Try.func9
    (ChangeSpec.witness6 (enc := enc) (C := Try.checked) false ⟨#[], #[.slice none 0 0, .int .i64 0], []⟩ 8 (by kernel_rfl) (by kernel_rfl) (by kernel_rfl) (by kernel_rfl))
    (by kernel_rfl) (by kernel_rfl) (by kernel_rfl) (by kernel_rfl) (of_decide_eq_true (by kernel_rfl)) (by kernel_rfl) rfl Try.underlying4 rfl (fun H ds hds => by
      match ds, hds with
      | [a, b], _ => rfl)
    (fun xs h => law9 xs h)
theorem over : Rows.hopSequencesRow.holds Try.pinned (OpenSpec.ofChange Rows.hopSequencesSpec) :=
  OpenClaim.holds_of_wide 9 Try.f9 rfl rfl rfl rfl rfl rfl rfl ⟨rfl, rfl, rfl, rfl, rfl⟩ rfl rfl rfl rfl rfl (by kernel_rfl) Try.func9 (by kernel_rfl)
    (of_decide_eq_true (by kernel_rfl)) (by unfold Func.isWrapper; first | (rw [if_pos (by decide +kernel)]; kernel_rfl) | (rw [if_neg (by decide +kernel)]; exact ⟨rfl, rfl⟩))
    (fun os started H enc _ => lifted os started H enc)
/-- The statement. -/
theorem proved : Rows.HopSequencesSaid := over
#print axioms proved
end Go.Proofs.Ytkbdhjibehdabaa.hopSequences
