/-
  Law 'TopOffsets': for every input the law returns true, and its arguments read behind the call as they read before. Conditions: none beyond those of the given statement.
-/
import Derived.Test.YtlkjiffohmkidaaGreatRows
import Derived.Test.YtlkjiffohmkidaaGreatC3
namespace Go.Proofs.YtlkjiffohmkidaaGreat.topOffsets
set_option linter.unusedVariables false
open Go.ChangeShapes Go.WideShapes Go.ChangeAt Go.RowKit Go.Sh
set_option maxRecDepth 100000
theorem own : ownKnob Tryz.prog.godebug = none := by kernel_rfl
theorem lifted (os : Os) (started : os.Started) (H : Type) (enc : TypeId × Value → H) :
    ReturnsInHanded {} Tryz.checked os 4 .any (Rows.topOffsetsSpec.pre6 enc Tryz.prog Tryz.f4 Rows.topOffsetsRow.domain false) (Rows.topOffsetsSpec.post enc Tryz.prog Tryz.f4 false true false false) :=
  law_row (Ck := Tryz.checked) pol (s := Rows.topOffsetsSpec) (ads := [TO.rdD, (false, [.lst [.int .i64]]), (true, [.int .i64, .int .i64, .int .i64])]) own started (by kernel_rfl) Tryz.func4
    (ChangeSpec.witness6 (enc := enc) (C := Tryz.checked) false ⟨#[], #[.slice none 0 0, .slice none 0 0, .agg #[.int .i64 0, .int .i64 0, .int .i64 0]], []⟩ 8 (by kernel_rfl) (by kernel_rfl) (by kernel_rfl) (by kernel_rfl))
    (by kernel_rfl) (by kernel_rfl) (by kernel_rfl) (by kernel_rfl) (of_decide_eq_true (by kernel_rfl)) (by kernel_rfl) rfl Tryz.underlying4 rfl (fun H ds hds => by
      match ds, hds with
      | [a, b, c], _ => rfl)
    (fun xs h => TO.law4 xs h)
theorem over : Rows.topOffsetsRow.holds Tryz.pinned (OpenSpec.ofChange Rows.topOffsetsSpec) :=
  OpenClaim.holds_of_wide 4 Tryz.f4 rfl rfl rfl rfl rfl rfl rfl ⟨rfl, rfl, rfl, rfl, rfl⟩ rfl rfl rfl rfl rfl (by kernel_rfl) Tryz.func4 (by kernel_rfl)
    (of_decide_eq_true (by kernel_rfl)) (by unfold Func.isWrapper; first | (rw [if_pos (by decide +kernel)]; kernel_rfl) | (rw [if_neg (by decide +kernel)]; exact ⟨rfl, rfl⟩))
    (fun os started H enc _ => lifted os started H enc)
/-- The statement. -/
theorem proved : Rows.TopOffsetsSaid := over
#print axioms proved
end Go.Proofs.YtlkjiffohmkidaaGreat.topOffsets
