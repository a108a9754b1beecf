/-
  Law 'TopFragments': for every input the law returns true, and its arguments read behind the call as they read before. Conditions: none beyond those of the given statement.
-/
import Derived.Test.YtlkjiffohmkidaaGreatRows
import Derived.Test.YtlkjiffohmkidaaGreatB12
import Derived.Test.YtlkjiffohmkidaaGreatB20
namespace Go.Proofs.YtlkjiffohmkidaaGreat.topFragments
set_option linter.unusedVariables false
open Go.ChangeShapes Go.WideShapes Go.ChangeAt Go.RowKit Go.Sh
set_option maxRecDepth 100000
theorem own : ownKnob Tryz.prog.godebug = none := by kernel_rfl
theorem lifted (os : Os) (started : os.Started) (H : Type) (enc : TypeId × Value → H) :
    ReturnsInHanded {} Tryz.checked os 5 .any (Rows.topFragmentsSpec.pre6 enc Tryz.prog Tryz.f5 Rows.topFragmentsRow.domain false) (Rows.topFragmentsSpec.post enc Tryz.prog Tryz.f5 false true false false) :=
  qj (Ck := Tryz.checked) cU exts (s := Rows.topFragmentsSpec) (ads := [(false, [.aB [.str]]), F.LW, (false, [.aB [.aB [.int .u8]]])]) own started (by kernel_rfl) Tryz.func5
    (ChangeSpec.witness6 (enc := enc) (C := Tryz.checked) false ⟨#[], #[.slice none 0 0, .agg #[.int .i64 0, .int .i64 0, .string ⟨#[]⟩, .string ⟨#[]⟩, .int .i64 0, .int .i64 0, .int .i64 0, .string ⟨#[]⟩, .int .i64 0], .slice none 0 0], []⟩ 8 (by kernel_rfl) (by kernel_rfl) (by kernel_rfl) (by kernel_rfl))
    (by kernel_rfl) (by kernel_rfl) (by kernel_rfl) (by kernel_rfl) (of_decide_eq_true (by kernel_rfl)) (by kernel_rfl) rfl Tryz.underlying4 rfl (fun H ds hds => by
      match ds, hds with
      | [a, b, c], _ => rfl)
    (fun xs h => F.HS xs h)
theorem BD : Rows.topFragmentsRow.holds Tryz.pinned (OpenSpec.ofChange Rows.topFragmentsSpec) :=
  OpenClaim.holds_of_wide 5 Tryz.f5 rfl rfl rfl rfl rfl rfl rfl ⟨rfl, rfl, rfl, rfl, rfl⟩ rfl rfl rfl rfl rfl (by kernel_rfl) Tryz.func5 (by kernel_rfl)
    (of_decide_eq_true (by kernel_rfl)) (by unfold Func.isWrapper; first | (rw [if_pos (by decide +kernel)]; kernel_rfl) | (rw [if_neg (by decide +kernel)]; exact ⟨rfl, rfl⟩))
    (fun os started H enc _ => lifted os started H enc)
/-- The statement. -/
theorem proved : Rows.TopFragmentsSaid := BD
#print axioms proved
end Go.Proofs.YtlkjiffohmkidaaGreat.topFragments

