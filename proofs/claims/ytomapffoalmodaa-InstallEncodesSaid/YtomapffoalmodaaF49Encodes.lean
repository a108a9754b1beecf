/-
  Law 'InstallEncodes': for every input the law returns true, and its arguments read behind the call as they read before. Conditions: none beyond those of the given statement.
-/
import Derived.Test.YtomapffoalmodaaRows
import Derived.Test.YtomapffoalmodaaC1
import Derived.Test.YtomapffoalmodaaC2
namespace Go.Proofs.Ytomapffoalmodaa.installEncodes
set_option linter.unusedVariables false
open Go.ChangeShapes Go.WideShapes Go.ChangeAt Go.RowKit Go.Sh
set_option maxRecDepth 100000
theorem own : ownKnob Try.prog.godebug = none := by kernel_rfl
theorem lifted (os : Os) (started : os.Started) (H : Type) (enc : TypeId × Value → H) :
    ReturnsInHanded {} Try.checked os 5 .any (Rows.installEncodesSpec.pre6 enc Try.prog Try.f5 Rows.installEncodesRow.domain false) (Rows.installEncodesSpec.post enc Try.prog Try.f5 false true false false) :=
  law_row_ext (Ck := Try.checked) pol exts (s := Rows.installEncodesSpec) (ads := [cmD, (false, [.str])]) own started (by kernel_rfl) Try.func5
    (ChangeSpec.witness6 (enc := enc) (C := Try.checked) false ⟨#[], #[.agg #[.int .i64 0, .int .i64 0, .int .i64 0, .string ⟨#[]⟩, .slice none 0 0], .string ⟨#[]⟩], []⟩ 8 (by kernel_rfl) (by kernel_rfl) (by kernel_rfl) (by kernel_rfl))
    (by kernel_rfl) (by kernel_rfl) (by kernel_rfl) (by kernel_rfl) (of_decide_eq_true (by kernel_rfl)) (by kernel_rfl) rfl Try.underlying4 rfl (fun H ds hds => by
      match ds, hds with
      | [a, b], _ => rfl)
    (fun xs h => law5 xs h)
theorem over : Rows.installEncodesRow.holds Try.pinned (OpenSpec.ofChange Rows.installEncodesSpec) :=
  OpenClaim.holds_of_wide 5 Try.f5 rfl rfl rfl rfl rfl rfl rfl ⟨rfl, rfl, rfl, rfl, rfl⟩ rfl rfl rfl rfl rfl (by kernel_rfl) Try.func5 (by kernel_rfl)
    (of_decide_eq_true (by kernel_rfl)) (by unfold Func.isWrapper; first | (rw [if_pos (by decide +kernel)]; kernel_rfl) | (rw [if_neg (by decide +kernel)]; exact ⟨rfl, rfl⟩))
    (fun os started H enc _ => lifted os started H enc)
/-- The statement. -/
theorem proved : Rows.InstallEncodesSaid := over
#print axioms proved
end Go.Proofs.Ytomapffoalmodaa.installEncodes
