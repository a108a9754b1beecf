/-
  Law 'InstallNothing': for every input the law returns true, and its arguments read behind the call as they read before. Conditions: none beyond those of the given statement.
-/
import Derived.Test.YtomapffoalmodaaRows
import Derived.Test.YtomapffoalmodaaC1
import Derived.Test.YtomapffoalmodaaC2
namespace Go.Proofs.Ytomapffoalmodaa.installNothing
set_option linter.unusedVariables false
open Go.ChangeShapes Go.WideShapes Go.ChangeAt Go.RowKit Go.Sh
set_option maxRecDepth 100000
theorem own : ownKnob Try.prog.godebug = none := by kernel_rfl
theorem lifted (os : Os) (started : os.Started) (H : Type) (enc : TypeId × Value → H) :
    ReturnsInHanded {} Try.checked os 3 .any (Rows.installNothingSpec.pre6 enc Try.prog Try.f3 Rows.installNothingRow.domain false) (Rows.installNothingSpec.post enc Try.prog Try.f3 false true false false) :=
  law_row_ext (Ck := Try.checked) pol exts (s := Rows.installNothingSpec) (ads := [(false, [.lst [.bool]]), (false, [.lst [.int .i64, .int .i64, .int .i64, .str, .lst [.int .i64]]]), (false, [.lst [.int .u8]])]) own started (by kernel_rfl) Try.func3
    (ChangeSpec.witness6 (enc := enc) (C := Try.checked) false ⟨#[], #[.slice none 0 0, .slice none 0 0, .slice none 0 0], []⟩ 8 (by kernel_rfl) (by kernel_rfl) (by kernel_rfl) (by kernel_rfl))
    (by kernel_rfl) (by kernel_rfl) (by kernel_rfl) (by kernel_rfl) (of_decide_eq_true (by kernel_rfl)) (by kernel_rfl) rfl Try.underlying4 rfl (fun H ds hds => by
      match ds, hds with
      | [a, b, c], _ => rfl)
    (fun xs h => law3 xs h)
theorem over : Rows.installNothingRow.holds Try.pinned (OpenSpec.ofChange Rows.installNothingSpec) :=
  OpenClaim.holds_of_wide 3 Try.f3 rfl rfl rfl rfl rfl rfl rfl ⟨rfl, rfl, rfl, rfl, rfl⟩ rfl rfl rfl rfl rfl (by kernel_rfl) Try.func3 (by kernel_rfl)
    (of_decide_eq_true (by kernel_rfl)) (by unfold Func.isWrapper; first | (rw [if_pos (by decide +kernel)]; kernel_rfl) | (rw [if_neg (by decide +kernel)]; exact ⟨rfl, rfl⟩))
    (fun os started H enc _ => lifted os started H enc)
/-- The statement. -/
theorem proved : Rows.InstallNothingSaid := over
#print axioms proved
end Go.Proofs.Ytomapffoalmodaa.installNothing
