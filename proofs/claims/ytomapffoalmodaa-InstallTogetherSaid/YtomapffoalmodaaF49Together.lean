/-
  Law 'InstallTogether': for every input the law returns true, and its arguments read behind the call as they read before. Conditions: none beyond those of the given statement.
-/
import Derived.Test.YtomapffoalmodaaRows
import Derived.Test.YtomapffoalmodaaC1
import Derived.Test.YtomapffoalmodaaC3
namespace Go.Proofs.Ytomapffoalmodaa.installTogether
set_option linter.unusedVariables false
open Go.ChangeShapes Go.WideShapes Go.ChangeAt Go.RowKit Go.Sh
set_option maxRecDepth 100000
theorem own : ownKnob Try.prog.godebug = none := by kernel_rfl
theorem lifted (os : Os) (started : os.Started) (H : Type) (enc : TypeId × Value → H) :
    ReturnsInHanded {} Try.checked os 8 .any (Rows.installTogetherSpec.pre6 enc Try.prog Try.f8 Rows.installTogetherRow.domain false) (Rows.installTogetherSpec.post enc Try.prog Try.f8 false true false false) :=
  law_row_ext (Ck := Try.checked) pol exts (s := Rows.installTogetherSpec) (ads := [(false, [.int .u8]), (false, [.int .u8]), dlD]) own started (by kernel_rfl) Try.func8
    (ChangeSpec.witness6 (enc := enc) (C := Try.checked) false ⟨#[], #[.int .u8 0, .int .u8 0, .slice none 0 0], []⟩ 8 (by kernel_rfl) (by kernel_rfl) (by kernel_rfl) (by kernel_rfl))
    (by kernel_rfl) (by kernel_rfl) (by kernel_rfl) (by kernel_rfl) (of_decide_eq_true (by kernel_rfl)) (by kernel_rfl) rfl Try.underlying4 rfl (fun H ds hds => by
      match ds, hds with
      | [a, b, c], _ => rfl)
    (fun xs h => law8 xs h)
theorem over : Rows.installTogetherRow.holds Try.pinned (OpenSpec.ofChange Rows.installTogetherSpec) :=
  OpenClaim.holds_of_wide 8 Try.f8 rfl rfl rfl rfl rfl rfl rfl ⟨rfl, rfl, rfl, rfl, rfl⟩ rfl rfl rfl rfl rfl (by kernel_rfl) Try.func8 (by kernel_rfl)
    (of_decide_eq_true (by kernel_rfl)) (by unfold Func.isWrapper; first | (rw [if_pos (by decide +kernel)]; kernel_rfl) | (rw [if_neg (by decide +kernel)]; exact ⟨rfl, rfl⟩))
    (fun os started H enc _ => lifted os started H enc)
/-- The statement. -/
theorem proved : Rows.InstallTogetherSaid := over
#print axioms proved
end Go.Proofs.Ytomapffoalmodaa.installTogether
