/-
  Law 'InstallBoards': for every input the law returns true, and its arguments read behind the call as they read before. Conditions: none beyond those of the given statement.
-/
import Derived.Test.YtomapffoalmodaaRows
import Derived.Test.YtomapffoalmodaaC1
import Derived.Test.YtomapffoalmodaaC2
namespace Go.Proofs.Ytomapffoalmodaa.installBoards
set_option linter.unusedVariables false
open Go.ChangeShapes Go.WideShapes Go.ChangeAt Go.RowKit Go.Sh
set_option maxRecDepth 100000
theorem own : ownKnob Try.prog.godebug = none := by kernel_rfl
theorem lifted (os : Os) (started : os.Started) (H : Type) (enc : TypeId × Value → H) :
    ReturnsInHanded {} Try.checked os 6 .any (Rows.installBoardsSpec.pre6 enc Try.prog Try.f6 Rows.installBoardsRow.domain false) (Rows.installBoardsSpec.post enc Try.prog Try.f6 false true false false) :=
  law_row_ext (Ck := Try.checked) pol exts (s := Rows.installBoardsSpec) (ads := [bdD, (false, [.str]), (false, [.int .i64]), (false, [.int .i64])]) own started (by kernel_rfl) Try.func6
    (ChangeSpec.witness6 (enc := enc) (C := Try.checked) false ⟨#[], #[.agg #[.string ⟨#[]⟩, .slice none 0 0, .slice none 0 0, .slice none 0 0, .int .i64 0, .int .i64 0], .string ⟨#[]⟩, .int .i64 0, .int .i64 0], []⟩ 8 (by kernel_rfl) (by kernel_rfl) (by kernel_rfl) (by kernel_rfl))
    (by kernel_rfl) (by kernel_rfl) (by kernel_rfl) (by kernel_rfl) (of_decide_eq_true (by kernel_rfl)) (by kernel_rfl) rfl Try.underlying4 rfl (fun H ds hds => by
      match ds, hds with
      | [a, b, c, d], _ => rfl)
    (fun xs h => law6 xs h)
theorem over : Rows.installBoardsRow.holds Try.pinned (OpenSpec.ofChange Rows.installBoardsSpec) :=
  OpenClaim.holds_of_wide 6 Try.f6 rfl rfl rfl rfl rfl rfl rfl ⟨rfl, rfl, rfl, rfl, rfl⟩ rfl rfl rfl rfl rfl (by kernel_rfl) Try.func6 (by kernel_rfl)
    (of_decide_eq_true (by kernel_rfl)) (by unfold Func.isWrapper; first | (rw [if_pos (by decide +kernel)]; kernel_rfl) | (rw [if_neg (by decide +kernel)]; exact ⟨rfl, rfl⟩))
    (fun os started H enc _ => lifted os started H enc)
/-- The statement. -/
theorem proved : Rows.InstallBoardsSaid := over
#print axioms proved
end Go.Proofs.Ytomapffoalmodaa.installBoards
