/-
  Law 'FrameTimes': for every input the law returns true, and its arguments read behind the call as they read before. Conditions: none beyond those of the given statement.
-/
import Derived.Test.YtmiblddggdeklaaRows
import Derived.Test.YtmiblddggdeklaaC1
import Derived.Test.YtmiblddggdeklaaC2
namespace Go.Proofs.Ytmiblddggdeklaa.frameTimes
set_option linter.unusedVariables false
open Go.ChangeShapes Go.WideShapes Go.ChangeAt Go.RowKit Go.Sh
set_option maxRecDepth 100000
theorem own : ownKnob Try.prog.godebug = none := by kernel_rfl
theorem lifted (os : Os) (started : os.Started) (H : Type) (enc : TypeId × Value → H) :
    ReturnsInHanded {} Try.checked os 4 .any (Rows.frameTimesSpec.pre6 enc Try.prog Try.f4 Rows.frameTimesRow.domain false) (Rows.frameTimesSpec.post enc Try.prog Try.f4 false true false false) :=
  law_row_ext (Ck := Try.checked) pol exts (s := Rows.frameTimesSpec) (ads := [frD, (false, [.int .i64]), (false, [.int .i64])]) own started (by kernel_rfl) Try.func4
    (ChangeSpec.witness6 (enc := enc) (C := Try.checked) false ⟨#[], #[.agg #[.int .i64 0, .int .i64 0, .int .i64 0, .int .i64 0, .int .i64 0, .int .i64 0, .int .i64 0, .int .i64 0, .int .i64 0, .int .i64 0, .int .i64 0, .string ⟨#[]⟩], .int .i64 0, .int .i64 0], []⟩ 8 (by kernel_rfl) (by kernel_rfl) (by kernel_rfl) (by kernel_rfl))
    (by kernel_rfl) (by kernel_rfl) (by kernel_rfl) (by kernel_rfl) (of_decide_eq_true (by kernel_rfl)) (by kernel_rfl) rfl Try.underlying4 rfl (fun H ds hds => by
      match ds, hds with
      | [a, b, c], _ => rfl)
    (fun xs h => law4 xs h)
theorem over : Rows.frameTimesRow.holds Try.pinned (OpenSpec.ofChange Rows.frameTimesSpec) :=
  OpenClaim.holds_of_wide 4 Try.f4 rfl rfl rfl rfl rfl rfl rfl ⟨rfl, rfl, rfl, rfl, rfl⟩ rfl rfl rfl rfl rfl (by kernel_rfl) Try.func4 (by kernel_rfl)
    (of_decide_eq_true (by kernel_rfl)) (by unfold Func.isWrapper; first | (rw [if_pos (by decide +kernel)]; kernel_rfl) | (rw [if_neg (by decide +kernel)]; exact ⟨rfl, rfl⟩))
    (fun os started H enc _ => lifted os started H enc)
/-- The statement. -/
theorem proved : Rows.FrameTimesSaid := over
#print axioms proved
end Go.Proofs.Ytmiblddggdeklaa.frameTimes
