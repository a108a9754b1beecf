/-
  Law 'AirSuperposes': for every input the law returns true, and its arguments read behind the call as they read before. Conditions: none beyond those of the given statement.
-/
import Derived.Test.YtoilnldjfncniaaRows
import Derived.Test.YtoilnldjfncniaaC3
namespace Go.Proofs.Ytoilnldjfncniaa.airSuperposes
set_option linter.unusedVariables false
open Go.ChangeShapes Go.WideShapes Go.ChangeAt Go.RowKit Go.Sh
set_option maxRecDepth 100000
theorem own : ownKnob Try.prog.godebug = none := by kernel_rfl
theorem lifted (os : Os) (started : os.Started) (H : Type) (enc : TypeId × Value → H) :
    ReturnsInHanded {} Try.checked os 7 .any (Rows.airSuperposesSpec.pre6 enc Try.prog Try.f7 Rows.airSuperposesRow.domain false) (Rows.airSuperposesSpec.post enc Try.prog Try.f7 false true false false) :=
  law_row (Ck := Try.checked) pol (s := Rows.airSuperposesSpec) (ads := [scD, (false, [.int .u8])]) own started (by kernel_rfl) Try.func7
    (ChangeSpec.witness6 (enc := enc) (C := Try.checked) false ⟨#[], #[.agg #[.slice none 0 0, .slice none 0 0, .slice none 0 0, .int .i64 0, .int .i64 0, .int .i64 0, .slice none 0 0, .slice none 0 0, .slice none 0 0], .int .u8 0], []⟩ 8 (by kernel_rfl) (by kernel_rfl) (by kernel_rfl) (by kernel_rfl))
    (by kernel_rfl) (by kernel_rfl) (by kernel_rfl) (by kernel_rfl) (of_decide_eq_true (by kernel_rfl)) (by kernel_rfl) rfl Try.underlying4 rfl (fun H ds hds => by
      match ds, hds with
      | [a, b], _ => rfl)
    (fun xs h => law7 xs h)
theorem over : Rows.airSuperposesRow.holds Try.pinned (OpenSpec.ofChange Rows.airSuperposesSpec) :=
  OpenClaim.holds_of_wide 7 Try.f7 rfl rfl rfl rfl rfl rfl rfl ⟨rfl, rfl, rfl, rfl, rfl⟩ rfl rfl rfl rfl rfl (by kernel_rfl) Try.func7 (by kernel_rfl)
    (of_decide_eq_true (by kernel_rfl)) (by unfold Func.isWrapper; first | (rw [if_pos (by decide +kernel)]; kernel_rfl) | (rw [if_neg (by decide +kernel)]; exact ⟨rfl, rfl⟩))
    (fun os started H enc _ => lifted os started H enc)
/-- The statement. -/
theorem proved : Rows.AirSuperposesSaid := over
#print axioms proved
end Go.Proofs.Ytoilnldjfncniaa.airSuperposes
