/-
  Law 'TopGuard': for every input the law returns true, and its arguments read behind the call as they read before. Conditions: none beyond those of the given statement.
-/
import Derived.Test.YtlkjiffohmkidaaGreatRows
import Derived.Test.YtlkjiffohmkidaaGreatB11
namespace Go.Proofs.YtlkjiffohmkidaaGreat.topGuard
set_option linter.unusedVariables false
open Go.ChangeShapes Go.WideShapes Go.ChangeAt Go.RowKit Go.Sh
set_option maxRecDepth 100000
theorem own : ownKnob Tryz.prog.godebug = none := by kernel_rfl
theorem lifted (os : Os) (started : os.Started) (H : Type) (enc : TypeId × Value → H) :
    ReturnsInHanded {} Tryz.checked os 3 .any (Rows.topGuardSpec.pre6 enc Tryz.prog Tryz.f3 Rows.topGuardRow.domain false) (Rows.topGuardSpec.post enc Tryz.prog Tryz.f3 false true false false) :=
  tL (Ck := Tryz.checked) cg (s := Rows.topGuardSpec) (ads := [K.Bz, K.BB, (false, [.int .i64])]) own started (by kernel_rfl) Tryz.func3
    (ChangeSpec.witness6 (enc := enc) (C := Tryz.checked) false ⟨#[], #[.agg #[.slice none 0 0, .slice none 0 0], .slice none 0 0, .int .i64 0], []⟩ 8 (by kernel_rfl) (by kernel_rfl) (by kernel_rfl) (by kernel_rfl))
    (by kernel_rfl) (by kernel_rfl) (by kernel_rfl) (by kernel_rfl) (of_decide_eq_true (by kernel_rfl)) (by kernel_rfl) rfl Tryz.underlying4 rfl (fun H ds hds => by
      match ds, hds with
      | [a, b, c], _ => rfl)
    (fun xs h => K.Ao xs h)
theorem Ac : Rows.topGuardRow.holds Tryz.pinned (OpenSpec.ofChange Rows.topGuardSpec) :=
  OpenClaim.holds_of_wide 3 Tryz.f3 rfl rfl rfl rfl rfl rfl rfl ⟨rfl, rfl, rfl, rfl, rfl⟩ rfl rfl rfl rfl rfl (by kernel_rfl) Tryz.func3 (by kernel_rfl)
    (of_decide_eq_true (by kernel_rfl)) (by unfold Func.isWrapper; first | (rw [if_pos (by decide +kernel)]; kernel_rfl) | (rw [if_neg (by decide +kernel)]; exact ⟨rfl, rfl⟩))
    (fun os started H enc _ => lifted os started H enc)
/-- The statement. -/
theorem proved : Rows.TopGuardSaid := Ac
#print axioms proved
end Go.Proofs.YtlkjiffohmkidaaGreat.topGuard

