/-
  Law 'FieldAlone': for every input the law returns true, and its arguments read behind the call as they read before. Conditions: none beyond those of the given statement.
-/
import Derived.Test.YtcfgikdpokjhpaaGreatRows
import Derived.Test.YtcfgikdpokjhpaaGreatB14
namespace Go.Proofs.YtcfgikdpokjhpaaGreat.fieldAlone
set_option linter.unusedVariables false
open Go.ChangeShapes Go.WideShapes Go.ChangeAt Go.RowKit Go.Sh
set_option maxRecDepth 100000
theorem own : ownKnob Tryz.prog.godebug = none := by kernel_rfl
theorem lifted (os : Os) (started : os.Started) (H : Type) (enc : TypeId × Value → H) :
    ReturnsInHanded {} Tryz.checked os 6 .any (Rows.fieldAloneSpec.pre6 enc Tryz.prog Tryz.f6 Rows.fieldAloneRow.domain false) (Rows.fieldAloneSpec.post enc Tryz.prog Tryz.f6 false true false false) :=
  AE (Ck := Tryz.checked) dL (s := Rows.fieldAloneSpec) (ads := [KE, (false, [.int .u8]), (false, [.int .u8]), (false, [.int .u8])]) own started (by kernel_rfl) Tryz.func6
    (ChangeSpec.witness6 (enc := enc) (C := Tryz.checked) false ⟨#[], #[.agg #[.slice none 0 0, .slice none 0 0, .slice none 0 0, .int .i64 0, .int .i64 0, .int .i64 0, .slice none 0 0, .slice none 0 0, .slice none 0 0, .int .i64 0, .int .i64 0, .int .i64 0, .slice none 0 0, .int .i64 0, .slice none 0 0], .int .u8 0, .int .u8 0, .int .u8 0], []⟩ 8 (by kernel_rfl) (by kernel_rfl) (by kernel_rfl) (by kernel_rfl))
    (by kernel_rfl) (by kernel_rfl) (by kernel_rfl) (by kernel_rfl) (of_decide_eq_true (by kernel_rfl)) (by kernel_rfl) rfl Tryz.underlying4 rfl (fun H ds hds => by
      match ds, hds with
      | [a, b, c, d], _ => rfl)
    (fun xs h => TR xs h)
theorem IK : Rows.fieldAloneRow.holds Tryz.pinned (OpenSpec.ofChange Rows.fieldAloneSpec) :=
  OpenClaim.holds_of_wide 6 Tryz.f6 rfl rfl rfl rfl rfl rfl rfl ⟨rfl, rfl, rfl, rfl, rfl⟩ rfl rfl rfl rfl rfl (by kernel_rfl) Tryz.func6 (by kernel_rfl)
    (of_decide_eq_true (by kernel_rfl)) (by unfold Func.isWrapper; first | (rw [if_pos (by decide +kernel)]; kernel_rfl) | (rw [if_neg (by decide +kernel)]; exact ⟨rfl, rfl⟩))
    (fun os started H enc _ => lifted os started H enc)
/-- The statement. -/
theorem proved : Rows.FieldAloneSaid := IK
#print axioms proved
end Go.Proofs.YtcfgikdpokjhpaaGreat.fieldAlone

