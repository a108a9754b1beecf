/-
  Law 'FieldChecks': for every input the law returns true, and its arguments read behind the call as they read before. Conditions: none beyond those of the given statement.
-/
import Derived.Test.YtcfgikdpokjhpaaGreatRows
import Derived.Test.YtcfgikdpokjhpaaGreatC7
namespace Go.Proofs.YtcfgikdpokjhpaaGreat.fieldChecks
set_option linter.unusedVariables false
open Go.ChangeShapes Go.WideShapes Go.ChangeAt Go.RowKit Go.Sh
set_option maxRecDepth 100000
theorem own : ownKnob Tryz.prog.godebug = none := by kernel_rfl
theorem lifted (os : Os) (started : os.Started) (H : Type) (enc : TypeId × Value → H) :
    ReturnsInHanded {} Tryz.checked os 9 .any (Rows.fieldChecksSpec.pre6 enc Tryz.prog Tryz.f9 Rows.fieldChecksRow.domain false) (Rows.fieldChecksSpec.post enc Tryz.prog Tryz.f9 false true false false) :=
  law_row (Ck := Tryz.checked) pol (s := Rows.fieldChecksSpec) (ads := [scD, (false, [.int .i64]), (false, [.int .i64])]) own started (by kernel_rfl) Tryz.func9
    (ChangeSpec.witness6 (enc := enc) (C := Tryz.checked) false ⟨#[], #[.agg #[.slice none 0 0, .slice none 0 0, .slice none 0 0, .int .i64 0, .int .i64 0, .int .i64 0, .slice none 0 0, .slice none 0 0, .slice none 0 0, .int .i64 0, .int .i64 0, .int .i64 0, .slice none 0 0, .int .i64 0, .slice none 0 0], .int .i64 0, .int .i64 0], []⟩ 8 (by kernel_rfl) (by kernel_rfl) (by kernel_rfl) (by kernel_rfl))
    (by kernel_rfl) (by kernel_rfl) (by kernel_rfl) (by kernel_rfl) (of_decide_eq_true (by kernel_rfl)) (by kernel_rfl) rfl Tryz.underlying4 rfl (fun H ds hds => by
      match ds, hds with
      | [a, b, c], _ => rfl)
    (fun xs h => law9 xs h)
theorem over : Rows.fieldChecksRow.holds Tryz.pinned (OpenSpec.ofChange Rows.fieldChecksSpec) :=
  OpenClaim.holds_of_wide 9 Tryz.f9 rfl rfl rfl rfl rfl rfl rfl ⟨rfl, rfl, rfl, rfl, rfl⟩ rfl rfl rfl rfl rfl (by kernel_rfl) Tryz.func9 (by kernel_rfl)
    (of_decide_eq_true (by kernel_rfl)) (by unfold Func.isWrapper; first | (rw [if_pos (by decide +kernel)]; kernel_rfl) | (rw [if_neg (by decide +kernel)]; exact ⟨rfl, rfl⟩))
    (fun os started H enc _ => lifted os started H enc)
/-- The statement. -/
theorem proved : Rows.FieldChecksSaid := over
#print axioms proved
end Go.Proofs.YtcfgikdpokjhpaaGreat.fieldChecks
