/-
  THE SHADOW MACHINE, PART V: code.
-/
import Derived.Test.YteohbocjhfcbdaaShU
namespace Go.Sh
set_option linter.unusedSectionVars false
set_option linter.unusedVariables false
set_option linter.unusedSimpArgs false
set_option linter.unnecessarySimpa false
def exitOf : SEx → Exit
  | .normal => .normal
  | .exit id => .exit id
  | .ret => .ret
section
variable {C : Ctx} {rec : Rec} {f : FuncId} {nt : Nat}
/-- What is to be shown of code. -/
def CodeOK (C : Ctx) (rec : Rec) (nt : Nat) (c : Code) (c1 : Code1) : Prop :=
  ∀ (ro : Option Nat) (n : Nat) (B : Base) (Q : Exit → Act → World → Prop) (R : Type) (k : SEx → Env → Heap → Option R) (r : R) (e : Env) (H : Heap) (a : Act) (w : World),
    (∀ l, ro = some l → ∃ q, B.w.heap[l]? = some (.loop q)) → run rec c1 e H k () = some r → (∀ x e' H' a' w', k x e' H' = some r → Rel C nt B e' H' a' w' → Q (exitOf x) a' w') → Rel C nt B e H a w → c.wpIn (WF ro) n C.P Q a w
theorem freeze_ok {B : Base} {e : Env} {H H1 : Heap} {a : Act} {w : World} {t : Nat} {v : SV} (h : frzT H (get e t) = some (v, H1)) (hr : Rel C nt B e H a w) : Rel C nt B ((t, v) :: e) H1 a w := by
  obtain ⟨ρ, F, h1, h2, h3, h4, h5⟩ := hr
  have put : ∀ {w : World} {F : Nat → Prop} {ρ : Map}, ER w F ρ e a.tmps → VR w F ρ v (a.tmps.getD t undef) → ER w F ρ ((t, v) :: e) a.tmps := fun he hv i => by
    simp only [get]
    cases hi : (i == t) with
    | true =>
      have : i = t := by simpa using hi
      subst this
      exact hv
    | false => exact he i
  unfold frzT at h
  split at h
  · rename_i b ver off n hbe
    split at h
    · rename_i ver' z L ex hb
      replace h := bif_some h
      obtain ⟨hc, h⟩ := h
      simp only [Bool.and_eq_true, beq_iff_eq, decide_eq_true_eq] at hc
      obtain ⟨⟨rfl, hle⟩, h0⟩ := hc
      simp only [Option.map_eq_some_iff, Prod.mk.injEq] at h
      obtain ⟨H2, hH, rfl, rfl⟩ := h
      obtain ⟨l, hl, hbr⟩ := h1.live b _ hb rfl
      obtain ⟨p1, p2⟩ := h1.thaw hH hb rfl hl (fun _ _ _ h => by cases h)
      have hv := h2 t
      rw [hbe] at hv
      exact ⟨ρ, _, p1, put (p2.er h1 h2) (vr_frozen h1 hv hb hle h0 hl (fun _ h => .inl h) (fun h => .inr ⟨h, rfl⟩)), h3.trans p2, h4, h5.ext p2.toExt0⟩
    · cases h
  · rename_i z L f hbe
    cases h
    have hv := h2 t
    rw [hbe] at hv
    exact ⟨ρ, F, h1, put h2 hv, h3, h4, h5⟩
  · cases h
theorem freezes_ok {c : Code} {c1 : Code1} (h : CodeOK C rec nt c c1) : ∀ ts, CodeOK C rec nt c (freezes c1 ts)
  | [] => h
  | t :: ts => by
    intro ro n B Q R k r e H a w hro hrun hk hrel
    simp only [freezes, run] at hrun
    unfold onSome at hrun
    split at hrun
    · rename_i p hp
      exact freezes_ok h ts ro n B Q R k r _ _ a w hro hrun hk (freeze_ok hp hrel)
    · cases hrun
end
end Go.Sh
