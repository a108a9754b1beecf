/-
  THE SHADOW MACHINE, PART Y: code.
-/
import Derived.Test.YteohbocjhfcbdaaShX1
namespace Go.Sh
set_option linter.unusedSectionVars false
set_option linter.unusedVariables false
set_option linter.unusedSimpArgs false
set_option linter.unnecessarySimpa false
section
variable {C : Ctx} {rec : Rec} {f : FuncId} {nt : Nat}
theorem code_ok (hmix : C.P.follows .mixedOrders = true) (hrec : RecOK C rec) : ∀ (c : Code) (c1 : Code1), ccode C.P C.pol f nt c = some c1 → CodeOK C rec nt c c1 := by
  intro c
  induction c with
  | skip =>
    intro c1 h ro n B Q R k r e H a w hro hrun hk hrel
    cases h
    exact wpIn_skip (hk .normal e H a w hrun hrel)
  | region id ops draw =>
    intro c1 h
    simp only [ccode, Option.map_eq_some_iff] at h
    obtain ⟨c2, h, rfl⟩ := h
    apply freezes_ok
    unfold cregion at h
    split at h
    · cases h
    · rename_i l hl
      cases draw with
      | true =>
        simp only [cond_true, Option.map_eq_some_iff] at h
        obtain ⟨d, hd, rfl⟩ := h
        exact ok_drawn hmix hrec hl hd
      | false =>
        simp only [cond_false, Option.some.injEq] at h
        subst h
        intro ro n B Q R k r e H a w hro hrun hk hrel
        refine wpIn_region ?_
        rw [List.range_eq_range']
        exact runOps_ok hrec (k := k .normal) (r := r) (fun e' H' a' w' h hr => hk .normal e' H' a' w' h hr) ops.size 0 l (by simp) (by simpa using hl) e H a w hrun hrel
  | seq x y ihx ihy =>
    intro c1 h ro n B Q R k r e H a w hro hrun hk hrel
    simp only [ccode] at h
    split at h
    · rename_i x1 y1 h1 h2
      cases h
      simp only [run] at hrun
      refine wpIn_seq (ihx x1 h1 ro n B _ R _ r e H a w hro hrun (fun x e' H' a' w' h hr => ?_) hrel)
      cases x with
      | normal => exact ihy y1 h2 ro n B Q R k r e' H' a' w' hro h hk hr
      | exit id => exact hk (.exit id) e' H' a' w' h hr
      | ret => exact hk .ret e' H' a' w' h hr
    · cases h
  | cond c x y ihx ihy =>
    intro c1 h ro n B Q R k r e H a w hro hrun hk hrel
    simp only [ccode] at h
    split at h
    · rename_i c' x1 y1 h0 h1 h2
      cases h
      simp only [run] at hrun
      unfold onBool at hrun
      split at hrun
      · rename_i b hb
        obtain ⟨ρ, F, hr, he, _⟩ := id hrel
        have hv := copd_vr h0 he
        rw [hb] at hv
        have hv := vr_bool hv
        dsimp only at hrun
        unfold fork at hrun
        cases b with
        | true => exact wpIn_cond_true hv (ihx x1 h1 ro n B Q R k r e H a w hro hrun hk hrel)
        | false => exact wpIn_cond_false hv (ihy y1 h2 ro n B Q R k r e H a w hro hrun hk hrel)
      · cases hrun
    · cases h
  | block id x ih =>
    intro c1 h ro n B Q R k r e H a w hro hrun hk hrel
    simp only [ccode, Option.map_eq_some_iff] at h
    obtain ⟨x1, h1, rfl⟩ := h
    simp only [run] at hrun
    refine wpIn_block (ih x1 h1 ro n B _ R _ r e H a w hro hrun (fun x e' H' a' w' h hr => ?_) hrel)
    cases x with
    | normal => exact hk .normal e' H' a' w' h hr
    | exit j =>
      simp only [exitOf, Exit.inBlock]
      dsimp only at h
      cases hj : (j == id) with
      | true =>
        rw [hj] at h
        have : j = id := by simpa using hj
        rw [if_pos this]
        exact hk .normal e' H' a' w' h hr
      | false =>
        rw [hj] at h
        have : ¬ j = id := by simpa using hj
        rw [if_neg this]
        exact hk (.exit j) e' H' a' w' h hr
    | ret => exact hk .ret e' H' a' w' h hr
  | loop x ih =>
    intro c1 h
    simp only [ccode, Option.map_eq_some_iff] at h
    obtain ⟨x1, h1, rfl⟩ := h
    exact ok_loop (ih x1 h1)
  | rangeFunc g ps x y ihx ihy =>
    intro c1 h
    simp only [ccode] at h
    split at h
    · rename_i g' x1 y1 h0 h1 h2
      replace h := bif_none h
      obtain ⟨hp, h⟩ := h
      cases h
      exact ok_rangeF hrec h0 (fun t ht => by
        have := List.any_eq_false.1 hp t ht
        simpa using this) h1 h2
    · cases h
  | exit id =>
    intro c1 h ro n B Q R k r e H a w hro hrun hk hrel
    cases h
    exact wpIn_exit (hk (.exit id) e H a w hrun hrel)
  | ret =>
    intro c1 h ro n B Q R k r e H a w hro hrun hk hrel
    cases h
    exact wpIn_ret (hk .ret e H a w hrun hrel)
  | _ => intro c1 h; simp [ccode] at h
end
end Go.Sh
