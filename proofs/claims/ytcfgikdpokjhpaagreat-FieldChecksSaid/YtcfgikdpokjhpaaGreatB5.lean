

import Derived.Test.YtcfgikdpokjhpaaGreatB4
namespace Go.Sh
set_option linter.unusedSectionVars false
set_option linter.unnecessarySimpa false
set_option linter.unusedSimpArgs false
set_option linter.unusedVariables false
def stepB (T : FuncId → Option Fun1) (fu : Nat) (rec : Rec) : Rec
  | .fn f, xs, H => match T f with
    | none => none
    | some F => bif pure0 F xs then
        ((runB rec fu F.body (env0 xs) heap0).bind fun o => match o.1 with
          | .exit _ => none
          | _ => (results1 o.2.1 o.2.2 F.res).bind fun v => frz 0 o.2.2 depth1 v).map fun v => (v, H)
      else (runB rec fu F.body (env0 xs) { bl := H.bl, esc := [], ro := min H.ro H.bl.length }).bind fun o => match o.1 with
        | .exit _ => none
        | _ => (results1 o.2.1 o.2.2 F.res).bind fun v => leave1 F.keep H v o.2.2
  | .kfn f, xs, H => match T f with
    | none => none
    | some F => (runB rec fu F.body (env0 xs) { bl := H.bl, esc := [], ro := min H.ro H.bl.length }).bind fun o => match o.1 with
        | .exit _ => none
        | _ => (results1 o.2.1 o.2.2 F.res).bind fun v => leave1 true H v o.2.2
  | .yld b, xs, H => match hget H b with
    | some (.loop q .ready _) =>
      bif q.ps.length == xs.length then
        (runB rec fu q.assign ((q.ps.zip xs).reverse ++ q.env) { bl := H.bl, esc := [], ro := min H.ro H.bl.length }).bind fun o => match o.1 with
          | .normal => (beginLoop b o.2.2).bind fun H' => (runB rec fu q.body o.2.1 H').bind fun o =>
              (setLoop b (match o.1 with | .normal => .ready | _ => .done) o.1 o.2.2).bind fun H' =>
                (trunc H.bl.length H H').map fun H' => (.bool (match o.1 with | .normal => true | _ => false), H')
          | _ => none
      else none
    | _ => none
theorem stepB_up {T : FuncId → Option Fun1} (fu n : Nat) {rec : Rec} (hr : ∀ f xs H r, rec f xs H = some r → call1 T n f xs H = some r) : ∀ f xs H r, stepB T fu rec f xs H = some r → call1 T (n + 1) f xs H = some r := by
  intro f xs H r h
  cases f with
  | fn f =>
    simp only [stepB] at h
    simp only [call1]
    split at h
    · cases h
    · rename_i F hF
      rw [hF]
      dsimp only
      cases hp : pure0 F xs with
      | true =>
        rw [hp] at h
        simp only [cond_true] at h ⊢
        obtain ⟨v, hv, rfl⟩ := Option.map_eq_some_iff.1 h
        obtain ⟨o, h1, h2⟩ := Option.bind_eq_some_iff.1 hv
        rw [runB_up hr fu _ _ _ _ h1]
        obtain ⟨x, e', H'⟩ := o
        cases x with
        | exit j => cases h2
        | normal => simp only at h2; simp only [h2, Option.map_some]
        | ret => simp only at h2; simp only [h2, Option.map_some]
      | false =>
        rw [hp] at h
        simp only [cond_false] at h ⊢
        obtain ⟨o, h1, h2⟩ := Option.bind_eq_some_iff.1 h
        rw [runB_up hr fu _ _ _ _ h1]
        obtain ⟨x, e', H'⟩ := o
        cases x with
        | exit j => cases h2
        | normal => exact h2
        | ret => exact h2
  | kfn f =>
    simp only [stepB] at h
    simp only [call1]
    split at h
    · cases h
    · rename_i F hF
      rw [hF]
      dsimp only
      obtain ⟨o, h1, h2⟩ := Option.bind_eq_some_iff.1 h
      rw [runB_up hr fu _ _ _ _ h1]
      obtain ⟨x, e', H'⟩ := o
      cases x with
      | exit j => cases h2
      | normal => exact h2
      | ret => exact h2
  | yld b =>
    simp only [stepB] at h
    simp only [call1]
    split at h
    · rename_i q pend hg
      rw [hg]
      dsimp only
      cases hp : q.ps.length == xs.length with
      | false => rw [hp] at h; cases h
      | true =>
        rw [hp] at h
        simp only [cond_true] at h ⊢
        obtain ⟨o, h1, h2⟩ := Option.bind_eq_some_iff.1 h
        rw [runB_up hr fu _ _ _ _ h1]
        obtain ⟨x, e', H'⟩ := o
        cases x with
        | exit j => cases h2
        | ret => cases h2
        | normal =>
          simp only at h2 ⊢
          obtain ⟨H1, h3, h4⟩ := Option.bind_eq_some_iff.1 h2
          rw [h3]
          simp only [Option.bind_some]
          obtain ⟨o, h5, h6⟩ := Option.bind_eq_some_iff.1 h4
          rw [runB_up hr fu _ _ _ _ h5]
          exact h6
    · cases h
def callO (T : FuncId → Option Fun1) (fu : Nat) (O : Nat → Cal → List SV → Option SV) : Nat → Rec
  | 0, _, _, _ => none
  | n + 1, c, xs, H => match O n c xs with
    | some v => some (v, H)
    | none => stepB T fu (callO T fu O n) c xs H
theorem callO_up {T : FuncId → Option Fun1} (fu : Nat) {O : Nat → Cal → List SV → Option SV} (hO : ∀ n c xs v, O n c xs = some v → ∀ H, call1 T (n + 1) c xs H = some (v, H)) : ∀ n f xs H r, callO T fu O n f xs H = some r → call1 T n f xs H = some r := by
  intro n
  induction n with
  | zero => intro f xs H r h; simp [callO] at h
  | succ n ih =>
    intro f xs H r h
    simp only [callO] at h
    split at h
    · rename_i v hv
      rw [← h]
      exact hO n f xs v hv H
    · exact stepB_up fu n ih f xs H r h
def orc1 (m f : Nat) (ys : List SV) (w : SV) : Nat → Cal → List SV → Option SV
  | n, .fn g, xs => bif decide (g = f) && decide (m ≤ n + 1) && eqSV (.agg xs) (.agg ys) then some w else none
  | _, _, _ => none
theorem orc1_ok {T : FuncId → Option Fun1} {m f : Nat} {ys : List SV} {w : SV} (h : ∀ n H, call1 T (n + m) (.fn f) ys H = some (w, H)) : ∀ n c xs v, orc1 m f ys w n c xs = some v → ∀ H, call1 T (n + 1) c xs H = some (v, H) := by
  intro n c xs v hv H
  cases c with
  | fn g =>
    simp only [orc1] at hv
    cases hc : (decide (g = f) && decide (m ≤ n + 1) && eqSV (.agg xs) (.agg ys)) with
    | false => rw [hc] at hv; cases hv
    | true =>
      rw [hc] at hv
      simp only [Bool.and_eq_true, decide_eq_true_eq] at hc
      obtain ⟨⟨rfl, h1⟩, h2⟩ := hc
      have h3 := eqSV_eq _ _ h2
      injection h3 with h3
      subst h3
      have h4 := h (n + 1 - m) H
      rw [show n + 1 - m + m = n + 1 by omega] at h4
      rw [h4]
      simp only [cond_true, Option.some.injEq] at hv
      rw [hv]
  | kfn g => cases hv
  | yld b => cases hv
end Go.Sh
