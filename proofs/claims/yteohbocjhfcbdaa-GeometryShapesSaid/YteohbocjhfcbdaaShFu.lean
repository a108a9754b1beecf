/-
  THE SHADOW MACHINE, PART FU: the machine with a bound on each loop's rounds: the kernel can carry it out; what it answers, the machine answers.
-/
import Derived.Test.YteohbocjhfcbdaaShLaw
namespace Go.Sh
set_option linter.unusedSectionVars false
set_option linter.unnecessarySimpa false
set_option linter.unusedSimpArgs false
set_option linter.unusedVariables false
def runB (rec : Rec) (fu : Nat) : Code1 → Env → Heap → Option Out
  | .skip, e, H => some (.normal, e, H)
  | .ops l, e, H => (runOps rec l e H (fun e H => some (e, H)) ()).map fun s => (.normal, s)
  | .drawn l, e, H => (runDrawn rec l H.bl.length e H (fun e H => some (e, H)) ()).map fun s => (.normal, s)
  | .seq a b, e, H => match runB rec fu a e H with
    | some (.normal, e, H) => runB rec fu b e H
    | r => r
  | .cond c a b, e, H => match ev e c with
    | .bool t => bif t then runB rec fu a e H else runB rec fu b e H
    | _ => none
  | .block id a, e, H => match runB rec fu a e H with
    | some (.exit j, e, H) => some (bif j == id then .normal else .exit j, e, H)
    | r => r
  | .freeze t, e, H => (frzT H (get e t)).map fun r => (.normal, (t, r.1) :: e, r.2)
  | .loop p a, e, H => (virt1 p.virt e H).bind fun s => (iter1 (fun s' => (head1 p s.2.bl.length { s.2 with esc := [] } s').bind fun s' => runB rec fu a s'.1 s'.2) fu (s.1, { s.2 with esc := [] })).map
      fun o => (o.1, o.2.1, { o.2.2 with esc := s.2.esc ++ o.2.2.esc })
  | .rangeF f ps x y, e, H => (fcall rec (ev e f) [.yld H.bl.length] (hnew H (.loop ⟨e, ps, x, y⟩ .ready .normal))).bind fun r =>
      match hget r.2 H.bl.length with
      | some (.loop q st pend) => match st with
        | .busy => none
        | _ => (hset r.2 H.bl.length (.loop q .exhausted pend) 0).map fun H => (pend, e, H)
      | _ => none
  | .exit id, e, H => some (.exit id, e, H)
  | .ret, e, H => some (.ret, e, H)
def callB (T : FuncId → Option Fun1) (fu : Nat) : Nat → Rec
  | 0, _, _, _ => none
  | n + 1, .fn f, xs, H => match T f with
    | none => none
    | some F => bif pure0 F xs then
        ((runB (callB T fu n) fu F.body (env0 xs) heap0).bind fun o => match o.1 with
          | .exit _ => none
          | _ => (results1 o.2.1 o.2.2 F.res).bind fun v => frz 0 o.2.2 depth1 v).map fun v => (v, H)
      else (runB (callB T fu n) fu F.body (env0 xs) { bl := H.bl, esc := [], ro := min H.ro H.bl.length }).bind fun o => match o.1 with
        | .exit _ => none
        | _ => (results1 o.2.1 o.2.2 F.res).bind fun v => leave1 F.keep H v o.2.2
  | n + 1, .yld b, xs, H => match hget H b with
    | some (.loop q .ready _) =>
      bif q.ps.length == xs.length then
        (runB (callB T fu n) fu q.assign ((q.ps.zip xs).reverse ++ q.env) { bl := H.bl, esc := [], ro := min H.ro H.bl.length }).bind fun o => match o.1 with
          | .normal => (beginLoop b o.2.2).bind fun H' => (runB (callB T fu n) fu q.body o.2.1 H').bind fun o =>
              (setLoop b (match o.1 with | .normal => .ready | _ => .done) o.1 o.2.2).bind fun H' =>
                (trunc H.bl.length H H').map fun H' => (.bool (match o.1 with | .normal => true | _ => false), H')
          | _ => none
      else none
    | _ => none
section
variable {rec rec' : Rec} (hrec : ∀ f xs H r, rec f xs H = some r → rec' f xs H = some r)
include hrec
theorem scall_up {f xs H r} (h : scall rec f xs H = some r) : scall rec' f xs H = some r := by
  unfold scall at h ⊢
  split at h
  · exact hrec _ _ _ _ h
  · exact hrec _ _ _ _ h
  · cases h
theorem fcall_up {f xs H r} (h : fcall rec f xs H = some r) : fcall rec' f xs H = some r := by
  unfold fcall at h ⊢
  split at h
  · exact hrec _ _ _ _ h
  · cases h
theorem step1_up {e H o r} (h : step1 rec e H o = some r) : step1 rec' e H o = some r := by
  unfold step1 at h ⊢
  split at h
  · exact scall_up hrec h
  · exact h
theorem step1d_up {N d e H o r} (h : step1d rec N d e H o = some r) : step1d rec' N d e H o = some r := by
  unfold step1d at h ⊢
  split at h
  · exact step1_up hrec h
  · obtain ⟨a, h1, h2⟩ := Option.bind_eq_some_iff.1 h
    exact Option.bind_eq_some_iff.2 ⟨a, step1_up hrec h1, h2⟩
  · obtain ⟨a, h1, h2⟩ := Option.bind_eq_some_iff.1 h
    exact Option.bind_eq_some_iff.2 ⟨a, step1_up hrec h1, h2⟩
theorem runOps_up {R : Type} (k : Env → Heap → Option R) : ∀ l e H o, runOps rec l e H (fun e H => some (e, H)) () = some o → runOps rec' l e H k () = k o.1 o.2 := by
  intro l
  induction l with
  | nil => intro e H o h; simp only [runOps, Option.some.injEq] at h ⊢; rw [← h]
  | cons a l ih =>
    intro e H o h
    have key : ∀ o, onSome (step1 rec e H a.op) (fun r => runOps rec l (bind1 e a.dst r.1) r.2 (fun e H => some (e, H)) ()) () = some o → onSome (step1 rec' e H a.op) (fun r => runOps rec' l (bind1 e a.dst r.1) r.2 k ()) () = k o.1 o.2 := by
      intro o h
      unfold onSome at h
      split at h
      · rename_i v hv
        rw [step1_up hrec hv]
        exact ih _ _ _ h
      · cases h
    simp only [runOps] at h ⊢
    split at h
    · exact key _ h
    · rename_i t w _
      unfold onGuard at h ⊢
      split at h
      · unfold fork at h ⊢
        dsimp only at h ⊢
        rename_i b _
        cases hb : (b == w) with
        | true => rw [hb] at h; exact key _ h
        | false => rw [hb] at h; exact ih _ _ _ h
      · unfold fork at h ⊢
        exact ih _ _ _ h
      · cases h
theorem runDrawn_up {R : Type} (k : Env → Heap → Option R) : ∀ l N e H o, runDrawn rec l N e H (fun e H => some (e, H)) () = some o → runDrawn rec' l N e H k () = k o.1 o.2 := by
  intro l
  induction l with
  | nil => intro N e H o h; simp only [runDrawn, Option.some.injEq] at h ⊢; rw [← h]
  | cons a l ih =>
    intro N e H o h
    obtain ⟨a, d⟩ := a
    have key : ∀ o, onSome (step1d rec N d e H a.op) (fun r => runDrawn rec l (nextN d N r.2) (bind1 e a.dst r.1) r.2 (fun e H => some (e, H)) ()) () = some o →
        onSome (step1d rec' N d e H a.op) (fun r => runDrawn rec' l (nextN d N r.2) (bind1 e a.dst r.1) r.2 k ()) () = k o.1 o.2 := by
      intro o h
      unfold onSome at h
      split at h
      · rename_i v hv
        rw [step1d_up hrec hv]
        exact ih _ _ _ _ h
      · cases h
    have key2 : ∀ o, (bif skip1 d then runDrawn rec l (nextN d N H) (bind1 e a.dst .skp) H (fun e H => some (e, H)) () else none) = some o →
        (bif skip1 d then runDrawn rec' l (nextN d N H) (bind1 e a.dst .skp) H k () else none) = k o.1 o.2 := by
      intro o h
      cases hs : skip1 d with
      | true => rw [hs] at h; exact ih _ _ _ _ h
      | false => rw [hs] at h; cases h
    simp only [runDrawn] at h ⊢
    split at h
    · exact key _ h
    · rename_i t w _
      unfold onGuard at h ⊢
      split at h
      · unfold fork at h ⊢
        dsimp only at h ⊢
        rename_i b _
        cases hb : (b == w) with
        | true => rw [hb] at h; exact key _ h
        | false => rw [hb] at h; exact key2 _ h
      · unfold fork at h ⊢
        exact key2 _ h
      · cases h
theorem iter1_up {f g : Env × Heap → Option Out} (hfg : ∀ s o, f s = some o → g s = some o) : ∀ n s o, iter1 f n s = some o → iter1 g n s = some o := by
  intro n
  induction n with
  | zero => intro s o h; cases h
  | succ n ih =>
    intro s o h
    simp only [iter1] at h ⊢
    cases hf : f s with
    | none => rw [hf] at h; cases h
    | some r =>
      rw [hfg _ _ hf]
      rw [hf] at h
      obtain ⟨x, s'⟩ := r
      cases x with
      | normal => exact ih _ _ h
      | exit j => exact h
      | ret => exact h
theorem runB_up (fu : Nat) : ∀ (c : Code1) (e : Env) (H : Heap) (o : Out), runB rec fu c e H = some o → ∀ {R : Type} (k : SEx → Env → Heap → Option R), run rec' c e H k () = k o.1 o.2.1 o.2.2 := by
  intro c
  induction c with
  | skip => intro e H o h R k; simp only [runB, Option.some.injEq] at h; subst h; rfl
  | ops l =>
    intro e H o h R k
    simp only [runB, Option.map_eq_some_iff] at h
    obtain ⟨s, hs, rfl⟩ := h
    exact runOps_up hrec _ _ _ _ _ hs
  | drawn l =>
    intro e H o h R k
    simp only [runB, Option.map_eq_some_iff] at h
    obtain ⟨s, hs, rfl⟩ := h
    exact runDrawn_up hrec _ _ _ _ _ _ hs
  | seq a b iha ihb =>
    intro e H o h R k
    simp only [runB] at h
    simp only [run]
    split at h
    · rename_i e' H' ha
      rw [iha _ _ _ ha]
      exact ihb _ _ _ h k
    · rename_i hn
      rw [iha _ _ _ h]
      obtain ⟨x, e', H'⟩ := o
      cases x with
      | normal => exact absurd h (hn _ _)
      | exit j => rfl
      | ret => rfl
  | cond c a b iha ihb =>
    intro e H o h R k
    simp only [runB] at h
    simp only [run]
    split at h
    · rename_i t ht
      rw [ht]
      simp only [onBool, fork]
      cases t with
      | true => exact iha _ _ _ h k
      | false => exact ihb _ _ _ h k
    · cases h
  | block id a ih =>
    intro e H o h R k
    simp only [runB] at h
    simp only [run]
    split at h
    · rename_i j e' H' ha
      rw [ih _ _ _ ha]
      cases h
      dsimp only
      cases j == id <;> rfl
    · rename_i hn
      rw [ih _ _ _ h]
      obtain ⟨x, e', H'⟩ := o
      cases x with
      | normal => rfl
      | exit j => exact absurd h (hn _ _ _)
      | ret => rfl
  | freeze t =>
    intro e H o h R k
    simp only [runB, Option.map_eq_some_iff] at h
    obtain ⟨s, hs, rfl⟩ := h
    simp only [run, hs, onSome]
  | loop p a ih =>
    intro e H o h R k
    simp only [runB] at h
    obtain ⟨s, h1, h2⟩ := Option.bind_eq_some_iff.1 h
    obtain ⟨o', h3, rfl⟩ := Option.map_eq_some_iff.1 h2
    simp only [run, h1, onSome]
    have h4 := iter1_up hrec (g := fun s' => (head1 p s.2.bl.length { s.2 with esc := [] } s').bind fun s' => run rec' a s'.1 s'.2 (fun x e H => some (x, e, H)) ()) (fun s' o hs => by
      obtain ⟨q, g1, g2⟩ := Option.bind_eq_some_iff.1 hs
      exact Option.bind_eq_some_iff.2 ⟨q, g1, ih _ _ _ g2 _⟩) _ _ _ h3
    rw [loop1_of h4]
  | rangeF f ps x y ihx ihy =>
    intro e H o h R k
    simp only [runB] at h
    obtain ⟨s, h1, h2⟩ := Option.bind_eq_some_iff.1 h
    simp only [run, fcall_up hrec h1, onSome]
    split at h2
    · rename_i q st pend hg
      rw [hg]
      cases st with
      | busy => cases h2
      | ready => obtain ⟨o', h3, rfl⟩ := Option.map_eq_some_iff.1 h2; simp only [h3]
      | done => obtain ⟨o', h3, rfl⟩ := Option.map_eq_some_iff.1 h2; simp only [h3]
      | exhausted => obtain ⟨o', h3, rfl⟩ := Option.map_eq_some_iff.1 h2; simp only [h3]
    · cases h2
  | exit id => intro e H o h R k; simp only [runB, Option.some.injEq] at h; subst h; rfl
  | ret => intro e H o h R k; simp only [runB, Option.some.injEq] at h; subst h; rfl
end
theorem callB_up {T : FuncId → Option Fun1} (fu : Nat) : ∀ n f xs H r, callB T fu n f xs H = some r → call1 T n f xs H = some r := by
  intro n
  induction n with
  | zero => intro f xs H r h; simp [callB] at h
  | succ n ih =>
    intro f xs H r h
    cases f with
    | fn f =>
      simp only [callB] at h
      simp only [call1]
      split at h
      · cases h
      · rename_i F hF
        rw [hF]
        dsimp only
        cases hp : pure0 F xs with
        | true =>
          rw [hp] at h
          simp only [cond_true] at h ⊢
          obtain ⟨v, hv, rfl⟩ := Option.map_eq_some_iff.1 h
          obtain ⟨o, h1, h2⟩ := Option.bind_eq_some_iff.1 hv
          rw [runB_up ih fu _ _ _ _ h1]
          obtain ⟨x, e', H'⟩ := o
          cases x with
          | exit j => cases h2
          | normal => simp only at h2; simp only [h2, Option.map_some]
          | ret => simp only at h2; simp only [h2, Option.map_some]
        | false =>
          rw [hp] at h
          simp only [cond_false] at h ⊢
          obtain ⟨o, h1, h2⟩ := Option.bind_eq_some_iff.1 h
          rw [runB_up ih fu _ _ _ _ h1]
          obtain ⟨x, e', H'⟩ := o
          cases x with
          | exit j => cases h2
          | normal => exact h2
          | ret => exact h2
    | yld b =>
      simp only [callB] at h
      simp only [call1]
      split at h
      · rename_i q pend hg
        rw [hg]
        dsimp only
        cases hp : q.ps.length == xs.length with
        | false => rw [hp] at h; cases h
        | true =>
          rw [hp] at h
          simp only [cond_true] at h ⊢
          obtain ⟨o, h1, h2⟩ := Option.bind_eq_some_iff.1 h
          rw [runB_up ih fu _ _ _ _ h1]
          obtain ⟨x, e', H'⟩ := o
          cases x with
          | exit j => cases h2
          | ret => cases h2
          | normal =>
            simp only at h2 ⊢
            obtain ⟨H1, h3, h4⟩ := Option.bind_eq_some_iff.1 h2
            rw [h3]
            simp only [Option.bind_some]
            obtain ⟨o, h5, h6⟩ := Option.bind_eq_some_iff.1 h4
            rw [runB_up ih fu _ _ _ _ h5]
            exact h6
      · cases h
end Go.Sh
