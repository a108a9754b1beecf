/-
  THE SHADOW MACHINE, PART S: every operation that calls nothing.
-/
import Derived.Test.YteohbocjhfcbdaaShRa
namespace Go.Sh
set_option linter.unusedSectionVars false
set_option linter.unusedVariables false
set_option linter.unusedSimpArgs false
set_option linter.unnecessarySimpa false
section
variable {C : Ctx} {ρ : Map} {F : Nat → Prop} {H H' : Heap} {w : World} {e : Env} {a : Act} {s c d : SV}
theorem copd2 {α : Type} {x y : Operand} {f : Opd → Opd → Option α} {r : α} (h : (match copd x, copd y with | some x, some y => f x y | _, _ => none) = some r) : ∃ x' y', copd x = some x' ∧ copd y = some y' ∧ f x' y' = some r := by
  split at h
  · rename_i x' y' h1 h2; exact ⟨x', y', h1, h2, h⟩
  · cases h
theorem bif_none {A : Type} {c : Bool} {x : Option A} {y : A} (h : (bif c then none else x) = some y) : c = false ∧ x = some y := by
  cases c with
  | true => cases h
  | false => exact ⟨rfl, h⟩
theorem map_fst {v : Option SV} (h : v.map (·, H) = some (s, H')) : v = some s ∧ H = H' := by
  cases v with
  | none => cases h
  | some v => cases h; exact ⟨rfl, rfl⟩
theorem copds_one {xs : Array Operand} {y : Opd} (h : copds xs = some [y]) : ∃ x, xs = #[x] ∧ copd x = some y := by
  have h1 := allS_some h
  cases xs with
  | mk l =>
    match l, h1 with
    | [x], h1 => simp at h1; exact ⟨x, rfl, h1⟩
    | [], h1 => simp at h1
    | _ :: _ :: _, h1 => simp at h1
theorem copds_two {xs : Array Operand} {y z : Opd} (h : copds xs = some [y, z]) : ∃ x x', xs = #[x, x'] ∧ copd x = some y ∧ copd x' = some z := by
  have h1 := allS_some h
  cases xs with
  | mk l =>
    match l, h1 with
    | [x, x'], h1 => simp at h1; exact ⟨x, x', rfl, h1.1, h1.2⟩
    | [], h1 => simp at h1
    | [_], h1 => simp at h1
    | _ :: _ :: _ :: _, h1 => simp at h1
theorem celem_un {t el : TypeId} (h : celem C.P t = some el) : C.P.underlying t = some (.slice el) := by
  unfold celem at h
  split at h
  · cases h; assumption
  · cases h
theorem ok_op {o : Oper} {op' : Op1} (h : cop C.P o.op = some op') (hr : HR C ρ F H w) (he : ER w F ρ e a.tmps) (hs : sop e H op' = some (s, H')) : OpOK C (execOp a.eval o) ρ F H w s H' := by
  unfold cop at h
  split at h
  case h_1 x ho =>
    simp only [Option.map_eq_some_iff] at h
    obtain ⟨y, hy, rfl⟩ := h
    simp only [sop, Option.some.injEq, Prod.mk.injEq] at hs
    obtain ⟨rfl, rfl⟩ := hs
    simp only [execOp, ho]
    exact ok_mov hy hr he
  case h_2 x ho =>
    simp only [Option.map_eq_some_iff] at h
    obtain ⟨y, hy, rfl⟩ := h
    simp only [sop, Option.some.injEq, Prod.mk.injEq] at hs
    obtain ⟨rfl, rfl⟩ := hs
    simp only [execOp, ho]
    exact ok_mov hy hr he
  case h_3 c x y ho =>
    split at h
    · rename_i c' x' y' h1 h2 h3
      cases h
      obtain ⟨h4, rfl⟩ := map_fst hs
      simp only [execOp, ho]
      exact ok_pick h1 h2 h3 hr he h4
    · cases h
  case h_4 t ho =>
    simp only [Option.map_eq_some_iff] at h
    obtain ⟨z, hz, rfl⟩ := h
    simp only [sop, Option.some.injEq, Prod.mk.injEq] at hs
    obtain ⟨rfl, rfl⟩ := hs
    simp only [execOp, ho]
    exact ok_alloc hz hr
  case h_5 t x ho =>
    simp only [Option.map_eq_some_iff] at h
    obtain ⟨y, hy, rfl⟩ := h
    simp only [sop, Option.map_eq_some_iff, Prod.mk.injEq] at hs
    obtain ⟨cs, h1, rfl, rfl⟩ := hs
    simp only [execOp, ho]
    exact ok_box hy hr he h1
  case h_6 t ps ho =>
    split at h
    · rename_i z ps' h1 h2
      cases h
      simp only [sop, Option.map_eq_some_iff, Prod.mk.injEq] at hs
      obtain ⟨r, h3, rfl, rfl⟩ := hs
      simp only [execOp, ho]
      exact ok_build h1 h2 hr he h3
    · cases h
  case h_7 t n ps ho =>
    split at h
    · rename_i el hel
      split at h
      · rename_i z zs ps' h1 h2 h3
        replace h := bif_some h
        obtain ⟨hc, h⟩ := h
        cases h
        simp only [Bool.and_eq_true, decide_eq_true_eq, beq_iff_eq] at hc
        simp only [sop, Option.map_eq_some_iff, Prod.mk.injEq] at hs
        obtain ⟨r, h4, rfl, rfl⟩ := hs
        simp only [execOp, ho]
        exact ok_bslice hel h1 h2 h3 hc.1 hc.2 hr he h4
      · cases h
    · cases h
  case h_8 t x ho =>
    split at h
    · rename_i ag n y h1 h2 h3
      cases h
      obtain ⟨h4, rfl⟩ := map_fst hs
      simp only [execOp, ho]
      exact ok_load h1 h2 h3 hr he h4
    · cases h
  case h_9 t x y ho =>
    split at h
    · rename_i n x' y' h1 h2 h3
      cases h
      simp only [sop, Option.map_eq_some_iff, Prod.mk.injEq] at hs
      obtain ⟨H1, h4, rfl, rfl⟩ := hs
      simp only [execOp, ho]
      exact ok_store h1 h2 h3 hr he h4
    · cases h
  case h_10 x ho =>
    simp only [Option.map_eq_some_iff] at h
    obtain ⟨y, hy, rfl⟩ := h
    exact ok_nilChk hy hr he o ho hs
  case h_11 bo t x y yt ho =>
    simp only [execOp, ho]
    split at h
    · rename_i x' y' h1 h2
      have aggs : ∀ (op : BinOp) (neg : Bool), ((op = .eql ∧ neg = false) ∨ (op = .neq ∧ neg = true)) → cag C.P t = some true → (bif C.P.eqGuardType C.P.depth t then none else (cshape C.P 6 t).map (.eqAgg neg · x' y')) = some op' → sop e H op' = some (s, H') →
          OpOK C (do let v ← (do eqGuard op t x y (a.eval x) (a.eval y); binOp op t (a.eval x) (a.eval y)); pure (.value v)) ρ F H w s H' := by
        intro op neg hop hag h hs
        replace h := bif_none h
        obtain ⟨hm, h⟩ := h
        simp only [Option.map_eq_some_iff] at h
        obtain ⟨sh, hsh, rfl⟩ := h
        simp only [sop] at hs
        split at hs
        · rename_i cs ds k1 k2
          simp only [Option.map_eq_some_iff, Prod.mk.injEq] at hs
          obtain ⟨r, k3, rfl, rfl⟩ := hs
          exact ok_eqAgg hop h1 h2 hm hsh hag hr he k1 k2 k3
        · cases hs
      split at h
      · rename_i hu
        exact aggs .eql false (.inl ⟨rfl, rfl⟩) (by simp [cag, hu]) h hs
      · rename_i hu
        exact aggs .neq true (.inr ⟨rfl, rfl⟩) (by simp [cag, hu]) h hs
      · rename_i hu
        exact aggs .eql false (.inl ⟨rfl, rfl⟩) (by simp [cag, hu]) h hs
      · rename_i hu
        exact aggs .neq true (.inr ⟨rfl, rfl⟩) (by simp [cag, hu]) h hs
      · cases h
        obtain ⟨h4, rfl⟩ := map_fst hs
        exact ok_bin h1 h2 hr he h4
      · rename_i hu
        cases h
        obtain ⟨h4, rfl⟩ := map_fst hs
        exact ok_binB h1 h2 hr he hu h4
      · cases h
        obtain ⟨h4, rfl⟩ := map_fst hs
        exact ok_bin h1 h2 hr he h4
      · cases h
    · cases h
  case h_12 t x ho =>
    simp only [Option.map_eq_some_iff] at h
    obtain ⟨y, hy, rfl⟩ := h
    simp only [sop] at hs
    split at hs
    · rename_i b hb
      cases hs
      simp only [execOp, ho]
      exact ok_notB (t := t) hy hr he hb
    · cases hs
  case h_13 t x ho =>
    split at h
    · simp only [Option.map_eq_some_iff] at h
      obtain ⟨y, hy, rfl⟩ := h
      simp only [sop] at hs
      split at hs
      · rename_i k n hb
        cases hs
        simp only [execOp, ho]
        exact ok_negI hy hr he hb
      · cases hs
    · cases h
  case h_14 sr ds x ho =>
    simp only [execOp, ho]
    split at h
    · cases h
    · rename_i y hy
      split at h
      · rename_i j k h1 h2
        cases h
        simp only [sop] at hs
        split at hs
        · rename_i k' n hb
          cases hs
          exact ok_convI hy h1 h2 hr he hb
        · cases hs
      · rename_i h1 h2
        cases h
        simp only [sop] at hs
        split at hs
        · rename_i b hb
          cases hs
          exact ok_convS hy h1 h2 hr he hb
        · cases hs
      · cases h
  case h_15 f fs cs ho =>
    replace h := bif_some h
    obtain ⟨hc, h⟩ := h
    simp only [Option.map_eq_some_iff] at h
    obtain ⟨ys, hy, rfl⟩ := h
    simp only [sop, Option.some.injEq, Prod.mk.injEq] at hs
    obtain ⟨rfl, rfl⟩ := hs
    simp only [execOp, ho]
    exact ok_mkfn hc hy hr he
  case h_16 t l c ho =>
    split at h
    · rename_i el hel
      split at h
      · rename_i i z l' c' h1 h2 h3 h4
        replace h := bif_none h
        obtain ⟨hb, h⟩ := h
        replace h := bif_some h
        obtain ⟨hz, h⟩ := h
        cases h
        simp only [Bool.or_eq_false_iff, beq_eq_false_iff_ne, beq_iff_eq] at hb hz
        have hu : C.P.underlying t = some (.slice el) := by
          unfold celem at hel
          split at hel
          · cases hel; assumption
          · cases hel
        simp only [sop] at hs
        obtain ⟨val, w', r1, r2⟩ := ok_mkslice hu h1 h2 hz (by omega) (by omega) hr (copd_vr h3 he) (copd_vr h4 he) hs
        simp only [execOp, ho]
        exact OpOK.valD r1 r2
      · cases h
    · cases h
  case h_17 t x lo hi mx ho =>
    simp only [execOp, ho]
    split at h
    · rename_i x' lo' hi' mx' h1 h2 h3 h4
      split at h
      · rename_i el hu
        split at h
        · rename_i n hn
          replace h := bif_none h
          obtain ⟨hb, h⟩ := h
          cases h
          simp only [sop] at hs
          replace hs := bif_some hs
          obtain ⟨hc, hs⟩ := hs
          obtain ⟨h5, rfl⟩ := map_fst hs
          refine ok_sliceL h1 h2 h3 h4 hu hn hr he hc (fun hm => ?_) h5
          cases hi' with
          | some v => rfl
          | none => rw [hm] at hb; cases hb
        · cases h
      · rename_i hu
        split at h
        · rename_i hm
          cases h
          have : mx = none := by
            cases mx with
            | none => rfl
            | some v => simp [copdO] at h4
          subst this
          simp only [sop] at hs
          split at hs
          · rename_i b hb
            obtain ⟨h5, rfl⟩ := map_fst hs
            exact ok_sliceS h1 h2 h3 hu hr he hb h5
          · cases hs
        · cases h
      · cases h
    · cases h
  case h_18 t x f ho =>
    simp only [execOp, ho]
    split at h
    · rename_i x' f' h1 h2
      split at h
      · rename_i n h3
        cases h
        simp only [sop] at hs
        replace hs := bif_some hs
        obtain ⟨hc, hs⟩ := hs
        obtain ⟨h5, rfl⟩ := map_fst hs
        simp only [Option.bind_eq_some_iff] at h2
        obtain ⟨fs, h6, h7⟩ := h2
        exact ok_faddr h1 h6 h7 h3 hr he hc h5
      · cases h
    · cases h
  case h_19 t x f ho =>
    simp only [execOp, ho]
    split at h
    · rename_i x' f' h1 h2
      split at h
      · rename_i ag n h3 h4
        cases h
        simp only [sop] at hs
        split at hs
        · rename_i cs hc
          obtain ⟨h5, rfl⟩ := map_fst hs
          simp only [Option.bind_eq_some_iff] at h2
          obtain ⟨fs, h6, h7⟩ := h2
          exact ok_field h1 h6 h7 h3 h4 hr he hc h5
        · cases hs
      · cases h
    · cases h
  case h_20 t x ix ho =>
    simp only [execOp, ho]
    split at h
    · rename_i x' i' h1 h2
      split at h
      · rename_i el hu
        split at h
        · rename_i n hn
          cases h
          simp only [sop] at hs
          replace hs := bif_some hs
          obtain ⟨hc, hs⟩ := hs
          obtain ⟨h5, rfl⟩ := map_fst hs
          exact ok_iaddrS h1 h2 hu hn hr he hc h5
        · cases h
      · rename_i len el hu
        split at h
        · rename_i n hn
          cases h
          simp only [sop] at hs
          replace hs := bif_some hs
          obtain ⟨hc, hs⟩ := hs
          simp only [Option.bind_eq_some_iff] at hs
          obtain ⟨i, h3, hs⟩ := hs
          obtain ⟨h5, rfl⟩ := map_fst hs
          exact ok_iaddrA h1 h2 hu hn hr he hc h3 h5
        · cases h
      · cases h
    · cases h
  case h_21 t x ix ho =>
    simp only [execOp, ho]
    split at h
    · rename_i x' i' h1 h2
      split at h
      · rename_i len el hu
        split at h
        · rename_i ag n h3 h4
          cases h
          simp only [sop] at hs
          split at hs
          · rename_i cs hc
            simp only [Option.bind_eq_some_iff] at hs
            obtain ⟨i, h6, hs⟩ := hs
            obtain ⟨h5, rfl⟩ := map_fst hs
            exact ok_indexA h1 h2 hu h3 h4 hr he hc h6 h5
          · cases hs
        · cases h
      · rename_i hu
        cases h
        simp only [sop] at hs
        split at hs
        · rename_i b hc
          simp only [Option.bind_eq_some_iff, Option.map_eq_some_iff, Prod.mk.injEq] at hs
          obtain ⟨i, h6, y, h7, rfl, rfl⟩ := hs
          exact ok_indexS h1 h2 hu hr he hc h6 h7
        · cases hs
      · cases h
    · cases h
  case h_22 x i ho =>
    simp only [Option.map_eq_some_iff] at h
    obtain ⟨y, hy, rfl⟩ := h
    simp only [sop] at hs
    split at hs
    · rename_i vs hb
      obtain ⟨h4, rfl⟩ := map_fst hs
      simp only [execOp, ho]
      exact ok_extract hy hr he hb h4
    · cases hs
  case h_23 c ho =>
    unfold ccall at h
    split at h
    · split at h
      · cases h; cases hs
      · cases h
    · cases h
    · rename_i b hb
      have hx : ∃ cs, execOp a.eval o = builtin b c.argTypes o.type cs (c.args.map a.eval) := ⟨_, by simp only [execOp, ho, resolve, hb]; rfl⟩
      obtain ⟨cs, hx⟩ := hx
      rw [hx]
      split at h
      · cases h
      · rename_i xs hxs
        split at h
        · rename_i y
          obtain ⟨x, hx1, hy⟩ := copds_one hxs
          rw [hx1]
          simp only [List.map_toArray, List.map_cons, List.map_nil]
          split at h
          · rename_i hu
            cases h
            simp only [Option.bind_eq_some_iff] at hu
            obtain ⟨t0, h0, hu⟩ := hu
            simp only [sop] at hs
            split at hs
            · rename_i b hbb
              cases hs
              exact ok_lenS (ty := o.type) hy h0 hu hr he hbb
            · cases hs
          · rename_i el hu
            cases h
            simp only [Option.bind_eq_some_iff] at hu
            obtain ⟨t0, h0, hu⟩ := hu
            simp only [sop] at hs
            replace hs := bif_some hs
            obtain ⟨hc, hs⟩ := hs
            rw [Option.map_eq_some_iff] at hs
            obtain ⟨n, h1, hs⟩ := hs
            cases hs
            exact ok_lenL (ty := o.type) hy h0 hu hr he hc h1
          · rename_i n el hu
            cases h
            simp only [Option.bind_eq_some_iff] at hu
            obtain ⟨t0, h0, hu⟩ := hu
            simp only [sop, Option.some.injEq, Prod.mk.injEq] at hs
            obtain ⟨rfl, rfl⟩ := hs
            exact ok_lenA (ty := o.type) h0 hu hr
          · cases h
        · split at h
          · cases h
            obtain ⟨h1, rfl⟩ := map_fst hs
            exact ok_max hxs hr he h1
          · cases h
        · split at h
          · cases h
            obtain ⟨h1, rfl⟩ := map_fst hs
            exact ok_min hxs hr he h1
          · cases h
        · rename_i y z
          obtain ⟨x, x', hx1, hy, hy'⟩ := copds_two hxs
          rw [hx1]
          simp only [List.map_toArray, List.map_cons, List.map_nil]
          split at h
          · rename_i el el' h1 h2
            split at h
            · rename_i i hi
              replace h := bif_none h
              obtain ⟨hb, h⟩ := h
              simp only [Bool.or_eq_false_iff, beq_eq_false_iff_ne] at hb
              split at h
              · rename_i zl hzl
                replace h := bif_some h
                obtain ⟨hz, h⟩ := h
                cases h
                simp only [beq_iff_eq] at hz
                simp only [Option.bind_eq_some_iff] at h1 h2
                obtain ⟨t0, h0, h1⟩ := h1
                obtain ⟨t1, h3, h2⟩ := h2
                obtain ⟨i', v, hi', hv, k1, k2⟩ := czero_vr (w := w) (F := F) (ρ := ρ) hzl
                rw [hi] at hi'; cases hi'
                simp only [sop, Option.bind_eq_some_iff] at hs
                obtain ⟨X, hX, hs⟩ := hs
                have hT : ApT C.P c.argTypes el i.size i v := ⟨⟨t0, h0, celem_un h1⟩, ⟨t1, el', h3, h2⟩, hi, rfl, hv, by omega, by omega, by omega⟩
                obtain ⟨val, w', r1, r2⟩ := ok_append hT (ty := o.type) hr (copd_vr hy he) (copd_vr hy' he) hX hs
                exact OpOK.valD r1 r2
              · cases h
            · cases h
          · cases h
        · cases h
  case h_24 => cases h
end
end Go.Sh
