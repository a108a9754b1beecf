/-
  THE SHADOW MACHINE, PART W: loops; ranges over functions.
-/
import Derived.Test.YteohbocjhfcbdaaShV
import Derived.LoopNIn
import Derived.RangeFuncNested
namespace Go.Sh
set_option linter.unusedSectionVars false
set_option linter.unusedVariables false
set_option linter.unusedSimpArgs false
set_option linter.unnecessarySimpa false
section
variable {C : Ctx} {rec : Rec} {f : FuncId} {nt : Nat}
theorem loop1_spec {f : Env × Heap → Option Out} {s : Env × Heap} {o : Out} (h : loop1 f s = some o) : ∃ m, iter1 f m s = some o := by
  unfold loop1 at h
  split at h
  · exact ⟨_, h⟩
  · cases h
theorem virt_ok {B : Base} {a : Act} {w : World} : ∀ (vs : List (Nat × Nat)) {e e' : Env} {H H' : Heap}, virt1 vs e H = some (e', H') → Rel C nt B e H a w → Rel C nt B e' H' a w
  | [], e, e', H, H', h, hr => by cases h; exact hr
  | (t, z) :: vs, e, e', H, H', h, hr => by
    simp only [virt1] at h
    split at h
    · rename_i z' hbe
      refine virt_ok vs h ?_
      obtain ⟨ρ, F, h1, h2, h3, h4, h5⟩ := hr
      have hv := h2 t
      rw [hbe] at hv
      obtain ⟨p1, p2⟩ := h1.push (w' := w) (Nat.le_refl _) (fun _ _ => rfl) (.arr 0 z [] false) ⟨0, 0, 0, z, 0, true, true⟩ (fun h => by cases h) ⟨rfl, rfl, rfl, by simp, by simp, by simp, fun _ => rfl, fun h => by cases h⟩
      refine ⟨_, F, p1, ?_, h3.trans p2, h4, h5.ext p2.toExt0⟩
      intro i
      simp only [get]
      cases hi : (i == t) with
      | true =>
        have : i = t := by simpa using hi
        subst this
        simp only [cond_true]
        generalize a.tmps.getD i undef = val at hv
        cases hv with
        | lst V hcap hfull hz hat h1' hv' =>
          have hc := hfull rfl
          simp only [List.length_nil] at hc
          subst hc
          exact .slc (Map.put_same _ _ _) (Nat.le_refl _) rfl (fun _ => ⟨fun _ => ⟨_, rfl, rfl, rfl⟩, fun h => by cases h⟩)
      | false => exact p2.er h1 h2 i
    · cases h
theorem Ext.esc_in {ρ ρ' : Map} {F F' : Nat → Prop} {H H' : Heap} {w w' : World} (h : Ext C ρ F { H with esc := [] } w ρ' F' H' w') : Ext C ρ F H w ρ' F' { H' with esc := H.esc ++ H'.esc } w' :=
  ⟨⟨h.map, h.fro, h.new, h.frame, h.size, h.old, h.ro, fun p hp => List.mem_append_left _ hp, fun N hN hc h0 => h.inv N hN (fun p hp => hc p (List.mem_append_right _ hp)) h0, h.lp, h.ln, h.out⟩, h.nd⟩
theorem get_live (e : Env) (t : Nat) : ∀ l : List Nat, get (live1 l e) t = bif l.contains t then get e t else .undef
  | [] => rfl
  | i :: l => by
    have ih := get_live e t l
    unfold live1 at ih ⊢
    simp only [List.map_cons, get, List.contains_cons, ih]
    cases h : (t == i) with
    | true =>
      have : t = i := by simpa using h
      subst this; simp
    | false => simp
theorem refs_live (e : Env) (N : Nat) : ∀ l : List Nat, SV.refs.refsL ((live1 l e).map (·.2)) ≤ N → ∀ t ∈ l, (get e t).refs ≤ N
  | [], _, t, ht => by cases ht
  | i :: l, h, t, ht => by
    unfold live1 at h
    simp only [List.map_cons, SV.refs.refsL] at h
    rcases List.mem_cons.1 ht with rfl | ht
    · omega
    · exact refs_live e N l (by unfold live1; omega) t ht
theorem head_ok {B : Base} {N : Nat} {p : LoopPol} {e e' : Env} {H H' : Heap} {a : Act} {w : World} (hN : B.H.bl.length = N) (hr0 : HR C B.ρ B.F B.H B.w) (h : head1 p N B.H (e, H) = some (e', H')) (hr : Rel C nt B e H a w) :
    Rel C nt B e' H' a w := by
  unfold head1 at h
  replace h := bif_some h
  obtain ⟨hc, h⟩ := h
  simp only [Option.map_eq_some_iff, Prod.mk.injEq] at h
  obtain ⟨H1, ht, rfl, rfl⟩ := h
  obtain ⟨ρ, F, h1, h2, h3, h4, h5⟩ := hr
  have hts := trunc_spec ht
  obtain ⟨p1, p2⟩ := hr0.trunc hN h1 h3 hts
  refine ⟨_, F, p1, fun t => ?_, p2, h4, h5.less (own_cut hts.bl)⟩
  rw [get_live]
  cases hm : p.live.contains t with
  | false => exact .undef _
  | true =>
    simp only [cond_true]
    exact (h2 t).cut N (refs_live e N p.live (by simpa using hc) t (by simpa using hm))
theorem ok_loop {c : Code} {c1 : Code1} {p : LoopPol} (h : CodeOK C rec nt c c1) : CodeOK C rec nt (.loop c) (.loop p c1) := by
  intro ro n B Q R k r e H a w hro hrun hk hrel
  simp only [run] at hrun
  unfold onSome at hrun
  split at hrun
  rotate_left
  · cases hrun
  rename_i s hs
  dsimp only at hrun
  split at hrun
  rotate_left
  · cases hrun
  rename_i o ho
  obtain ⟨e1, H1⟩ := s
  obtain ⟨ρ1, F1, q1, q2, q3, q4, q5⟩ := virt_ok _ hs hrel
  obtain ⟨m, hm⟩ := loop1_spec ho
  let B1 : Base := ⟨ρ1, F1, { H1 with esc := [] }, w, B.lo⟩
  have hB1 : HR C B1.ρ B1.F B1.H B1.w := ⟨q1.dom, q1.live, q1.apart, q1.own, q1.fro⟩
  have hro1 : ∀ l, ro = some l → ∃ q, B1.w.heap[l]? = some (.loop q) := fun l hl => let ⟨q, hq⟩ := hro l hl; q3.lp l q hq
  have back : ∀ e' H' a' w', Rel C nt B1 e' H' a' w' → Rel C nt B e' { H' with esc := H1.esc ++ H'.esc } a' w' := by
    intro e' H' a' w' ⟨ρ', F', k1, k2, k3, k4, k5⟩
    exact ⟨ρ', F', ⟨k1.dom, k1.live, k1.apart, k1.own, k1.fro⟩, k2, q3.trans (Ext.esc_in k3), k4, k5⟩
  refine wpIn_loop_rounds m ?_
  have key : ∀ (m : Nat) (e : Env) (H : Heap) (a : Act) (w : World), iter1 (fun s' => (head1 p H1.bl.length { H1 with esc := [] } s').bind fun s' => run rec c1 s'.1 s'.2 (fun x e H => some (x, e, H)) ()) m (e, H) = some o →
      Rel C nt B1 e H a w → Code.roundsIn (WF ro) n C.P c Q m a w := by
    intro m
    induction m with
    | zero => intro e H a w hi; cases hi
    | succ m ih =>
      intro e H a w hi hr
      simp only [iter1] at hi
      cases hh : head1 p H1.bl.length { H1 with esc := [] } (e, H) with
      | none => rw [hh] at hi; simp at hi
      | some s2 =>
        rw [hh] at hi
        obtain ⟨e', H'⟩ := s2
        simp only [Option.bind_some] at hi
        cases hrn : run rec c1 e' H' (fun x e H => some (x, e, H)) () with
        | none => rw [hrn] at hi; simp at hi
        | some out =>
          rw [hrn] at hi
          have hr' : Rel C nt B1 e' H' a w := head_ok (B := B1) rfl hB1 hh hr
          refine h ro n B1 _ _ (fun x e H => some (x, e, H)) out e' H' a w hro1 hrn (fun x e2 H2 a2 w2 hx hr2 => ?_) hr'
          cases hx
          cases x with
          | normal => exact ih e2 H2 a2 w2 hi hr2
          | exit id =>
            simp only [Option.some.injEq] at hi
            subst hi
            exact hk (.exit id) _ _ _ _ hrun (back _ _ _ _ hr2)
          | ret =>
            simp only [Option.some.injEq] at hi
            subst hi
            exact hk .ret _ _ _ _ hrun (back _ _ _ _ hr2)
  exact key m e1 { H1 with esc := [] } a w hm ⟨ρ1, F1, hB1, q2, Ext.refl _ _ _ _, q4, q5⟩
/-! ### Ranges over functions -/
theorem enter_ok {P : Program} {w : World} {ro : Option Nat} (hro : ∀ l, ro = some l → ∃ q, w.heap[l]? = some (.loop q)) (fn : FuncId) (tmps : Array Value) (ps : Array Tmp) (x y : Code) :
    ∃ l mark w1 dn, (Instr.enterLoop fn tmps ps x y ro).run P w = .ok (l, mark) w1 ∧ w.heap.size ≤ l ∧ l < w1.heap.size ∧
      w1.heap[l]? = some (.loop { state := .ready, pending := none, fn, tmps, params := ps, assign := x, body := y, defers := dn }) ∧ (∀ B, B < w.heap.size → w1.heap[B]? = w.heap[B]?) ∧ w.heap.size ≤ w1.heap.size ∧ (w1.os = w.os ∧ w1.output = w.output) ∧
      (mark = [] ∨ ∃ D, mark = [{ target := .collected D, args := #[] }] ∧ w.heap.size ≤ D ∧ D ≠ l ∧ w1.heap[D]? = some (.deferred (some []))) := by
  have hal : ∀ (w : World) (o : Obj) (B : Nat), B < w.heap.size → (w.alloc o).heap[B]? = w.heap[B]? := by
    intro w o B hB
    show (w.heap.push o)[B]? = _
    rw [Array.getElem?_push]
    split
    · omega
    · rfl
  cases ro with
  | none =>
    refine ⟨_, _, _, w.heap.size, run_enterLoop_outer fn tmps ps x y, by omega, by simp, ?_, fun B hB => ?_, by simp; omega, ⟨rfl, rfl⟩, .inr ⟨w.heap.size, rfl, Nat.le_refl _, by omega, ?_⟩⟩
    · have := World.alloc_heap_new (w.alloc (.deferred (some []))) (.loop { state := .ready, pending := none, fn, tmps, params := ps, assign := x, body := y, defers := w.heap.size })
      simpa using this
    · rw [hal _ _ _ (by simp; omega), hal _ _ _ hB]
    · rw [hal _ _ _ (by simp)]
      exact World.alloc_heap_new _ _
  | some l0 =>
    obtain ⟨q, hq⟩ := hro l0 rfl
    exact ⟨_, _, _, q.defers, run_enterLoop_inner hq fn tmps ps x y, Nat.le_refl _, by simp, World.alloc_heap_new _ _, fun B hB => hal _ _ _ hB, by simp, ⟨rfl, rfl⟩, .inl rfl⟩
theorem pend_none {s : SEx} (h : pendCode s = none) : s = .normal := by cases s <;> first | rfl | cases h
theorem ok_rangeF {g : Operand} {g' : Opd} {ps : Array Tmp} {x y : Code} {x1 y1 : Code1} (hrec : RecOK C rec) (hg : copd g = some g') (hps : ∀ t ∈ ps.toList, t < nt) (hx : ccode C.P C.pol f nt x = some x1) (hy : ccode C.P C.pol f nt y = some y1) :
    CodeOK C rec nt (.rangeFunc g ps x y) (.rangeF g' ps.toList x1 y1) := by
  intro ro n B Q R k r e H a w hro hrun hk hrel
  simp only [run] at hrun
  unfold onSome at hrun
  split at hrun
  rotate_left
  · cases hrun
  rename_i p hp
  obtain ⟨s, H2⟩ := p
  dsimp only at hrun
  split at hrun
  rotate_left
  · cases hrun
  rename_i q0 st pend hb2
  obtain ⟨hst, H3, hH3, hrun⟩ : st ≠ .busy ∧ ∃ H3, hset H2 H.bl.length (.loop q0 .exhausted pend) 0 = some H3 ∧ k pend e H3 = some r := by
    split at hrun
    · cases hrun
    · rename_i hne
      split at hrun
      · rename_i H3 hH3
        exact ⟨hne, H3, hH3, hrun⟩
      · cases hrun
  obtain ⟨ρ, F, q1, q2, q3, q4, q5⟩ := hrel
  have hgv := copd_vr hg q2
  unfold fcall at hp
  split at hp
  rotate_left
  · cases hp
  rename_i f' cs hfn
  rw [hfn] at hgv
  generalize hgval : a.eval g = gv at *
  cases hgv with
  | fn hn2 hv2 =>
    rename_i vs
    refine wpIn_rangeFunc (fun fn _ => ?_)
    obtain ⟨l, mark, w1, dn, henter, hl0, hl1, hl2, hl3, hl4, hl5, hmark⟩ := enter_ok (P := C.P) (w := w) (ro := ro) (fun l hl => let ⟨q, hq⟩ := hro l hl; q3.lp l q hq) fn a.tmps ps x y
    have hkp : Keeps F w w1 := fun B hB => hl3 B (q1.fro B hB)
    have hle : ρ.le (ρ.put H.bl.length ⟨l, 0, 0, 0, 0, false, false⟩) := fun b l' h => ⟨l', by rw [Map.put_other _ _ (Nat.ne_of_lt (q1.dom b l' h))]; exact h, .inl rfl⟩
    obtain ⟨p1, p2⟩ := q1.push hl4 hl3 (.loop ⟨e, ps.toList, x1, y1⟩ .ready .normal) ⟨l, 0, 0, 0, 0, false, false⟩ (fun _ => ⟨hl0, hl1⟩)
      ⟨rfl, rfl, _, hl2, rfl, rfl, rfl, ⟨f, nt, q4, hps, hx, hy⟩, fun t => (q2 t).mono hkp (fun _ h => h) hle⟩ hl5
    have hargs : ArgsR w1 F (ρ.put H.bl.length ⟨l, 0, 0, 0, 0, false, false⟩) ([.yld H.bl.length] ++ cs) (#[.func (.yield l) #[] #[]] ++ vs) := by
      refine args_append ⟨rfl, fun j c v hc hv => ?_⟩ ⟨hn2, fun j c v hc hv => (hv2 j c v hc hv).mono hkp (fun _ h => h) hle⟩
      cases j with
      | zero =>
        simp at hc hv
        subst hc; subst hv
        exact .yld (l := ⟨l, 0, 0, 0, 0, false, false⟩) (Map.put_same _ _ _) rfl
      | succ j => simp at hc
    obtain ⟨c1, c2⟩ := hrec.call _ _ _ _ _ hp _ F w1 _ p1 hargs
    refine ⟨l, mark, w1, { target := .fn (.func f') vs, args := #[] ++ #[.func (.yield l) #[] #[]] }, w1, f', #[.func (.yield l) #[] #[]] ++ vs, w1, henter, ?_, fun _ _ => trivial, ?_, fun h => by simp at h, ?_⟩
    · have hc : a.eval (.const (.func (.yield l) #[] #[])) = .func (.yield l) #[] #[] := rfl
      unfold resolve
      simp only [rangeCall, hgval, Deferred.ofValue, List.map_toArray, List.map_cons, List.map_nil, hc]
      rfl
    · simpa [invoke] using c1
    · refine CallsIn.mono (c2 _) (fun e' w3 he' => ?_)
      obtain ⟨val, rfl, ρ3, F3, _, d2, d3⟩ := he'
      obtain ⟨l3, m1, m2⟩ := d3.map H.bl.length _ (Map.put_same _ _ _)
      have m3 : l3 = ⟨l, 0, 0, 0, 0, false, false⟩ := by
        rcases m2 with h | ⟨_, h, _⟩
        · exact h
        · cases h
      subst m3
      obtain ⟨l4, m4, m5⟩ := d2.live _ _ hb2 rfl
      rw [m1] at m4; cases m4
      obtain ⟨_, _, q, g1, g2, g3, g4, g5, g6⟩ := id m5
      have hlt : l < w3.heap.size := (Array.getElem?_eq_some_iff.1 g1).1
      have hown : Own ρ3 H2 H.bl.length ⟨l, 0, 0, 0, 0, false, false⟩ := ⟨⟨_, hb2, rfl⟩, m1, rfl⟩
      have hkeep : ∀ Bk, Bk ≠ l → (w3.putObj l (.loop { q with state := .exhausted })).heap[Bk]? = w3.heap[Bk]? := fun Bk hne => World.putObj_heap_other hne
      have hkk : Keeps F3 w3 (w3.putObj l (.loop { q with state := .exhausted })) := fun Bk hB => hkeep Bk (fun e => (d2.own _ _ hown).1 (e ▸ hB))
      obtain ⟨z1, z2⟩ := d2.set (w' := w3.putObj l (.loop { q with state := .exhausted })) (l' := ⟨l, 0, 0, 0, 0, false, false⟩) hH3 hb2 rfl m1 (by simp) (fun Bk _ h => hkeep Bk (h rfl)) (fun h => .inl ⟨h, rfl⟩) (.inl rfl)
        (fun _ => by
          rw [put_self m1]
          exact ⟨rfl, rfl, { q with state := .exhausted }, World.putObj_heap_same hlt, rfl, g3, g4, g5, fun t => (g6 t).mono hkk (fun _ h => h) (Map.le_refl _)⟩)
        (fun _ N _ _ hbr => by
          rw [put_self m1]
          obtain ⟨_, _, q', b1, b2, b3, b4, b5, b6⟩ := hbr
          rw [g1] at b1; cases b1
          exact ⟨rfl, rfl, { q with state := .exhausted }, World.putObj_heap_same hlt, rfl, b3, b4, b5, fun t => (b6 t).mono hkk (fun _ h => h) (Map.le_refl _)⟩)
        (fun _ => ⟨_, _, _, rfl⟩)
      rw [put_self m1] at z1 z2
      have hxt := p2.trans (d3.trans z2)
      have hm1 : Marks (ρ.put H.bl.length ⟨l, 0, 0, 0, 0, false, false⟩) F (hnew H (.loop ⟨e, ps.toList, x1, y1⟩ .ready .normal)) w1 B.lo (mark ++ a.defers) := by
        have hm0 := q5.ext p2.toExt0
        rcases hmark with rfl | ⟨D, rfl, h1, h2, h3⟩
        · exact hm0
        · obtain ⟨k0, Ds', k1', k2', k3'⟩ := q5
          refine ⟨Nat.le_trans k0 hl4, D :: Ds', by simp [k1'], List.nodup_cons.2 ⟨fun hD => ?_, k2'⟩, fun D' hD' => ?_⟩
          · have := (Array.getElem?_eq_some_iff.1 (k3' D hD).2.1).1
            omega
          · rcases List.mem_cons.1 hD' with rfl | hD'
            · refine ⟨by omega, h3, fun hF => ?_, fun b l' ho => ?_⟩
              · have := q1.fro _ hF; omega
              · rcases p2.old b l' ho with h4 | ⟨l0, h4, h5⟩
                · obtain ⟨⟨xx, hxx, hxl⟩, hm, hv⟩ := ho
                  by_cases hbl : b = H.bl.length
                  · subst hbl
                    rw [Map.put_same] at hm; cases hm
                    exact fun e => h2 e.symm
                  · rw [Map.put_other _ _ hbl] at hm
                    have hlt := q1.dom b l' hm
                    have ho' : Own ρ H b l' := ⟨⟨xx, by simpa [hnew, List.getElem?_append_left hlt] using hxx, hxl⟩, hm, hv⟩
                    have := (q1.own b l' ho').2
                    omega
                · have := (q1.own b l0 h4).2
                  omega
            · exact (k3' D' hD').ext p2.toExt0
      have hrel' : Rel C nt B e H3 { a with defers := mark ++ a.defers } (w3.putObj l (.loop { q with state := .exhausted })) :=
        ⟨ρ3, F3, z1, hxt.er q1 q2, q3.trans hxt, q4, (hm1.ext (d3.trans z2).toExt0)⟩
      have hend := run_endLoop (P := C.P) g1 (by rw [g2]; exact hst)
      refine ⟨_, _, hend, ?_⟩
      rw [g3] at hrel' ⊢
      cases pend with
      | normal => exact hk .normal _ _ _ _ hrun hrel'
      | exit id => exact wpIn_exit (hk (.exit id) _ _ _ _ hrun hrel')
      | ret => exact wpIn_ret (hk .ret _ _ _ _ hrun hrel')
end
end Go.Sh
