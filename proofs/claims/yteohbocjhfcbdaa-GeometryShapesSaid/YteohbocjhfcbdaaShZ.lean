/-
  THE SHADOW MACHINE, PART Z: calls, rounds: what the shadow machine says of a call, the model's call does.
-/
import Derived.Test.YteohbocjhfcbdaaShY
namespace Go.Sh
set_option linter.unusedSectionVars false
set_option linter.unusedVariables false
set_option linter.unusedSimpArgs false
set_option linter.unnecessarySimpa false
section
variable {C : Ctx} {ρ ρ0 ρ' : Map} {F F0 F' : Nat → Prop} {H H0 H' H1 : Heap} {w w0 w' : World}
/-! ### Entering, leaving -/
theorem get_env0 (xs : List SV) : ∀ (k t : Nat), get (env0.go k xs) t = if k ≤ t then (xs[t - k]?).getD .undef else .undef := by
  induction xs with
  | nil => intro k t; simp [env0.go, get]
  | cons x r ih =>
    intro k t
    simp only [env0.go, get, ih]
    cases h : (t == k) with
    | true =>
      have : t = k := by simpa using h
      subst this; simp
    | false =>
      have : t ≠ k := by simpa using h
      simp only [cond_false]
      by_cases hk : k ≤ t
      · rw [if_pos hk, if_pos (by omega), show t - k = (t - (k + 1)) + 1 by omega]; rfl
      · rw [if_neg hk, if_neg (by omega)]
theorem env0_er {xs : List SV} {args : Array Value} {n : Nat} (h : ArgsR w F ρ xs args) : ER w F ρ (env0 xs) (args ++ Array.replicate n undef) := by
  intro t
  unfold env0
  rw [get_env0]
  simp only [Nat.zero_le, if_true, Nat.sub_zero]
  cases hx : xs[t]? with
  | none => exact .undef _
  | some c =>
    have hlt := (List.getElem?_eq_some_iff.1 hx).1
    have hn := h.1
    have hv : args[t]? = some args[t] := Array.getElem?_eq_getElem (by omega)
    have := h.2 t c _ hx hv
    rw [Array.getD_eq_getD_getElem?, Array.getElem?_append_left (by omega), hv]
    exact this
def resF (tmps : Array Value) : ResultVar → Sem Value
  | .tmp t => pure (tmps.getD t undef)
  | .cell a t => do loadVar t (← asAddr (tmps.getD a undef))
theorem results_eq (fn : Func) (tmps : Array Value) : results fn tmps = (do let vs ← fn.results.mapM (resF tmps); pure (if h : vs.size = 1 then vs[0] else .tuple vs)) := by
  unfold results
  congr 1
theorem resOf_ok {e : Env} {tmps : Array Value} {rv : ResultVar} {r1 : Res1} {s : SV} (hr : HR C ρ F H w) (he : ER w F ρ e tmps) (h1 : cres C.P rv = some r1) (h2 : resOf e H r1 = some s) :
    ∃ val, (resF tmps rv).run C.P w = .ok val w ∧ VR w F ρ s val := by
  unfold cres at h1
  split at h1
  · cases h1
    cases h2
    exact ⟨_, rfl, he _⟩
  · split at h1
    · rename_i ag n hag hsz
      cases h1
      obtain ⟨q, val, hu, k1, k2⟩ := load_vr hag hsz hr (he _) h2
      refine ⟨val, ?_, k2⟩
      simp only [resF, hu, asAddr, Sem.run_bind, Sem.run_pure, Result.andThen]
      exact k1
    · cases h1
theorem ress_ok {e : Env} {tmps : Array Value} (hr : HR C ρ F H w) (he : ER w F ρ e tmps) : ∀ (rvs : List ResultVar) (r1s : List Res1) (ss : List SV), allS (rvs.map (cres C.P)) = some r1s → allS (r1s.map (resOf e H)) = some ss →
    ∃ vals : List Value, (rvs.mapM (resF tmps)).run C.P w = .ok vals w ∧ ss.length = vals.length ∧
      ∀ (j : Nat) c v, ss[j]? = some c → vals[j]? = some v → VR w F ρ c v
  | [], r1s, ss, h1, h2 => by
    simp [allS] at h1; subst h1
    simp [allS] at h2; subst h2
    exact ⟨[], rfl, rfl, by simp⟩
  | rv :: rvs, r1s, ss, h1, h2 => by
    simp only [List.map_cons] at h1
    cases hc : cres C.P rv with
    | none => rw [hc] at h1; simp [allS] at h1
    | some r1 =>
      rw [hc] at h1
      simp only [allS, Option.map_eq_some_iff] at h1
      obtain ⟨r1s', h1', rfl⟩ := h1
      simp only [List.map_cons] at h2
      cases hs : resOf e H r1 with
      | none => rw [hs] at h2; simp [allS] at h2
      | some s =>
        rw [hs] at h2
        simp only [allS, Option.map_eq_some_iff] at h2
        obtain ⟨ss', h2', rfl⟩ := h2
        obtain ⟨val, k1, k2⟩ := resOf_ok hr he hc hs
        obtain ⟨vals, q1, q2, q3⟩ := ress_ok hr he rvs r1s' ss' h1' h2'
        refine ⟨val :: vals, ?_, by simp [q2], fun j c v hj hv => ?_⟩
        · simp only [List.mapM_cons, Sem.run_bind, k1, q1, Result.andThen, Sem.run_pure]
        · cases j with
          | zero => simp at hj hv; subst hj; subst hv; exact k2
          | succ j => simp at hj hv; exact q3 j c v hj hv
theorem results_ok {e : Env} {tmps : Array Value} {fn : Func} {r1s : List Res1} {s : SV} (hr : HR C ρ F H w) (he : ER w F ρ e tmps) (h1 : allS (fn.results.toList.map (cres C.P)) = some r1s) (h2 : results1 e H r1s = some s) :
    ∃ val, (results fn tmps).run C.P w = .ok val w ∧ VR w F ρ s val := by
  unfold results1 at h2
  simp only [Option.map_eq_some_iff] at h2
  obtain ⟨ss, h2, h3⟩ := h2
  obtain ⟨vals, k1, k2, k3⟩ := ress_ok hr he _ _ _ h1 h2
  refine ⟨if h : vals.toArray.size = 1 then vals.toArray[0] else .tuple vals.toArray, ?_, ?_⟩
  · rw [results_eq]
    simp only [Sem.run_bind, Array.mapM_eq_mapM_toList, Sem.run_map]
    rw [k1]
    rfl
  · split at h3
    · rename_i v
      subst h3
      have hl : vals.length = 1 := by simpa using k2.symm
      match vals, hl with
      | [x], _ => exact k3 0 v x rfl rfl
    · rename_i hne
      subst h3
      have : ¬ vals.toArray.size = 1 := by
        intro h
        simp only [List.size_toArray] at h
        match ss, k2 with
        | [v], _ => exact hne v rfl
        | [], k2 => simp at k2; omega
        | _ :: _ :: _, k2 => simp at k2; omega
      rw [dif_neg this]
      exact .tup (by simpa using k2) (fun j c v hj hv => k3 j c v hj (by simpa using hv))
theorem leaves_ok {P : Program} {fn : Func} {tmps : Array Value} {R : Ending → World → Prop} {n : Nat} : ∀ (Ds : List Nat) (ds : List Deferred) (w : World), ds.map (·.target) = Ds.map Target.collected → Ds.Nodup →
    (∀ D ∈ Ds, w.heap[D]? = some (.deferred (some []))) →
    (∀ w' : World, w'.heap.size = w.heap.size → (w'.os = w.os ∧ w'.output = w.output) → (∀ B, B ∉ Ds → w'.heap[B]? = w.heap[B]?) → LeavesIn Fence.wide n P fn tmps R [] .returning w') → LeavesInM Fence.wide n P fn tmps R ds .returning w
  | [], ds, w, h1, _, _, hf => by
    have : ds = [] := by simpa using h1
    subst this
    exact hf w rfl ⟨rfl, rfl⟩ (fun _ _ => rfl)
  | D :: Ds, ds, w, h1, h2, h3, hf => by
    cases ds with
    | nil => simp at h1
    | cons d ds =>
      simp only [List.map_cons, List.cons.injEq] at h1
      have hnd := List.nodup_cons.1 h2
      refine ⟨by simp, .inl ⟨D, _, h1.1, run_takeDeferred (h3 D (List.mem_cons_self ..)), leaves_ok Ds ds _ h1.2 hnd.2 (fun D' hD' => ?_) (fun w' hs ho hh => hf w' (by rw [hs]; simp) ho (fun B hB => ?_))⟩⟩
      · rw [World.putObj_heap_other (by intro e; subst e; exact hnd.1 hD')]
        exact h3 D' (List.mem_cons_of_mem _ hD')
      · rw [hh B (fun h => hB (List.mem_cons_of_mem _ h)), World.putObj_heap_other (by intro e; subst e; exact hB (List.mem_cons_self ..))]
variable {T : FuncId → Option Fun1} {m : Nat}
theorem call_ok (hmix : C.P.follows .mixedOrders = true) (hT : ∀ f F1, T f = some F1 → cfun C.P C.pol f = some F1) (hrec : RecOK C (call1 T m)) : CallOK C (call1 T (m + 1)) := by
  intro f xs H v H' h ρ F w args hr ha
  simp only [call1] at h
  split at h
  · cases h
  rename_i F1 hF1
  have hc := hT f F1 hF1
  unfold cfun at hc
  split at hc
  · cases hc
  rename_i fn hfn
  split at hc
  · cases hc
  rename_i body hbody
  replace hc := bif_none hc
  obtain ⟨hname, hc⟩ := hc
  split at hc
  rotate_left
  · cases hc
  rename_i b1 rs hb1 hrs
  cases hc
  refine ⟨?_, fun n => ?_⟩
  · unfold callFunc
    have hname' : ¬ fn.name = "runtime.NumGoroutine" := by simpa using hname
    simp [Sem.run_bind, Sem.run, hfn, hname', hbody]
  · have go : ∀ (R : Type) (fin : SV → Heap → Option R) (r : R) (Q : Value → World → Prop) (ρ : Map) (H : Heap), HR C ρ F H w → ArgsR w F ρ xs args →
          run (call1 T m) b1 (env0 xs) { bl := H.bl, esc := [], ro := min H.ro H.bl.length } (fun x e H' => match x with
            | .exit _ => none
            | _ => (results1 e H' rs).bind fun v => fin v H') () = some r →
          (∀ v0 ρ2 F2 H2 w2 val, HR C ρ2 F2 H2 w2 → Ext C ρ F { bl := H.bl, esc := [], ro := min H.ro H.bl.length } w ρ2 F2 H2 w2 → VR w2 F2 ρ2 v0 val → fin v0 H2 = some r → Q val w2) →
          CallsIn Fence.wide n C.P f args w (fun e w' => ∃ val, e = .returned val ∧ Q val w') := by
      intro R fin r Q ρ H hr ha h hfin
      refine callsIn_of_wp_marks hfn hbody trivial ?_
      let B : Base := ⟨ρ, F, { bl := H.bl, esc := [], ro := min H.ro H.bl.length }, w, w.heap.size⟩
      refine code_ok hmix hrec body b1 hb1 none n B _ _ _ r (env0 xs) B.H _ w (fun l hl => by cases hl) h (fun x e' H2 a' w' hk hrel => ?_)
        ⟨ρ, F, hr.bl rfl, env0_er ha, Ext.refl _ _ _ _, by simp; omega, Nat.le_refl _, [], rfl, List.nodup_nil, by simp⟩
      have hgo : ((results1 e' H2 rs).bind fun v => fin v H2) = some r →
          LeavesInM Fence.wide n C.P fn a'.tmps (fun e w' => ∃ val, e = .returned val ∧ Q val w') a'.defers .returning w' := by
        intro hk
        simp only [Option.bind_eq_some_iff] at hk
        obtain ⟨v0, h1, h2⟩ := hk
        obtain ⟨ρ2, F2, q1, q2, q3, q4, q5, Ds, q6, q7, q8⟩ := hrel
        refine leaves_ok Ds _ _ q6 q7 (fun D hD => (q8 D hD).2.1) (fun w2 hs ho hh => ?_)
        obtain ⟨z1, z2⟩ := q1.other q3 hs ho (fun Bk hB => hh Bk (fun hD => by
          obtain ⟨g1, g2, g3, g4⟩ := q8 Bk hD
          rcases hB with hB | ⟨b, l, ho, e⟩ | hB
          · exact g3 hB
          · exact g4 b l ho e
          · have : Bk < w.heap.size := hB
            have : w.heap.size ≤ Bk := g1
            omega))
        have he2 : ER w2 F2 ρ2 e' a'.tmps := fun t => (q2 t).mono (fun Bk hB => hh Bk (fun hD => (q8 Bk hD).2.2.1 hB)) (fun _ h => h) (Map.le_refl _)
        obtain ⟨val, r1, r2⟩ := results_ok z1 he2 hrs h1
        exact ⟨val, r1, val, rfl, hfin v0 ρ2 F2 H2 w2 val z1 z2 r2 h2⟩
      cases x with
      | normal => exact hgo hk
      | ret => exact hgo hk
      | exit id => cases hk
    cases hp : pure0 ⟨rs, b1, (C.pol.keep f).isSome⟩ xs with
    | false =>
      rw [hp] at h
      exact go _ (fun v H2 => leave1 (C.pol.keep f).isSome H v H2) (v, H') _ ρ H hr ha h (fun v0 ρ2 F2 H2 w2 val k1 k2 k3 k4 => leave_ok hr k1 k2 k3 k4)
    | true =>
      rw [hp] at h
      simp only [cond_true, Option.map_eq_some_iff, Prod.mk.injEq] at h
      obtain ⟨v', h, rfl, rfl⟩ := h
      unfold pure0 at hp
      simp only [Bool.and_eq_true, beq_iff_eq, Bool.not_eq_true'] at hp
      obtain ⟨h0, hkeep⟩ := hp
      have hcut : ρ.cut 0 = noMap := by funext b; simp [Map.cut]
      have hr0 : HR C noMap F heap0 w := ⟨(fun b l h => by cases h), (fun b x h => by simp [heap0] at h), (fun b b' l l' h => by cases h.2.1), (fun b l h => by cases h.2.1), hr.fro⟩
      have ha0 : ArgsR w F noMap xs args := ⟨ha.1, fun j c v hc hv => by
        have := (ha.2 j c v hc hv).cut 0 (refsL_le (Nat.le_of_eq h0) j c hc)
        rwa [hcut] at this⟩
      refine (go _ (fun v H2 => frz 0 H2 depth1 v) v' (fun val w2 => Done C noMap F heap0 w v' heap0 val w2) noMap heap0 hr0 ha0 h (fun v0 ρ2 F2 H2 w2 val k1 k2 k3 k4 => leave_ok (keep := false) (v := v0) hr0 k1 k2 k3 ?_)).mono (fun e w' he => ?_)
      · have hall : H2.esc.all (fun p => !(decide (p.1 < 0) && decide (0 < p.2))) = true := List.all_eq_true.2 (fun p _ => by simp)
        have hfil : H2.esc.filter (fun p => decide (p.1 < 0)) = [] := List.filter_eq_nil_iff.2 (fun p _ => by simp)
        have htr : trunc 0 heap0 H2 = some heap0 := by
          unfold trunc
          rw [hall, hfil]
          simp [heap0]
        show ((frz 0 H2 depth1 v0).bind fun v => (trunc 0 heap0 H2).map fun H => (v, H)) = _
        rw [k4, htr]
        rfl
      · obtain ⟨val, rfl, ρ1, F1, d1, d2, d3⟩ := he
        have hnone : ∀ b, ρ1 b = none := by
          intro b
          cases hb : ρ1 b with
          | none => rfl
          | some l => have := d2.dom b l hb; simp [heap0] at this
        have hno : ∀ b l, ¬ Own noMap heap0 b l := fun b l h => by cases h.2.1
        obtain ⟨p1, p2⟩ := hr.same d3.size (fun B hB => d3.frame B hB (fun b l ho => absurd ho (hno b l))) d3.out
        have hnew : ∀ B, F1 B → F B ∨ w.heap.size ≤ B := fun B hB => by
          rcases d3.new B hB with h | h | ⟨b, l, ho, _⟩
          · exact .inl h
          · exact .inr h
          · exact absurd ho (hno b l)
        refine ⟨val, rfl, ρ, F1, d1.mono (fun _ _ => rfl) (fun _ h => h) (fun b l h => by rw [hnone b] at h; cases h), p1.more d3.fro (fun B hB => ?_), p2.more d3.fro hnew⟩
        rcases hnew B hB with h | h
        · exact .inl h
        · exact .inr ⟨d2.fro B hB, fun b l ho e => by have := (hr.own b l ho).2; omega⟩
theorem set_loop {b : Nat} {l : Loc} {q : LoopRec} {st st' : LoopState} {pend pend' : SEx} {Q : Loop} {p' : Option Code} (hr : HR C ρ F H w) (hl : ρ b = some l) (hg : hget H b = some (.loop q st pend)) (hH : hset H b (.loop q st' pend') 0 = some H')
    (hQ : w.heap[l.blk]? = some (.loop Q)) (hp : p' = pendCode pend') :
    HR C ρ F H' (w.putObj l.blk (.loop { Q with state := st', pending := p' })) ∧ Ext C ρ F H w ρ F H' (w.putObj l.blk (.loop { Q with state := st', pending := p' })) := by
  obtain ⟨l4, m4, m5⟩ := hr.live _ _ hg rfl
  rw [hl] at m4; cases m4
  obtain ⟨hv, harr, Q2, g1, g2, g3, g4, g5, g6⟩ := id m5
  rw [hQ] at g1; cases g1
  have hlt : l.blk < w.heap.size := (Array.getElem?_eq_some_iff.1 hQ).1
  have hown : Own ρ H b l := ⟨⟨_, hg, rfl⟩, hl, hv⟩
  have hkeep : ∀ Bk, Bk ≠ l.blk → (w.putObj l.blk (.loop { Q with state := st', pending := p' })).heap[Bk]? = w.heap[Bk]? := fun Bk hne => World.putObj_heap_other hne
  have hkk : Keeps F w (w.putObj l.blk (.loop { Q with state := st', pending := p' })) := fun Bk hB => hkeep Bk (fun e => (hr.own _ _ hown).1 (e ▸ hB))
  obtain ⟨z1, z2⟩ := hr.set (w' := w.putObj l.blk (.loop { Q with state := st', pending := p' })) (l' := l) hH hg rfl hl (by simp) (fun Bk _ h => hkeep Bk (h hv)) (fun h => .inl ⟨h, rfl⟩) (.inl rfl)
    (fun _ => by
      rw [put_self hl]
      exact ⟨hv, harr, _, World.putObj_heap_same hlt, rfl, hp, g4, g5, fun t => (g6 t).mono hkk (fun _ h => h) (Map.le_refl _)⟩)
    (fun _ N _ _ hbr => by
      rw [put_self hl]
      obtain ⟨_, _, q', b1, b2, b3, b4, b5, b6⟩ := hbr
      rw [hQ] at b1; cases b1
      exact ⟨hv, harr, _, World.putObj_heap_same hlt, rfl, hp, b4, b5, fun t => (b6 t).mono hkk (fun _ h => h) (Map.le_refl _)⟩)
    (fun _ => ⟨_, _, _, rfl⟩)
  rw [put_self hl] at z1 z2
  exact ⟨z1, z2⟩
theorem zip_er : ∀ (ps : List Nat) (xs : List SV) (args : List Value) (e : Env) (tmps : Array Value), ER w F ρ e tmps → xs.length = args.length → (∀ t ∈ ps, t < tmps.size) →
    (∀ (j : Nat) c v, xs[j]? = some c → args[j]? = some v → VR w F ρ c v) → ER w F ρ ((ps.zip xs).reverse ++ e) ((ps.zip args).foldl (fun tmps (p : Nat × Value) => tmps.setIfInBounds p.1 p.2) tmps) ∧ ((ps.zip args).foldl (fun tmps (p : Nat × Value) => tmps.setIfInBounds p.1 p.2) tmps).size = tmps.size
  | [], xs, args, e, tmps, he, _, _, _ => by simpa using he
  | p :: ps, [], [], e, tmps, he, _, _, _ => by simpa using he
  | p :: ps, x :: xs, a :: args, e, tmps, he, hl, hp, hv => by
    have he' : ER w F ρ ((p, x) :: e) (tmps.setIfInBounds p a) := er_put (a := { tmps := tmps, defers := [] }) he (hp p (by simp)) (hv 0 x a rfl rfl)
    obtain ⟨h1, h2⟩ := zip_er ps xs args ((p, x) :: e) (tmps.setIfInBounds p a) he' (by simpa using hl) (fun t ht => by simpa using hp t (by simp [ht])) (fun j c v hc hv' => hv (j + 1) c v (by simpa using hc) (by simpa using hv'))
    refine ⟨?_, by simpa using h2⟩
    simp only [List.zip_cons_cons, List.reverse_cons, List.append_assoc, List.singleton_append, List.foldl_cons]
    exact h1
  | p :: ps, [], a :: args, e, tmps, he, hl, _, _ => by simp at hl
  | p :: ps, x :: xs, [], e, tmps, he, hl, _, _ => by simp at hl
theorem loop_at {b : Nat} {l : Loc} {q : LoopRec} {st : LoopState} {pend : SEx} (hr : HR C ρ F H w) (hx : Ext C ρ0 F0 H0 w0 ρ F H w) (hl : ρ0 b = some l) (hla : l.arr = false) (hg : hget H b = some (.loop q st pend)) :
    ρ b = some l ∧ ∃ Q : Loop, w.heap[l.blk]? = some (.loop Q) ∧ Q.state = st ∧ Q.pending = pendCode pend := by
  obtain ⟨l3, m1, m2⟩ := hx.map b l hl
  have m3 : l3 = l := by
    rcases m2 with h | ⟨_, h, _⟩
    · exact h
    · rw [hla] at h; cases h
  subst m3
  obtain ⟨l4, m4, m5⟩ := hr.live _ _ hg rfl
  rw [m1] at m4; cases m4
  obtain ⟨hv, harr, Q2, g1, g2, g3, g4, g5, g6⟩ := m5
  exact ⟨m1, Q2, g1, g2, g3⟩
theorem setLoop_at {b : Nat} {st' : LoopState} {pend' : SEx} (h : setLoop b st' pend' H = some H') : ∃ q st pend, hget H b = some (.loop q st pend) ∧ hset H b (.loop q st' pend') 0 = some H' := by
  unfold setLoop at h
  split at h
  · rename_i q st pend hg; exact ⟨q, st, pend, hg, h⟩
  · cases h
theorem yld_ok (hmix : C.P.follows .mixedOrders = true) (hrec : RecOK C (call1 T m)) : YldOK C (call1 T (m + 1)) := by
  intro b xs H v H' h ρ F w args l hr ha hl
  simp only [call1] at h
  split at h
  rotate_left
  · cases h
  rename_i q pend hb
  replace h := bif_some h
  obtain ⟨hlen, h⟩ := h
  have hlen : q.ps.length = xs.length := by simpa using hlen
  obtain ⟨l', hl', hbr⟩ := hr.live b _ hb rfl
  rw [hl] at hl'; cases hl'
  obtain ⟨hv, harr, Q, g1, g2, g3, g4, ⟨g, nt, g5, g6, g7, g8⟩, g9⟩ := hbr
  have hsz : args.size = Q.params.size := by
    rw [← ha.1, ← hlen, ← g4, Array.length_toList]
  refine ⟨_, _, _, _, run_yield g1 hsz, fun n => ?_⟩
  refine roundIn_of_wpIn trivial ?_
  let B : Base := ⟨ρ, F, { bl := H.bl, esc := [], ro := min H.ro H.bl.length }, w, w.heap.size⟩
  have hroB : ∀ l', some l.blk = some l' → ∃ q, B.w.heap[l']? = some (.loop q) := fun l' hl' => by cases hl'; exact ⟨Q, g1⟩
  have hz := zip_er q.ps xs args.toList q.env Q.tmps g9 (by simp [ha.1]) (fun t ht => Nat.lt_of_lt_of_le (g6 t ht) g5) (fun j c v hc hv => ha.2 j c v hc (by simpa using hv))
  have hfold : (Q.params.zip args).foldl (fun tmps (t, a) => tmps.setIfInBounds t a) Q.tmps = (q.ps.zip args.toList).foldl (fun tmps (p : Nat × Value) => tmps.setIfInBounds p.1 p.2) Q.tmps := by
    rw [← Array.foldl_toList, Array.toList_zip, g4]
  rw [hfold]
  refine code_ok hmix hrec Q.assign q.assign g7 (some l.blk) n B _ _ _ (v, H') _ B.H _ w hroB h (fun x e' H2 a' w' hk hrel => ?_)
    ⟨ρ, F, hr.bl rfl, hz.1, Ext.refl _ _ _ _, by simpa [hz.2] using g5, Nat.le_refl _, [], rfl, List.nodup_nil, by simp⟩
  cases x with
  | exit id => cases hk
  | ret => cases hk
  | normal =>
    simp only [Option.bind_eq_some_iff] at hk
    obtain ⟨H3, hH3, hk⟩ := hk
    obtain ⟨ρ2, F2, q1, q2, q3, q4, q5⟩ := hrel
    unfold beginLoop at hH3
    split at hH3
    rotate_left
    · cases hH3
    rename_i qq pp hg3
    obtain ⟨k1, Q3, k2, k3, k4⟩ := loop_at q1 q3 hl harr hg3
    obtain ⟨z1, z2⟩ := set_loop (p' := Q3.pending) q1 k1 hg3 hH3 k2 k4
    refine ⟨_, run_beginRound k2 k3, ?_⟩
    refine code_ok hmix hrec Q.body q.body g8 (some l.blk) n B _ _ _ (v, H') e' H3 a' _ hroB hk (fun x e4 H4 a4 w4 hk4 hrel4 => ?_) ⟨ρ2, F2, z1, z2.er q1 q2, q3.trans z2, q4, q5.ext z2.toExt0⟩
    simp only [Option.bind_eq_some_iff, Option.map_eq_some_iff, Prod.mk.injEq] at hk4
    obtain ⟨H5, hH5, H6, ht, hvv, rfl⟩ := hk4
    obtain ⟨ρ4, F4, p1, p2, p3, p4, p5⟩ := hrel4
    obtain ⟨qq4, st4, pp4, hg4, hset4⟩ := setLoop_at hH5
    obtain ⟨y1, Q4, y2, y3, y4⟩ := loop_at p1 p3 hl harr hg4
    have fin : ∀ jump : Option Code, jump = pendCode x → hset H4 b (.loop qq4 (if jump.isNone then .ready else .done) x) 0 = some H5 →
        ∃ v w', (Instr.endRound l.blk jump).run C.P w4 = .ok v w' ∧ ∃ val, Ending.returned v = .returned val ∧ Done C ρ F H w (.bool jump.isNone) H6 val w' := by
      intro jump hj hset5
      obtain ⟨u1, u2⟩ := set_loop (p' := jump) p1 y1 hg4 hset5 y2 hj
      refine ⟨_, _, run_endRound jump y2, _, rfl, ?_⟩
      obtain ⟨o1, o2⟩ := trunc_leave hr u1 (p3.trans u2) ht
      exact ⟨_, _, .bool _, o1, o2⟩
    cases x with
    | normal => subst hvv; exact fin none rfl hset4
    | exit id => subst hvv; exact fin (some (.exit id)) rfl hset4
    | ret => subst hvv; exact fin (some .ret) rfl hset4
/-- WHAT THE SHADOW MACHINE SAYS OF A CALL, THE MODEL's CALL DOES. -/
theorem rec_ok (hmix : C.P.follows .mixedOrders = true) (hT : ∀ f F1, T f = some F1 → cfun C.P C.pol f = some F1) : ∀ m, RecOK C (call1 T m)
  | 0 => ⟨fun f xs H v H' h => by simp [call1] at h, fun b xs H v H' h => by simp [call1] at h⟩
  | m + 1 => ⟨call_ok hmix hT (rec_ok hmix hT m), yld_ok hmix (rec_ok hmix hT m)⟩
end
end Go.Sh
