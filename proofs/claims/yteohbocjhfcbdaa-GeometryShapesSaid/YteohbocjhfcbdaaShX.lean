/-
  THE SHADOW MACHINE, PART X: regions that draw their order: the plain facts.
-/
import Derived.Test.YteohbocjhfcbdaaShW
import Derived.OrdersIn
namespace Go.Sh
set_option linter.unusedSectionVars false
set_option linter.unusedVariables false
set_option linter.unusedSimpArgs false
set_option linter.unnecessarySimpa false
section
variable {C : Ctx} {rec : Rec} {e e' : Env} {H H' : Heap} {s : SV}
theorem map_pure {v : Option SV} (h : v.map (·, H) = some (s, H')) : H' = H ∧ ∀ H2 : Heap, v.map (·, H2) = some (s, H2) := by
  cases v with
  | none => cases h
  | some v => cases h; exact ⟨rfl, fun _ => rfl⟩
theorem pure_op {op : Op1} (hp : pure1 op = true) (h : step1 rec e H op = some (s, H')) : H' = H ∧ ∀ H2, step1 rec e H2 op = some (s, H2) := by
  cases op <;> try (exfalso; simp only [pure1, Bool.false_eq_true] at hp; done)
  case mov x => simp only [step1, sop] at h ⊢; cases h; exact ⟨rfl, fun _ => rfl⟩
  case pick => exact map_pure h
  case build =>
    simp only [step1, sop, Option.map_eq_some_iff, Prod.mk.injEq] at h ⊢
    obtain ⟨v, h1, rfl, rfl⟩ := h
    exact ⟨rfl, fun H2 => ⟨v, h1, by simp⟩⟩
  case blist => exact map_pure h
  case bin => exact map_pure h
  case binB => exact map_pure h
  case eqAgg neg n x y =>
    simp only [step1, sop] at h ⊢
    split at h
    · rename_i a b h1 h2
      simp only [Option.map_eq_some_iff, Prod.mk.injEq] at h ⊢
      obtain ⟨v, h1, rfl, rfl⟩ := h
      exact ⟨rfl, fun H2 => ⟨v, h1, by simp⟩⟩
    · cases h
  case notB x => simp only [step1, sop] at h ⊢; split at h <;> first | (cases h; done) | (rename_i b hb; cases h; first | exact ⟨rfl, fun _ => rfl⟩ | (rw [hb]; exact ⟨rfl, fun _ => rfl⟩))
  case negI x => simp only [step1, sop] at h ⊢; split at h <;> first | (cases h; done) | (rename_i k b hb; cases h; first | exact ⟨rfl, fun _ => rfl⟩ | (rw [hb]; exact ⟨rfl, fun _ => rfl⟩))
  case convI k x => simp only [step1, sop] at h ⊢; split at h <;> first | (cases h; done) | (rename_i k b hb; cases h; first | exact ⟨rfl, fun _ => rfl⟩ | (rw [hb]; exact ⟨rfl, fun _ => rfl⟩))
  case convS x => simp only [step1, sop] at h ⊢; split at h <;> first | (cases h; done) | (rename_i b hb; cases h; first | exact ⟨rfl, fun _ => rfl⟩ | (rw [hb]; exact ⟨rfl, fun _ => rfl⟩))
  case mkfn => simp only [step1, sop] at h ⊢; cases h; exact ⟨rfl, fun _ => rfl⟩
  case field ag n off x => simp only [step1, sop] at h ⊢; split at h <;> first | (cases h; done) | (rename_i b hb; exact map_pure h)
  case indexA ag n len x ix =>
    simp only [step1, sop] at h ⊢
    split at h
    · rename_i b hb
      try rw [hb]
      simp only [Option.bind_eq_some_iff] at h ⊢
      obtain ⟨i, h1, h2⟩ := h
      obtain ⟨h3, h4⟩ := map_pure h2
      exact ⟨h3, fun H2 => ⟨i, h1, h4 H2⟩⟩
    · cases h
  case indexS x ix =>
    simp only [step1, sop] at h ⊢
    split at h
    · rename_i b hb
      try rw [hb]
      simp only [Option.bind_eq_some_iff, Option.map_eq_some_iff, Prod.mk.injEq] at h ⊢
      obtain ⟨i, h1, v, h2, rfl, rfl⟩ := h
      exact ⟨rfl, fun H2 => ⟨i, h1, v, h2, by simp⟩⟩
    · cases h
  case extract x i => simp only [step1, sop] at h ⊢; split at h <;> first | (cases h; done) | (rename_i b hb; exact map_pure h)
  case lenS x => simp only [step1, sop] at h ⊢; split at h <;> first | (cases h; done) | (rename_i b hb; cases h; first | exact ⟨rfl, fun _ => rfl⟩ | (rw [hb]; exact ⟨rfl, fun _ => rfl⟩))
  case lenA => simp only [step1, sop] at h ⊢; cases h; exact ⟨rfl, fun _ => rfl⟩
  case maxI => exact map_pure h
  case minI => exact map_pure h
  case sliceS x lo hi => simp only [step1, sop] at h ⊢; split at h <;> first | (cases h; done) | (rename_i b hb; exact map_pure h)
/-! ### An operation looks at its own operands alone -/
def opdT (xs : List Opd) : List Nat := opTmps.f xs
theorem ev_congr {x : Opd} {xs : List Opd} (hx : x ∈ xs) (h : ∀ t ∈ opTmps.f xs, get e t = get e' t) : ev e x = ev e' x := by
  cases x with
  | c v => rfl
  | t n => exact h n (by unfold opTmps.f; exact List.mem_filterMap.2 ⟨.t n, hx, rfl⟩)
theorem evs_congr {xs ys : List Opd} (hx : ∀ x ∈ xs, x ∈ ys) (h : ∀ t ∈ opTmps.f ys, get e t = get e' t) : xs.map (ev e) = xs.map (ev e') :=
  List.map_congr_left (fun x hm => ev_congr (hx x hm) h)
theorem evo_congr {x : Option Opd} {ys : List Opd} (hx : ∀ y ∈ x, y ∈ ys) (h : ∀ t ∈ opTmps.f ys, get e t = get e' t) : x.map (ev e) = x.map (ev e') := by
  cases x with
  | none => rfl
  | some x => simp only [Option.map_some]; rw [ev_congr (hx x rfl) h]
theorem fillP_congr {f g : Opd → SV} : ∀ (ps : List (Nat × Nat × Opd)) (z : List SV), (∀ p ∈ ps, f p.2.2 = g p.2.2) → fillP f z ps = fillP g z ps
  | [], _, _ => rfl
  | (off, n, x) :: ps, z, h => by
    simp only [fillP]
    rw [show f x = g x from h (off, n, x) (List.mem_cons_self ..)]
    congr 1
    funext cs
    cases (cs.length == n && decide (off + n ≤ z.length)) with
    | true => exact fillP_congr ps _ (fun p hp => h p (List.mem_cons_of_mem _ hp))
    | false => rfl
theorem fillS_congr {f g : Opd → SV} {esz : Nat} : ∀ (ps : List (Nat × Opd)) (z : List (List SV)), (∀ p ∈ ps, f p.2 = g p.2) → fillS f esz z ps = fillS g esz z ps
  | [], _, _ => rfl
  | (i, x) :: ps, z, h => by
    simp only [fillS]
    rw [show f x = g x from h (i, x) (List.mem_cons_self ..)]
    congr 1
    funext cs
    cases (cs.length == esz && decide (i < z.length)) with
    | true => exact fillS_congr ps _ (fun p hp => h p (List.mem_cons_of_mem _ hp))
    | false => rfl
theorem step1_congr {o : Oper1} (h : ∀ t ∈ opTmps o, get e t = get e' t) : step1 rec e H o.op = step1 rec e' H o.op := by
  obtain ⟨dst, op, g⟩ := o
  unfold opTmps at h
  replace h := fun t ht => h t (List.mem_append_left _ ht)
  dsimp only at h ⊢
  cases op
  case mov x => dsimp only at h; simp only [step1, sop, ev_congr (x := x) (by simp) h]
  case pick c a b => dsimp only at h; simp only [step1, sop, ev_congr (x := c) (by simp) h, ev_congr (x := a) (by simp) h, ev_congr (x := b) (by simp) h]
  case box x => dsimp only at h; simp only [step1, sop, ev_congr (x := x) (by simp) h]
  case alloc z => rfl
  case build z ps =>
    dsimp only at h
    simp only [step1, sop]
    rw [fillP_congr ps z (fun p hp => ev_congr (List.mem_map.2 ⟨p, hp, rfl⟩) h)]
  case bslice esz z n ps =>
    dsimp only at h
    simp only [step1, sop]
    rw [fillS_congr ps _ (fun p hp => ev_congr (List.mem_map.2 ⟨p, hp, rfl⟩) h)]
  case blist esz z n ps =>
    dsimp only at h
    simp only [step1, sop]
    rw [fillS_congr ps _ (fun p hp => ev_congr (List.mem_map.2 ⟨p, hp, rfl⟩) h)]
  case load ag n a => dsimp only at h; simp only [step1, sop, ev_congr (x := a) (by simp) h]
  case store n a x => dsimp only at h; simp only [step1, sop, ev_congr (x := a) (by simp) h, ev_congr (x := x) (by simp) h]
  case nilChk x => dsimp only at h; simp only [step1, sop, ev_congr (x := x) (by simp) h]
  case bin op x y => dsimp only at h; simp only [step1, sop, ev_congr (x := x) (by simp) h, ev_congr (x := y) (by simp) h]
  case binB op x y => dsimp only at h; simp only [step1, sop, ev_congr (x := x) (by simp) h, ev_congr (x := y) (by simp) h]
  case eqAgg neg n x y => dsimp only at h; simp only [step1, sop, ev_congr (x := x) (by simp) h, ev_congr (x := y) (by simp) h]
  case notB x => dsimp only at h; simp only [step1, sop, ev_congr (x := x) (by simp) h]
  case negI x => dsimp only at h; simp only [step1, sop, ev_congr (x := x) (by simp) h]
  case convI k x => dsimp only at h; simp only [step1, sop, ev_congr (x := x) (by simp) h]
  case convS x => dsimp only at h; simp only [step1, sop, ev_congr (x := x) (by simp) h]
  case convBS x => dsimp only at h; simp only [step1, sop, ev_congr (x := x) (by simp) h]
  case convSB x => dsimp only at h; simp only [step1, sop, ev_congr (x := x) (by simp) h]
  case mkfn f cs => dsimp only at h; simp only [step1, sop, evs_congr (xs := cs) (fun _ h => h) h]
  case mkslice esz z bytes l c => dsimp only at h; simp only [step1, sop, ev_congr (x := l) (by simp) h, ev_congr (x := c) (by simp) h]
  case sliceL esz x lo hi mx =>
    dsimp only at h
    simp only [step1, sop, ev_congr (x := x) (by simp) h, evo_congr (x := lo) (by simp +contextual) h, evo_congr (x := hi) (by simp +contextual) h, evo_congr (x := mx) (by simp +contextual) h]
  case sliceS x lo hi =>
    dsimp only at h
    simp only [step1, sop, ev_congr (x := x) (by simp) h, evo_congr (x := lo) (by simp +contextual) h, evo_congr (x := hi) (by simp +contextual) h]
  case faddr off x => dsimp only at h; simp only [step1, sop, ev_congr (x := x) (by simp) h]
  case field ag n off x => dsimp only at h; simp only [step1, sop, ev_congr (x := x) (by simp) h]
  case iaddrS esz x ix => dsimp only at h; simp only [step1, sop, ev_congr (x := x) (by simp) h, ev_congr (x := ix) (by simp) h]
  case iaddrA len esz x ix => dsimp only at h; simp only [step1, sop, ev_congr (x := x) (by simp) h, ev_congr (x := ix) (by simp) h]
  case indexA ag n len x ix => dsimp only at h; simp only [step1, sop, ev_congr (x := x) (by simp) h, ev_congr (x := ix) (by simp) h]
  case indexS x ix => dsimp only at h; simp only [step1, sop, ev_congr (x := x) (by simp) h, ev_congr (x := ix) (by simp) h]
  case extract x i => dsimp only at h; simp only [step1, sop, ev_congr (x := x) (by simp) h]
  case len x => dsimp only at h; simp only [step1, sop, ev_congr (x := x) (by simp) h]
  case lenS x => dsimp only at h; simp only [step1, sop, ev_congr (x := x) (by simp) h]
  case lenA n => rfl
  case maxI xs => dsimp only at h; simp only [step1, sop, evs_congr (xs := xs) (fun _ h => h) h]
  case minI xs => dsimp only at h; simp only [step1, sop, evs_congr (xs := xs) (fun _ h => h) h]
  case append esz bytes s x => dsimp only at h; simp only [step1, sop, ev_congr (x := s) (by simp) h, ev_congr (x := x) (by simp) h]
  case appendS s x => dsimp only at h; simp only [step1, sop, ev_congr (x := s) (by simp) h, ev_congr (x := x) (by simp) h]
  case copy esz d x => dsimp only at h; simp only [step1, sop, ev_congr (x := d) (by simp) h, ev_congr (x := x) (by simp) h]
  case clear esz z x => dsimp only at h; simp only [step1, sop, ev_congr (x := x) (by simp) h]
  case call f xs =>
    dsimp only at h
    simp only [step1]
    rw [ev_congr (x := f) (List.mem_cons_self ..) h, evs_congr (xs := xs) (fun x hx => List.mem_cons_of_mem _ hx) h]
  case bad => rfl
/-! ### Which operations come before which -/
def befF (acc : List Nat) (o : Oper) : Nat := o.after.toList.foldl (fun s e => bif Region.binds .any e then s ||| 2 ^ e.on ||| acc.getD e.on 0 else s) 0
theorem before1_snoc (l : List Oper) (o : Oper) : before1 (l ++ [o]) = before1 l ++ [befF (before1 l) o] := by
  simp [before1, befF, List.foldl_append]
theorem snocRec {A : Type} {P : List A → Prop} (h0 : P []) (h1 : ∀ l a, P l → P (l ++ [a])) (l : List A) : P l := by
  rw [← List.reverse_reverse l]
  induction l.reverse with
  | nil => exact h0
  | cons a r ih => rw [List.reverse_cons]; exact h1 _ _ ih
theorem before1_length (l : List Oper) : (before1 l).length = l.length := by
  refine snocRec (P := fun l => (before1 l).length = l.length) rfl (fun l o ih => ?_) l
  rw [before1_snoc]; simp [ih]
theorem before1_append (l m : List Oper) {j : Nat} (hj : j < l.length) : (before1 (l ++ m))[j]? = (before1 l)[j]? := by
  refine snocRec (P := fun m => (before1 (l ++ m))[j]? = (before1 l)[j]?) (by simp) (fun m o ih => ?_) m
  rw [← List.append_assoc, before1_snoc, List.getElem?_append_left (by rw [before1_length]; simp; omega)]
  exact ih
theorem befF_spec {acc : List Nat} {i : Nat} : ∀ (es : List Edge) (s : Nat), (es.foldl (fun s e => bif Region.binds .any e then s ||| 2 ^ e.on ||| acc.getD e.on 0 else s) s).testBit i = true →
    s.testBit i = true ∨ ∃ e ∈ es, Region.binds .any e = true ∧ (e.on = i ∨ (acc.getD e.on 0).testBit i = true)
  | [], s, h => .inl h
  | d :: es, s, h => by
    simp only [List.foldl_cons] at h
    rcases befF_spec es _ h with h1 | ⟨d', h1, h2⟩
    · cases hb : Region.binds .any d with
      | false => rw [hb] at h1; exact .inl h1
      | true =>
        rw [hb] at h1
        simp only [cond_true, Nat.testBit_or, Bool.or_eq_true, Nat.testBit_two_pow, decide_eq_true_eq] at h1
        rcases h1 with (h1 | h1) | h1
        · exact .inl h1
        · exact .inr ⟨d, List.mem_cons_self .., hb, .inl h1⟩
        · exact .inr ⟨d, List.mem_cons_self .., hb, .inr h1⟩
    · exact .inr ⟨d', List.mem_cons_of_mem _ h1, h2⟩
theorem before1_spec {ops : List Oper} {j i : Nat} (h : ((before1 ops).getD j 0).testBit i = true) :
    ∃ o, ops[j]? = some o ∧ ∃ e ∈ o.after, Region.binds .any e = true ∧ (e.on = i ∨ (e.on < j ∧ ((before1 ops).getD e.on 0).testBit i = true)) := by
  by_cases hj : j < ops.length
  · have hsp : ops = ops.take (j + 1) ++ ops.drop (j + 1) := (List.take_append_drop _ _).symm
    have hsn : ops.take (j + 1) = ops.take j ++ [ops[j]] := List.take_succ_eq_append_getElem hj
    have hlt : (ops.take j).length = j := by simp; omega
    have hval : (before1 ops)[j]? = some (befF (before1 (ops.take j)) ops[j]) := by
      conv => lhs; rw [hsp]
      rw [before1_append _ _ (by simp; omega), hsn, before1_snoc, List.getElem?_append_right (by rw [before1_length]; omega), before1_length, hlt]
      simp
    rw [List.getD_eq_getElem?_getD, hval] at h
    simp only [Option.getD_some] at h
    refine ⟨ops[j], by simp [hj], ?_⟩
    unfold befF at h
    rcases befF_spec _ _ h with h | ⟨d, h1, h2, h3⟩
    · simp at h
    · refine ⟨d, by simpa using h1, h2, h3.imp id (fun h3 => ?_)⟩
      by_cases hd : d.on < j
      · refine ⟨hd, ?_⟩
        have : (before1 ops)[d.on]? = (before1 (ops.take j))[d.on]? := by
          conv => lhs; rw [hsp]
          rw [before1_append _ _ (by simp; omega), hsn, before1_append _ _ (by omega)]
        rw [List.getD_eq_getElem?_getD, this, ← List.getD_eq_getElem?_getD]
        exact h3
      · rw [List.getD_eq_getElem?_getD, List.getElem?_eq_none (by rw [before1_length]; omega)] at h3
        simp at h3
  · rw [List.getD_eq_getElem?_getD, List.getElem?_eq_none (by rw [before1_length]; omega)] at h
    simp at h
theorem bef_lt {ops : List Oper} (hedge : ∀ (i : Nat) o, ops[i]? = some o → ∀ e ∈ o.after, Region.binds .any e = true → e.on < i) : ∀ (j i : Nat), ((before1 ops).getD j 0).testBit i = true → i < j := by
  intro j
  induction j using Nat.strongRecOn with
  | _ j ih =>
    intro i h
    obtain ⟨o, h1, d, h2, h3, h4⟩ := before1_spec h
    rcases h4 with h4 | ⟨h4, h5⟩
    · subst h4; exact hedge j o h1 d h2 h3
    · have := ih d.on h4 i h5; omega
theorem bef_closed {ops : List Oper} {S : Nat → Prop} (hS : ∀ (k : Nat) o, S k → ops[k]? = some o → ∀ e ∈ o.after, Region.binds .any e = true → S e.on) :
    ∀ (j i : Nat), (∀ o, ops[j]? = some o → ∀ e ∈ o.after, Region.binds .any e = true → S e.on) → ((before1 ops).getD j 0).testBit i = true → S i := by
  intro j
  induction j using Nat.strongRecOn with
  | _ j ih =>
    intro i hj h
    obtain ⟨o, h1, d, h2, h3, h4⟩ := before1_spec h
    have hd := hj o h1 d h2 h3
    rcases h4 with h4 | ⟨h4, h5⟩
    · subst h4; exact hd
    · exact ih d.on h4 i (fun o' ho' => hS d.on o' hd ho') h5
/-! ### What is checked of the choices -/
def dr (pl : List (Oper1 × Draw1)) (i : Nat) : Draw1 := ((pl[i]?).map (·.2)).getD ⟨.pure, [], 0, 0⟩
theorem dr_at {pl : List (Oper1 × Draw1)} {i : Nat} {o : Oper1} {d : Draw1} (h : pl[i]? = some (o, d)) : dr pl i = d := by simp [dr, h]
structure DOK (bs : List Nat) (ops : List Oper) (pl : List (Oper1 × Draw1)) : Prop where
  edge : ∀ (i : Nat) o, ops[i]? = some o → ∀ e ∈ o.after, Region.binds .any e = true → e.on < i
  tmp : ∀ (i j : Nat) a b, i < j → pl[i]? = some a → pl[j]? = some b → (bs.getD j 0).testBit i = true ∨ (∀ d, a.1.dst = some d → d ∉ opTmps b.1 ∧ b.1.dst ≠ some d) ∧ (∀ d, b.1.dst = some d → d ∉ opTmps a.1)
  pur : ∀ (i : Nat) o d, pl[i]? = some (o, d) → d.kind = .pure → pure1 o.op = true ∧ d.nal = 0
  bar : ∀ i j, i < pl.length → j < pl.length → (dr pl i).kind = .bar → (dr pl j).kind ≠ .pure → i = j ∨ (bs.getD j 0).testBit i = true ∨ (bs.getD i 0).testBit j = true
  offs0 : 0 < pl.length → (dr pl 0).offs = 0
  offsS : ∀ k, k + 1 < pl.length → (dr pl (k + 1)).offs = bif isBar (dr pl k) then 0 else (dr pl k).offs + (dr pl k).nal
  hide : ∀ i, i < pl.length → (dr pl i).kind = .seg → ∀ k, k < i → (dr pl k).kind = .seg → (∃ m, k < m ∧ m < i ∧ (dr pl m).kind = .bar) ∨ (bs.getD i 0).testBit k = true ∨ ∀ m, m < (dr pl k).nal → (dr pl k).offs + m ∈ (dr pl i).hide
theorem isBar_iff {d : Draw1} : isBar d = true ↔ d.kind = .bar := by unfold isBar; cases d.kind <;> simp
theorem isSeg_iff {d : Draw1} : isSeg d = true ↔ d.kind = .seg := by unfold isSeg; cases d.kind <;> simp
theorem isPure_iff {d : Draw1} : isPure d = true ↔ d.kind = .pure := by unfold isPure; cases d.kind <;> simp
theorem okDraws_spec {bs : List Nat} {ops : List Oper} {pl : List (Oper1 × Draw1)} (h : okDraws bs ops pl = true) : DOK bs ops pl := by
  unfold okDraws at h
  simp only [Bool.and_eq_true] at h
  obtain ⟨⟨⟨⟨⟨h1, h2⟩, h3⟩, h4⟩, h5⟩, h6⟩ := h
  refine ⟨fun i o ho e he hb => ?_, fun i j a b hij ha hb => ?_, fun i o d hi hk => ?_, fun i j hi hj hk hp => ?_, fun h0 => ?_, fun k hk => ?_, fun i hi hk k hki hkk => ?_⟩
  · have := List.all_eq_true.1 h1 (o, i) (by rw [List.mem_iff_getElem?]; exact ⟨i, by simp [List.getElem?_zipIdx, ho]⟩)
    have := List.all_eq_true.1 this e (by simpa using he)
    simpa [hb] using this
  · have hj := (List.getElem?_eq_some_iff.1 hb).1
    have := List.all_eq_true.1 h2 j (List.mem_range.2 hj)
    have := List.all_eq_true.1 this i (List.mem_range.2 hij)
    rw [ha, hb] at this
    simp only [Bool.or_eq_true, Bool.not_eq_true', Bool.or_eq_false_iff] at this
    refine this.imp id (fun ⟨g1, g2⟩ => ⟨fun d hd => ?_, fun d hd => ?_⟩)
    · rw [hd] at g1
      simp only [Bool.or_eq_false_iff, List.contains_eq_mem, decide_eq_false_iff_not, beq_eq_false_iff_ne] at g1
      exact g1
    · rw [hd] at g2
      simpa using g2
  · have := List.all_eq_true.1 h3 (o, d) (List.mem_of_getElem? hi)
    simpa [isPure_iff.2 hk] using this
  · have := List.all_eq_true.1 h4 i (List.mem_range.2 hi)
    have hb : isBar (((pl[i]?).map (·.2)).getD ⟨.pure, [], 0, 0⟩) = true := isBar_iff.2 hk
    rw [hb] at this
    simp only [Bool.not_true, Bool.false_or] at this
    have := List.all_eq_true.1 this j (List.mem_range.2 hj)
    simp only [Bool.or_eq_true] at this
    rcases this with h | h
    · exact absurd (isPure_iff.1 h) hp
    · unfold cmp1 at h
      simp only [Bool.or_eq_true, beq_iff_eq] at h
      rcases h with (h | h) | h
      · exact .inl h
      · exact .inr (.inl h)
      · exact .inr (.inr h)
  · have := List.all_eq_true.1 h5 0 (List.mem_range.2 h0)
    simpa [dr] using this
  · have := List.all_eq_true.1 h5 (k + 1) (List.mem_range.2 hk)
    simpa [dr] using this
  · have := List.all_eq_true.1 h6 i (List.mem_range.2 hi)
    have hs : isSeg (((pl[i]?).map (·.2)).getD ⟨.pure, [], 0, 0⟩) = true := isSeg_iff.2 hk
    rw [hs] at this
    simp only [Bool.not_true, Bool.false_or] at this
    have := List.all_eq_true.1 this k (List.mem_range.2 hki)
    have hs' : isSeg (((pl[k]?).map (·.2)).getD ⟨.pure, [], 0, 0⟩) = true := isSeg_iff.2 hkk
    rw [hs'] at this
    simp only [Bool.not_true, Bool.false_or, Bool.or_eq_true] at this
    rcases this with (h | h) | h
    · obtain ⟨m, hm, h⟩ := List.any_eq_true.1 h
      simp only [Bool.and_eq_true, decide_eq_true_eq] at h
      exact .inl ⟨m, h.1, List.mem_range.1 hm, isBar_iff.1 h.2⟩
    · exact .inr (.inl h)
    · refine .inr (.inr (fun m hm => ?_))
      have := List.all_eq_true.1 h m (List.mem_range.2 hm)
      rw [List.contains_iff_mem] at this
      exact this
/-! ### The run from front to back, step by step -/
def wanted1 (e : Env) (g : Option (Nat × Bool)) : Prop := g = none ∨ ∃ t w, g = some (t, w) ∧ get e t = .bool w
def skipped1 (e : Env) (g : Option (Nat × Bool)) : Prop := ∃ t w, g = some (t, w) ∧ (get e t = .bool (!w) ∨ get e t = .skp)
structure Tr (rec : Rec) (pl : List (Oper1 × Draw1)) (es : Nat → Env) (hs : Nat → Heap) (out : Nat → SV) (Ns : Nat → Nat) : Prop where
  env : ∀ (i : Nat) o d, pl[i]? = some (o, d) → es (i + 1) = bind1 (es i) o.dst (out i)
  nx : ∀ (i : Nat) o d, pl[i]? = some (o, d) → Ns (i + 1) = nextN d (Ns i) (hs (i + 1))
  st : ∀ (i : Nat) o d, pl[i]? = some (o, d) → (wanted1 (es i) o.g ∧ step1d rec (Ns i) d (es i) (hs i) o.op = some (out i, hs (i + 1))) ∨ (skipped1 (es i) o.g ∧ skip1 d = true ∧ out i = .skp ∧ hs (i + 1) = hs i)
theorem trace {R : Type} {k : Env → Heap → Option R} {r : R} : ∀ (pl : List (Oper1 × Draw1)) (N : Nat) (e : Env) (H : Heap), runDrawn rec pl N e H k () = some r →
    ∃ es hs out Ns, es 0 = e ∧ hs 0 = H ∧ Ns 0 = N ∧ Tr rec pl es hs out Ns ∧ k (es pl.length) (hs pl.length) = some r
  | [], N, e, H, h => ⟨fun _ => e, fun _ => H, fun _ => .undef, fun _ => N, rfl, rfl, rfl, ⟨by simp, by simp, by simp⟩, h⟩
  | (o, d) :: pl, N, e, H, h => by
    have key : ∀ s H', ((wanted1 e o.g ∧ step1d rec N d e H o.op = some (s, H')) ∨ (skipped1 e o.g ∧ skip1 d = true ∧ s = .skp ∧ H' = H)) →
        runDrawn rec pl (nextN d N H') (bind1 e o.dst s) H' k () = some r → ∃ es hs out Ns, es 0 = e ∧ hs 0 = H ∧ Ns 0 = N ∧ Tr rec ((o, d) :: pl) es hs out Ns ∧ k (es (pl.length + 1)) (hs (pl.length + 1)) = some r := by
      intro s H' hst hrun
      obtain ⟨es, hs, out, Ns, h1, h2, h3, h4, h5⟩ := trace pl _ _ _ hrun
      refine ⟨fun | 0 => e | i + 1 => es i, fun | 0 => H | i + 1 => hs i, fun | 0 => s | i + 1 => out i, fun | 0 => N | i + 1 => Ns i, rfl, rfl, rfl, ⟨?_, ?_, ?_⟩, h5⟩
      · intro i o' d' hi
        cases i with
        | zero => simp at hi; obtain ⟨rfl, rfl⟩ := hi; exact h1
        | succ i => exact h4.env i o' d' (by simpa using hi)
      · intro i o' d' hi
        cases i with
        | zero => simp at hi; obtain ⟨rfl, rfl⟩ := hi; simp only; rw [h3, h2]
        | succ i => exact h4.nx i o' d' (by simpa using hi)
      · intro i o' d' hi
        cases i with
        | zero => simp at hi; obtain ⟨rfl, rfl⟩ := hi; simp only; rw [h2]; exact hst
        | succ i => exact h4.st i o' d' (by simpa using hi)
    simp only [runDrawn] at h
    split at h
    · rename_i hg
      unfold onSome at h
      split at h
      · rename_i p hp
        exact key p.1 p.2 (.inl ⟨.inl hg, hp⟩) h
      · cases h
    · rename_i t w hg
      unfold onGuard at h
      split at h
      · rename_i b hb
        unfold fork at h
        dsimp only at h
        cases hbw : (b == w) with
        | true =>
          have : b = w := by simpa using hbw
          subst this
          rw [hbw] at h
          simp only [cond_true] at h
          unfold onSome at h
          split at h
          · rename_i p hp
            exact key p.1 p.2 (.inl ⟨.inr ⟨t, b, hg, hb⟩, hp⟩) h
          · cases h
        | false =>
          have : b = !w := by cases b <;> cases w <;> simp_all
          subst this
          rw [hbw] at h
          simp only [cond_false] at h
          replace h := bif_some h
          exact key .skp H (.inr ⟨⟨t, w, hg, .inl hb⟩, h.1, rfl, rfl⟩) h.2
      · rename_i hb
        unfold fork at h
        dsimp only at h
        simp only [cond_false] at h
        replace h := bif_some h
        exact key .skp H (.inr ⟨⟨t, w, hg, .inr hb⟩, h.1, rfl, rfl⟩) h.2
      · cases h
end
end Go.Sh
