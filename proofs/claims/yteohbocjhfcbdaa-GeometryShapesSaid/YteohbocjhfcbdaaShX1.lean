/-
  THE SHADOW MACHINE, PART X1: regions that draw their order: whatever the order, what the run from front to back says.
-/
import Derived.Test.YteohbocjhfcbdaaShX
namespace Go.Sh
set_option linter.unusedSectionVars false
set_option linter.unusedVariables false
set_option linter.unusedSimpArgs false
set_option linter.unnecessarySimpa false
section
variable {C : Ctx} {rec : Rec} {f : FuncId} {nt : Nat}
/-- A region and its run from front to back. -/
structure Reg (C : Ctx) (rec : Rec) (f : FuncId) (nt : Nat) (ops : Array Oper) (pl : List (Oper1 × Draw1)) (es : Nat → Env) (hs : Nat → Heap) (out : Nat → SV) (Ns : Nat → Nat) : Prop where
  hop : ∀ (i : Nat) o d, pl[i]? = some (o, d) → ∃ op, ops[i]? = some op ∧ coper C.P C.pol f nt ops op = some o
  hlen : pl.length = ops.size
  dok : DOK (before1 ops.toList) ops.toList pl
  tr : Tr rec pl es hs out Ns
  n0 : Ns 0 = (hs 0).bl.length
variable {ops : Array Oper} {pl : List (Oper1 × Draw1)} {es : Nat → Env} {hs : Nat → Heap} {out : Nat → SV} {Ns : Nat → Nat}
theorem at_lt {i : Nat} (h : i < pl.length) : ∃ o d, pl[i]? = some (o, d) := ⟨pl[i].1, pl[i].2, by simp [h]⟩
theorem Reg.mono1 (R : Reg C rec f nt ops pl es hs out Ns) {i : Nat} (hi : i < pl.length) : (hs i).bl.length ≤ (hs (i + 1)).bl.length := by
  obtain ⟨o, d, h⟩ := at_lt hi
  rcases R.tr.st i o d h with ⟨_, h1⟩ | ⟨_, _, _, h1⟩
  · unfold step1d at h1
    split at h1
    · rename_i hk
      rw [(pure_op (R.dok.pur i o d h hk).1 h1).1]; exact Nat.le_refl _
    · simp only [Option.bind_eq_some_iff] at h1
      obtain ⟨r, h2, h3⟩ := h1
      replace h3 := bif_some h3
      obtain ⟨h4, h5⟩ := h3
      cases h5
      simpa using h4
    · simp only [Option.bind_eq_some_iff] at h1
      obtain ⟨r, h2, h3⟩ := h1
      replace h3 := bif_some h3
      obtain ⟨h4, h5⟩ := h3
      simp only [Option.some.injEq, Prod.mk.injEq] at h5
      rw [← h5.2]
      simp
  · rw [h1]; exact Nat.le_refl _
theorem Reg.mono (R : Reg C rec f nt ops pl es hs out Ns) {i : Nat} : ∀ {j : Nat}, i ≤ j → j ≤ pl.length → (hs i).bl.length ≤ (hs j).bl.length := by
  intro j
  induction j with
  | zero => intro h _; have : i = 0 := by omega
            subst this; exact Nat.le_refl _
  | succ j ih =>
    intro h hj
    by_cases e : i = j + 1
    · subst e; exact Nat.le_refl _
    · exact Nat.le_trans (ih (by omega) (by omega)) (R.mono1 (by omega))
theorem Reg.step_nb (R : Reg C rec f nt ops pl es hs out Ns) {i : Nat} {o : Oper1} {d : Draw1} (h : pl[i]? = some (o, d)) (hb : d.kind ≠ .bar) :
    ∃ X, hs (i + 1) = { hs i with bl := (hs i).bl ++ X } ∧ X.length = d.nal ∧ Ns (i + 1) = Ns i := by
  have hN : Ns (i + 1) = Ns i := by
    rw [R.tr.nx i o d h]
    unfold nextN
    split
    · rename_i hk; exact absurd hk hb
    · rfl
  rcases R.tr.st i o d h with ⟨_, h1⟩ | ⟨_, h2, _, h1⟩
  · unfold step1d at h1
    split at h1
    · rename_i hk
      obtain ⟨g1, g2⟩ := R.dok.pur i o d h hk
      exact ⟨[], by rw [(pure_op g1 h1).1]; simp, by simp [g2], hN⟩
    · rename_i hk; exact absurd hk hb
    · simp only [Option.bind_eq_some_iff] at h1
      obtain ⟨r, h2, h3⟩ := h1
      replace h3 := bif_some h3
      obtain ⟨h4, h5⟩ := h3
      simp only [Option.some.injEq, Prod.mk.injEq] at h5
      simp only [Bool.and_eq_true, beq_iff_eq] at h4
      exact ⟨_, h5.2.symm, by simp [h4.1], hN⟩
  · refine ⟨[], by rw [h1]; simp, ?_, hN⟩
    unfold skip1 at h2
    split at h2
    · have := beq_iff_eq.1 h2; simp [this]
    · rename_i hk
      have : d.kind = .pure := by cases hd : d.kind <;> simp_all
      simp [(R.dok.pur i o d h this).2]
theorem Reg.seg (R : Reg C rec f nt ops pl es hs out Ns) {j : Nat} : ∀ (m : Nat), (∀ k, j ≤ k → k < j + m → (dr pl k).kind ≠ .bar) → j + m ≤ pl.length →
    ∃ X, hs (j + m) = { hs j with bl := (hs j).bl ++ X } ∧ Ns (j + m) = Ns j
  | 0, _, _ => ⟨[], by simp, rfl⟩
  | m + 1, hb, hl => by
    obtain ⟨X, h1, h2⟩ := Reg.seg R m (fun k hk hk' => hb k hk (by omega)) (by omega)
    obtain ⟨o, d, h⟩ := at_lt (pl := pl) (i := j + m) (by omega)
    obtain ⟨Y, h3, _, h4⟩ := R.step_nb h (by have := hb (j + m) (by omega) (by omega); rwa [dr_at h] at this)
    refine ⟨X ++ Y, ?_, ?_⟩
    · rw [← Nat.add_assoc, h3, h1]; simp
    · rw [← Nat.add_assoc, h4, h2]
theorem Reg.seg' (R : Reg C rec f nt ops pl es hs out Ns) {j k : Nat} (hjk : j ≤ k) (hk : k ≤ pl.length) (hb : ∀ m, j ≤ m → m < k → (dr pl m).kind ≠ .bar) :
    ∃ X, hs k = { hs j with bl := (hs j).bl ++ X } ∧ Ns k = Ns j := by
  have := R.seg (j := j) (k - j) (fun m h1 h2 => hb m h1 (by omega)) (by omega)
  rwa [show j + (k - j) = k by omega] at this
theorem Reg.offs (R : Reg C rec f nt ops pl es hs out Ns) {j : Nat} (hj : (dr pl j).offs = 0) : ∀ (m : Nat), (∀ k, j ≤ k → k < j + m → (dr pl k).kind ≠ .bar) → j + m < pl.length →
    (hs (j + m)).bl.length = (hs j).bl.length + (dr pl (j + m)).offs
  | 0, _, _ => by simp [hj]
  | m + 1, hb, hl => by
    have h1 := Reg.offs R hj m (fun k hk hk' => hb k hk (by omega)) (by omega)
    obtain ⟨o, d, h⟩ := at_lt (pl := pl) (i := j + m) (by omega)
    have hnb := hb (j + m) (by omega) (by omega)
    obtain ⟨Y, h3, h4, _⟩ := R.step_nb h (by rwa [dr_at h] at hnb)
    have h5 := R.dok.offsS (j + m) (by omega)
    have h6 : isBar (dr pl (j + m)) = false := by
      cases hq : isBar (dr pl (j + m)) with
      | false => rfl
      | true => exact absurd (isBar_iff.1 hq) hnb
    rw [h6] at h5
    simp only [cond_false, dr_at h] at h5
    rw [dr_at h] at h1
    rw [← Nat.add_assoc, h3, h5]
    simp only [List.length_append]
    omega
/-! ### What stands in the slots -/
def W (pl : List (Oper1 × Draw1)) (e0 : Env) (out : Nat → SV) (ln : Nat → Nat) (S : Nat → Prop) (t : Nat) (s : SV) (m : Nat) : Prop :=
  (∃ j o d, pl[j]? = some (o, d) ∧ S j ∧ o.dst = some t ∧ (∀ j' o' d', j < j' → pl[j']? = some (o', d') → S j' → o'.dst ≠ some t) ∧ s = out j ∧ m = ln (j + 1)) ∨
  ((∀ (j : Nat) o d, pl[j]? = some (o, d) → S j → o.dst ≠ some t) ∧ s = get e0 t ∧ m = ln 0)
abbrev lnOf (hs : Nat → Heap) (i : Nat) : Nat := (hs i).bl.length
theorem Reg.w_upto (R : Reg C rec f nt ops pl es hs out Ns) (t : Nat) : ∀ i, i ≤ pl.length → ∃ m, W pl (es 0) out (lnOf hs) (· < i) t (get (es i) t) m ∧ m ≤ lnOf hs i
  | 0, _ => ⟨lnOf hs 0, .inr ⟨fun j o d _ h => by simp at h, rfl, rfl⟩, Nat.le_refl _⟩
  | i + 1, hi => by
    obtain ⟨m, h1, h2⟩ := Reg.w_upto R t i (by omega)
    obtain ⟨o, d, h⟩ := at_lt (pl := pl) (i := i) (by omega)
    rw [R.tr.env i o d h]
    have hm := R.mono1 (i := i) (by omega)
    cases hd : o.dst with
    | none =>
      refine ⟨m, ?_, Nat.le_trans h2 hm⟩
      simp only [bind1]
      rcases h1 with ⟨j, o', d', g1, g2, g3, g4, g5, g6⟩ | ⟨g1, g2, g3⟩
      · refine .inl ⟨j, o', d', g1, Nat.lt_succ_of_lt g2, g3, fun j' o2 d2 k1 k2 k3 => ?_, g5, g6⟩
        by_cases e : j' = i
        · subst e; rw [h] at k2; cases k2; rw [hd]; simp
        · exact g4 j' o2 d2 k1 k2 (by omega)
      · refine .inr ⟨fun j o2 d2 k2 k3 => ?_, g2, g3⟩
        by_cases e : j = i
        · subst e; rw [h] at k2; cases k2; rw [hd]; simp
        · exact g1 j o2 d2 k2 (by omega)
    | some u =>
      simp only [bind1, get]
      cases hu : (t == u) with
      | true =>
        have : t = u := by simpa using hu
        subst this
        refine ⟨lnOf hs (i + 1), .inl ⟨i, o, d, h, Nat.lt_succ_self i, hd, fun j' o2 d2 k1 k2 k3 => ?_, rfl, rfl⟩, Nat.le_refl _⟩
        exact absurd k3 (by omega)
      | false =>
        have hne : t ≠ u := by simpa using hu
        refine ⟨m, ?_, Nat.le_trans h2 hm⟩
        simp only [cond_false]
        rcases h1 with ⟨j, o', d', g1, g2, g3, g4, g5, g6⟩ | ⟨g1, g2, g3⟩
        · refine .inl ⟨j, o', d', g1, Nat.lt_succ_of_lt g2, g3, fun j' o2 d2 k1 k2 k3 => ?_, g5, g6⟩
          by_cases e : j' = i
          · subst e; rw [h] at k2; cases k2; rw [hd]; simpa using Ne.symm hne
          · exact g4 j' o2 d2 k1 k2 (by omega)
        · refine .inr ⟨fun j o2 d2 k2 k3 => ?_, g2, g3⟩
          by_cases e : j = i
          · subst e; rw [h] at k2; cases k2; rw [hd]; simpa using Ne.symm hne
          · exact g1 j o2 d2 k2 (by omega)
/-! ### Heaps of which part is hidden -/
open Classical in
noncomputable def Gh (H : Heap) (vis : Nat → Prop) : Heap := { H with bl := H.bl.mapIdx fun b x => if vis b then x else .dead }
theorem gh_len {H : Heap} {vis : Nat → Prop} : (Gh H vis).bl.length = H.bl.length := by simp [Gh]
theorem gh_live {H : Heap} {vis : Nat → Prop} {b : Nat} {x : SBlk} (h : (Gh H vis).bl[b]? = some x) (hx : x.live = true) : vis b ∧ H.bl[b]? = some x := by
  unfold Gh at h
  simp only [List.getElem?_mapIdx, Option.map_eq_some_iff] at h
  obtain ⟨y, h1, h2⟩ := h
  by_cases hv : vis b
  · rw [if_pos hv] at h2; subst h2; exact ⟨hv, h1⟩
  · rw [if_neg hv] at h2; subst h2; cases hx
theorem gh_at {H : Heap} {vis : Nat → Prop} {b : Nat} {x : SBlk} (hv : vis b) (h : H.bl[b]? = some x) : (Gh H vis).bl[b]? = some x := by
  unfold Gh
  simp [h, hv]
theorem own_gh {H : Heap} {vis : Nat → Prop} {ρ : Map} {b : Nat} {l : Loc} (h : Own ρ (Gh H vis) b l) : vis b ∧ Own ρ H b l := by
  obtain ⟨⟨x, h1, h2⟩, h3, h4⟩ := h
  obtain ⟨g1, g2⟩ := gh_live h1 h2
  exact ⟨g1, ⟨x, g2, h2⟩, h3, h4⟩
theorem cut_mono {ρ ρ' : Map} (h : ρ.le ρ') {m n : Nat} (hmn : m ≤ n) : (ρ.cut m).le (ρ'.cut n) := by
  intro b l hb
  unfold Map.cut at hb ⊢
  split at hb
  · rename_i hlt
    rw [if_pos (by omega)]
    exact h b l hb
  · cases hb
theorem cut_lt {ρ : Map} {N b : Nat} {l : Loc} (h : ρ.cut N b = some l) : b < N ∧ ρ b = some l := by
  unfold Map.cut at h
  split at h
  · exact ⟨by assumption, h⟩
  · cases h
theorem cut_at {ρ : Map} {N b : Nat} (h : b < N) : ρ.cut N b = ρ b := by simp [Map.cut, h]
/-- Only dead blocks more. -/
theorem HR.pad {ρ : Map} {F : Nat → Prop} {H H' : Heap} {w : World} (hr : HR C ρ F H w) (hb : ∀ (b : Nat) x, x.live = true → (H'.bl[b]? = some x ↔ H.bl[b]? = some x)) (hl : H.bl.length ≤ H'.bl.length) (he : H'.esc = H.esc) (hro : H'.ro = H.ro) :
    HR C ρ F H' w ∧ Ext C ρ F H w ρ F H' w := by
  have hown : ∀ b l, Own ρ H' b l → Own ρ H b l := fun b l ⟨⟨x, h1, h2⟩, h3, h4⟩ => ⟨⟨x, (hb b x h2).1 h1, h2⟩, h3, h4⟩
  refine ⟨⟨fun b l h => Nat.lt_of_lt_of_le (hr.dom b l h) hl, fun b x h1 h2 => hr.live b x ((hb b x h2).1 h1) h2, fun b b' l l' h h' => hr.apart b b' l l' (hown b l h) (hown b' l' h'), fun b l h => hr.own b l (hown b l h), hr.fro⟩,
    ⟨fun b l h => ⟨l, h, .inl rfl⟩, fun _ h => h, fun _ h => .inl h, fun _ _ _ => rfl, Nat.le_refl _, fun b l h => .inr ⟨l, hown b l h, rfl⟩, hro, fun p hp => he ▸ hp, fun N hN hc h0 b x l hbN hx hxl hlx => ?_, fun B q h => ⟨q, h⟩, hl, ⟨rfl, rfl⟩⟩, fun b l h => .inl ⟨l, h⟩⟩
  have hx' := (hb b x hxl).1 hx
  by_cases hNl : N ≤ H.bl.length
  · exact h0 hNl b x l hbN hx' hxl hlx
  · obtain ⟨l2, h2, h3⟩ := hr.live b x hx' hxl
    rw [hlx] at h2; cases h2
    exact h3.mono (fun _ _ => rfl) (fun _ h => h) (fun b1 l1 h1 => ⟨l1, by have := hr.dom b1 l1 h1; rw [cut_at (by omega)]; exact h1, .inl rfl⟩) (fun _ => rfl)
/-! ### The state of things when the operations of S are done -/
def Vis (hs : Nat → Heap) (S : Nat → Prop) (β γ b : Nat) : Prop := b < lnOf hs β ∨ ∃ k, S k ∧ β ≤ k ∧ k < γ ∧ lnOf hs k ≤ b ∧ b < lnOf hs (k + 1)
structure J (C : Ctx) (nt : Nat) (ops : Array Oper) (pl : List (Oper1 × Draw1)) (es : Nat → Env) (hs : Nat → Heap) (out : Nat → SV) (Ns : Nat → Nat) (B : Base) (S : Nat → Prop) (a : Act) (w : World) (ρ : Map) (F : Nat → Prop) (β γ : Nat) : Prop where
  closed : ∀ (k : Nat) o, S k → ops.toList[k]? = some o → ∀ e ∈ o.after, Region.binds .any e = true → S e.on
  le : β ≤ γ
  leN : γ ≤ pl.length
  nobar : ∀ j, β ≤ j → j < γ → (dr pl j).kind ≠ .bar
  atg : γ = pl.length ∨ (dr pl γ).kind = .bar
  pre : ∀ j, j < β → (dr pl j).kind ≠ .pure → S j
  post : ∀ j, β ≤ j → S j → (dr pl j).kind ≠ .bar
  nsb : Ns β = lnOf hs β
  offb : β < pl.length → (dr pl β).offs = 0
  lnB : B.H.bl.length ≤ lnOf hs β
  hr : HR C ρ F (Gh (hs γ) (Vis hs S β γ)) w
  dom : ∀ b l, ρ b = some l → Vis hs S β γ b
  brO : ∀ (b : Nat) x l, b < lnOf hs β → (hs γ).bl[b]? = some x → x.live = true → ρ b = some l → BR C w F (ρ.cut (lnOf hs β)) l x
  brN : ∀ (k b : Nat) x l, S k → β ≤ k → k < γ → lnOf hs k ≤ b → b < lnOf hs (k + 1) → (hs γ).bl[b]? = some x → x.live = true → ρ b = some l → BR C w F (ρ.cut (lnOf hs (k + 1))) l x
  ext : Ext C B.ρ B.F B.H B.w ρ F (Gh (hs γ) (Vis hs S β γ)) w
  vals : ∀ t s m, W pl (es 0) out (lnOf hs) S t s m → VR w F (ρ.cut m) s (a.tmps.getD t undef)
  sz : nt ≤ a.tmps.size
  mks : Marks ρ F (Gh (hs γ) (Vis hs S β γ)) w B.lo a.defers
variable {B : Base} {S : Nat → Prop} {a : Act} {w w' : World} {ρ : Map} {F : Nat → Prop} {β γ : Nat}
/-- The operations that come before one that is about to be carried out are done; none that comes behind it is. -/
theorem J.before (R : Reg C rec f nt ops pl es hs out Ns) (j : J C nt ops pl es hs out Ns B S a w ρ F β γ) {i : Nat} (hcl : ∀ o, ops.toList[i]? = some o → ∀ e ∈ o.after, Region.binds .any e = true → S e.on) :
    ∀ k, ((before1 ops.toList).getD i 0).testBit k = true → S k := fun k h => bef_closed (fun k o hk => j.closed k o hk) i k hcl h
theorem J.behind (R : Reg C rec f nt ops pl es hs out Ns) (j : J C nt ops pl es hs out Ns B S a w ρ F β γ) {i : Nat} (hi : ¬ S i) : ∀ k, S k → ¬ ((before1 ops.toList).getD k 0).testBit i = true := fun k hk h =>
  hi (bef_closed (fun k o hk => j.closed k o hk) k i (fun o ho => j.closed k o hk ho) h)
/-- What an operation reads in its slots. -/
theorem J.slots (R : Reg C rec f nt ops pl es hs out Ns) (j : J C nt ops pl es hs out Ns B S a w ρ F β γ) {i : Nat} {o : Oper1} {d : Draw1} (hi : pl[i]? = some (o, d)) (hS : ¬ S i)
    (hcl : ∀ o, ops.toList[i]? = some o → ∀ e ∈ o.after, Region.binds .any e = true → S e.on) : ∀ t ∈ opTmps o, VR w F (ρ.cut (lnOf hs i)) (get (es i) t) (a.tmps.getD t undef) := by
  intro t ht
  have hlt := (List.getElem?_eq_some_iff.1 hi).1
  obtain ⟨m, h1, h2⟩ := R.w_upto t i (by omega)
  have bf := j.before R hcl
  have bh := j.behind R hS
  refine (j.vals t _ m ?_).mono (fun _ _ => rfl) (fun _ h => h) (cut_mono (Map.le_refl _) h2)
  rcases h1 with ⟨k, o', d', g1, g2, g3, g4, g5, g6⟩ | ⟨g1, g2, g3⟩
  · refine .inl ⟨k, o', d', g1, ?_, g3, fun k' o2 d2 k1 k2 k3 hd => ?_, g5, g6⟩
    · rcases R.dok.tmp k i _ _ g2 g1 hi with h | ⟨h, _⟩
      · exact bf k h
      · exact absurd ht (h t g3).1
    · by_cases e : k' < i
      · exact g4 k' o2 d2 k1 k2 e hd
      · have : k' ≠ i := fun e => hS (e ▸ k3)
        rcases R.dok.tmp i k' _ _ (by omega) hi k2 with h | ⟨_, h⟩
        · exact bh k' k3 h
        · exact h t hd ht
  · refine .inr ⟨fun k o2 d2 k2 k3 hd => ?_, g2, g3⟩
    by_cases e : k < i
    · exact g1 k o2 d2 k2 e hd
    · have : k ≠ i := fun e => hS (e ▸ k3)
      rcases R.dok.tmp i k _ _ (by omega) hi k2 with h | ⟨_, h⟩
      · exact bh k k3 h
      · exact h t hd ht
/-- The slots after an operation more. -/
theorem J.vals' (R : Reg C rec f nt ops pl es hs out Ns) (j : J C nt ops pl es hs out Ns B S a w ρ F β γ) {i : Nat} {o : Oper1} {d : Draw1} (hi : pl[i]? = some (o, d)) (hS : ¬ S i) {ρ' : Map} {F' : Nat → Prop} {val : Value}
    (hk : Keeps F w w') (hF : ∀ B, F B → F' B) (hle : ρ.le ρ') (hv : VR w' F' (ρ'.cut (lnOf hs (i + 1))) (out i) val) (hdst : ∀ d, o.dst = some d → d < nt) :
    ∀ t s m, W pl (es 0) out (lnOf hs) (fun k => S k ∨ k = i) t s m → VR w' F' (ρ'.cut m) s ((a.put o.dst val).tmps.getD t undef) := by
  intro t s m h
  have bh := j.behind R hS
  by_cases hd : o.dst = some t
  · have : s = out i ∧ m = lnOf hs (i + 1) := by
      rcases h with ⟨k, o', d', g1, g2, g3, g4, g5, g6⟩ | ⟨g1, g2, g3⟩
      · rcases g2 with g2 | g2
        · exfalso
          rcases Nat.lt_trichotomy k i with hk' | hk' | hk'
          · exact g4 i o d hk' hi (.inr rfl) hd
          · exact hS (hk' ▸ g2)
          · rcases R.dok.tmp i k _ _ hk' hi g1 with h | ⟨h, _⟩
            · exact bh k g2 h
            · exact (h t hd).2 g3
        · subst g2; exact ⟨g5, g6⟩
      · exact absurd hd (g1 i o d hi (.inr rfl))
    obtain ⟨rfl, rfl⟩ := this
    have hlt : t < a.tmps.size := Nat.lt_of_lt_of_le (hdst t hd) j.sz
    rw [hd]
    simpa [Act.put, hlt] using hv
  · have hput : (a.put o.dst val).tmps.getD t undef = a.tmps.getD t undef := by
      cases hq : o.dst with
      | none => rfl
      | some u =>
        have : u ≠ t := fun e => hd (by rw [hq, e])
        simp only [Act.put, Array.getD_eq_getD_getElem?, Array.getElem?_setIfInBounds_ne this]
    rw [hput]
    refine (j.vals t s m ?_).mono hk hF (cut_mono hle (Nat.le_refl _))
    rcases h with ⟨k, o', d', g1, g2, g3, g4, g5, g6⟩ | ⟨g1, g2, g3⟩
    · rcases g2 with g2 | g2
      · exact .inl ⟨k, o', d', g1, g2, g3, fun k' o2 d2 k1 k2 k3 => g4 k' o2 d2 k1 k2 (.inl k3), g5, g6⟩
      · subst g2; rw [hi] at g1; cases g1; exact absurd g3 hd
    · exact .inr ⟨fun k o2 d2 k2 k3 => g1 k o2 d2 k2 (.inl k3), g2, g3⟩
/-- The part of the heap that an operation sees. -/
theorem J.sub (R : Reg C rec f nt ops pl es hs out Ns) (j : J C nt ops pl es hs out Ns B S a w ρ F β γ) {i : Nat} (hi : i ≤ pl.length) {V : Heap} (hV : V.bl.length = lnOf hs i)
    (hl : ∀ (b : Nat) x, V.bl[b]? = some x → x.live = true → β ≤ i ∧ i ≤ γ ∧ Vis hs S β γ b ∧ (hs γ).bl[b]? = some x) : HR C (ρ.cut (lnOf hs i)) F V w := by
  have hown : ∀ b l, Own (ρ.cut (lnOf hs i)) V b l → Own ρ (Gh (hs γ) (Vis hs S β γ)) b l := by
    intro b l ⟨⟨x, h1, h2⟩, h3, h4⟩
    obtain ⟨_, _, g1, g2⟩ := hl b x h1 h2
    exact ⟨⟨x, gh_at g1 g2, h2⟩, (cut_lt h3).2, h4⟩
  refine ⟨fun b l h => by rw [hV]; exact (cut_lt h).1, fun b x hb hx => ?_, fun b b' l l' h h' => j.hr.apart b b' l l' (hown b l h) (hown b' l' h'), fun b l h => j.hr.own b l (hown b l h), j.hr.fro⟩
  obtain ⟨g0, g3, g1, g2⟩ := hl b x hb hx
  obtain ⟨l, h1, _⟩ := j.hr.live b x (gh_at g1 g2) hx
  have hbN : b < lnOf hs i := by rw [← hV]; exact (List.getElem?_eq_some_iff.1 hb).1
  refine ⟨l, by rw [cut_at hbN]; exact h1, ?_⟩
  rcases g1 with g1 | ⟨k, k1, k2, k3, k4, k5⟩
  · exact (j.brO b x l g1 g2 hx h1).mono (fun _ _ => rfl) (fun _ h => h) (cut_mono (Map.le_refl _) (R.mono g0 hi)) (fun _ => rfl)
  · have hki : k < i := by
      rcases Nat.lt_or_ge k i with h | h
      · exact h
      · have h1 := R.mono h (by have := j.leN; omega)
        exact absurd hbN (by show ¬ b < (hs i).bl.length; have : (hs k).bl.length ≤ b := k4; omega)
    exact (j.brN k b x l k1 k2 k3 k4 k5 g2 hx h1).mono (fun _ _ => rfl) (fun _ h => h) (cut_mono (Map.le_refl _) (R.mono hki hi)) (fun _ => rfl)
/-- AN OPERATION THAT WRITES NOTHING THAT WAS THERE. -/
theorem J.quiet (R : Reg C rec f nt ops pl es hs out Ns) (j : J C nt ops pl es hs out Ns B S a w ρ F β γ) {i : Nat} {o : Oper1} {d : Draw1} (hi : pl[i]? = some (o, d)) (hS : ¬ S i)
    (hcl : ∀ o, ops.toList[i]? = some o → ∀ e ∈ o.after, Region.binds .any e = true → S e.on) (hnb : d.kind ≠ .bar) {V V' : Heap} (hV : V.bl.length = lnOf hs i) (hVro : V.ro = lnOf hs i)
    (hV' : V'.bl.length = lnOf hs (i + 1)) (hesc : V'.esc = []) (hnew : ∀ b, lnOf hs i ≤ b → b < lnOf hs (i + 1) → V'.bl[b]? = (hs γ).bl[b]?)
    (hcase : lnOf hs (i + 1) = lnOf hs i ∨ (β ≤ i ∧ i < γ)) {val : Value} (hd : Done C (ρ.cut (lnOf hs i)) F V w (out i) V' val w') (hdst : ∀ d, o.dst = some d → d < nt) :
    ∃ ρ' F', J C nt ops pl es hs out Ns B (fun k => S k ∨ k = i) (a.put o.dst val) w' ρ' F' β γ := by
  obtain ⟨ρ2, F2, d1, d2, d3⟩ := hd
  have hlt := (List.getElem?_eq_some_iff.1 hi).1
  have m1 : lnOf hs i ≤ lnOf hs (i + 1) := R.mono1 hlt
  /- nothing that was there has turned -/
  have hfr : ∀ Bk, Bk < w.heap.size → w'.heap[Bk]? = w.heap[Bk]? := fun Bk hB => d3.frame Bk hB (fun b l ho hro => by
    have := (cut_lt ho.2.1).1
    rw [hVro] at hro; omega)
  have hk : Keeps F w w' := fun Bk hB => hfr Bk (j.hr.fro Bk hB)
  have hFF : ∀ B, F B → F2 B := d3.fro
  /- the map -/
  have e1 : ∀ b, b < lnOf hs i → ρ2 b = ρ b := by
    intro b hb
    cases h : ρ b with
    | some l =>
      obtain ⟨l', h1, h2⟩ := d3.map b l (by rw [cut_at hb]; exact h)
      rcases h2 with rfl | ⟨h2, _⟩
      · exact h1
      · rw [hVro] at h2; omega
    | none =>
      cases h' : ρ2 b with
      | none => rfl
      | some l' =>
        rcases d3.nd b l' h' with ⟨l, h1⟩ | h1
        · rw [cut_at hb, h] at h1; cases h1
        · rw [hV] at h1; omega
  have e2 : ∀ b l, ρ2 b = some l → b < lnOf hs (i + 1) := fun b l h => by rw [← hV']; exact d2.dom b l h
  have hout : ∀ b, Vis hs S β γ b → ¬ (lnOf hs i ≤ b ∧ b < lnOf hs (i + 1)) := by
    rintro b hv ⟨h1, h2⟩
    rcases hcase with hc | ⟨hc1, hc2⟩
    · omega
    · rcases hv with h | ⟨k, k1, k2, k3, k4, k5⟩
      · have : lnOf hs β ≤ lnOf hs i := R.mono hc1 (by omega)
        omega
      · rcases Nat.lt_trichotomy k i with h | h | h
        · have : lnOf hs (k + 1) ≤ lnOf hs i := R.mono h (by omega)
          omega
        · exact hS (h ▸ k1)
        · have : lnOf hs (i + 1) ≤ lnOf hs k := R.mono h (by have := j.leN; omega)
          omega
  let ρ' : Map := fun b => if lnOf hs i ≤ b ∧ b < lnOf hs (i + 1) then ρ2 b else ρ b
  have r1 : ∀ b, lnOf hs i ≤ b → b < lnOf hs (i + 1) → ρ' b = ρ2 b := fun b h h' => if_pos ⟨h, h'⟩
  have r2 : ∀ b, ¬ (lnOf hs i ≤ b ∧ b < lnOf hs (i + 1)) → ρ' b = ρ b := fun b h => if_neg h
  have le1 : ρ.le ρ' := fun b l h => ⟨l, by rw [r2 b (hout b (j.dom b l h))]; exact h, .inl rfl⟩
  have le2 : ρ2.le (ρ'.cut (lnOf hs (i + 1))) := fun b l h => by
    have hb := e2 b l h
    refine ⟨l, ?_, .inl rfl⟩
    rw [cut_at hb]
    by_cases hb' : lnOf hs i ≤ b
    · rw [r1 b hb' hb]; exact h
    · rw [r2 b (fun h => hb' h.1), ← e1 b (by omega)]; exact h
  have vis : ∀ b, Vis hs (fun k => S k ∨ k = i) β γ b → Vis hs S β γ b ∨ ((lnOf hs i ≤ b ∧ b < lnOf hs (i + 1)) ∧ β ≤ i ∧ i < γ) := by
    intro b h
    rcases h with h | ⟨k, k1, k2, k3, k4, k5⟩
    · exact .inl (.inl h)
    · rcases k1 with k1 | rfl
      · exact .inl (.inr ⟨k, k1, k2, k3, k4, k5⟩)
      · exact .inr ⟨⟨k4, k5⟩, k2, k3⟩
  have vis1 : ∀ b, Vis hs S β γ b → Vis hs (fun k => S k ∨ k = i) β γ b := by
    intro b h
    rcases h with h | ⟨k, k1, k2, k3, k4, k5⟩
    · exact .inl h
    · exact .inr ⟨k, .inl k1, k2, k3, k4, k5⟩
  have newlive : ∀ (b : Nat) x l, lnOf hs i ≤ b → b < lnOf hs (i + 1) → (hs γ).bl[b]? = some x → x.live = true → ρ2 b = some l → Own ρ2 V' b l ∨ l.virt = true := by
    intro b x l h1 h2 h3 h4 h5
    cases hv : l.virt with
    | true => exact .inr rfl
    | false => exact .inl ⟨⟨x, by rw [hnew b h1 h2]; exact h3, h4⟩, h5, hv⟩
  have newblk : ∀ b l, Own ρ2 V' b l → lnOf hs i ≤ b → w.heap.size ≤ l.blk := by
    intro b l ho hb
    rcases d3.old b l ho with h | ⟨l0, h, _⟩
    · exact h
    · have := (cut_lt h.2.1).1; omega
  have own' : ∀ b l, Own ρ' (Gh (hs γ) (Vis hs (fun k => S k ∨ k = i) β γ)) b l → Own ρ (Gh (hs γ) (Vis hs S β γ)) b l ∨ (Own ρ2 V' b l ∧ lnOf hs i ≤ b) := by
    intro b l ⟨⟨x, h1, h2⟩, h3, h4⟩
    obtain ⟨g1, g2⟩ := gh_live h1 h2
    rcases vis b g1 with g1 | ⟨⟨g3, g4⟩, _⟩
    · rw [r2 b (hout b g1)] at h3
      exact .inl ⟨⟨x, gh_at g1 g2, h2⟩, h3, h4⟩
    · rw [r1 b g3 g4] at h3
      exact .inr ⟨⟨⟨x, by rw [hnew b g3 g4]; exact g2, h2⟩, h3, h4⟩, g3⟩
  have oldsame : ∀ b l, Own ρ (Gh (hs γ) (Vis hs S β γ)) b l → w'.heap[l.blk]? = w.heap[l.blk]? := fun b l ho => hfr _ (j.hr.own b l ho).2
  have hr' : HR C ρ' F2 (Gh (hs γ) (Vis hs (fun k => S k ∨ k = i) β γ)) w' := by
    refine ⟨fun b l h => ?_, fun b x hb hx => ?_, fun b b' l l' h h' he => ?_, fun b l ho => ?_, d2.fro⟩
    · rw [gh_len]
      by_cases hb : lnOf hs i ≤ b ∧ b < lnOf hs (i + 1)
      · rcases hcase with hc | ⟨hc1, hc2⟩
        · omega
        · have : lnOf hs (i + 1) ≤ lnOf hs γ := R.mono hc2 j.leN
          exact Nat.lt_of_lt_of_le hb.2 this
      · rw [r2 b hb] at h
        have := j.hr.dom b l h
        rwa [gh_len] at this
    · obtain ⟨g1, g2⟩ := gh_live hb hx
      rcases vis b g1 with g1 | ⟨⟨g3, g4⟩, _⟩
      · obtain ⟨l, h1, h2⟩ := j.hr.live b x (gh_at g1 g2) hx
        exact ⟨l, by rw [r2 b (hout b g1)]; exact h1, h2.mono hk hFF le1 (fun hv => oldsame b l ⟨⟨x, gh_at g1 g2, hx⟩, h1, hv⟩)⟩
      · obtain ⟨l, h1, h2⟩ := d2.live b x (by rw [hnew b g3 g4]; exact g2) hx
        exact ⟨l, by rw [r1 b g3 g4]; exact h1, h2.mono (fun _ _ => rfl) (fun _ h => h) (Map.le_trans le2 (Map.cut_le _ _)) (fun _ => rfl)⟩
    · rcases own' b l h with o1 | ⟨o1, p1⟩ <;> rcases own' b' l' h' with o2 | ⟨o2, p2⟩
      · exact j.hr.apart b b' l l' o1 o2 he
      · have := (j.hr.own b l o1).2
        have := newblk b' l' o2 p2
        omega
      · have := (j.hr.own b' l' o2).2
        have := newblk b l o1 p1
        omega
      · exact d2.apart b b' l l' o1 o2 he
    · rcases own' b l ho with o1 | ⟨o1, p1⟩
      · have h1 := j.hr.own b l o1
        refine ⟨fun hF => ?_, Nat.lt_of_lt_of_le h1.2 d3.size⟩
        rcases d3.new _ hF with h | h | ⟨b0, l0, h2, h3, _⟩
        · exact h1.1 h
        · omega
        · have := (cut_lt h2.2.1).1
          rw [hVro] at h3; omega
      · exact d2.own b l o1
  have ext' : Ext0 C ρ F (Gh (hs γ) (Vis hs S β γ)) w ρ' F2 (Gh (hs γ) (Vis hs (fun k => S k ∨ k = i) β γ)) w' := by
    refine ⟨fun b l h => ⟨l, by rw [r2 b (hout b (j.dom b l h))]; exact h, .inl rfl⟩, hFF, fun Bk hB => ?_, fun Bk hB _ => hfr Bk hB, d3.size, fun b l ho => ?_, rfl, fun _ h => h, fun N hN hc h0 b x l hbN hx hxl hl => ?_, d3.lp, by rw [gh_len, gh_len]; exact Nat.le_refl _, d3.out⟩
    · rcases d3.new Bk hB with h | h | ⟨b0, l0, h2, h3, _⟩
      · exact .inl h
      · exact .inr (.inl h)
      · have := (cut_lt h2.2.1).1
        rw [hVro] at h3; omega
    · rcases own' b l ho with o1 | ⟨o1, p1⟩
      · exact .inr ⟨l, o1, rfl⟩
      · exact .inl (newblk b l o1 p1)
    · obtain ⟨g1, g2⟩ := gh_live hx hxl
      rcases vis b g1 with g1 | ⟨⟨g3, g4⟩, _⟩
      · rw [r2 b (hout b g1)] at hl
        have := h0 (by rw [gh_len] at hN ⊢; exact hN) b x l hbN (gh_at g1 g2) hxl hl
        exact this.mono hk hFF (cut_mono le1 (Nat.le_refl _)) (fun hv => oldsame b l ⟨⟨x, gh_at g1 g2, hxl⟩, hl, hv⟩)
      · rw [r1 b g3 g4] at hl
        have hb' : V'.bl[b]? = some x := by rw [hnew b g3 g4]; exact g2
        by_cases hNl : lnOf hs (i + 1) ≤ N
        · obtain ⟨l2, h2, h3⟩ := d2.live b x hb' hxl
          rw [hl] at h2; cases h2
          exact h3.mono (fun _ _ => rfl) (fun _ h => h) (Map.le_trans le2 (cut_mono (Map.le_refl _) hNl)) (fun _ => rfl)
        · have := d3.inv N (by rw [hV']; omega) (by rw [hesc]; intro p hp; cases hp) (fun h => by rw [hV] at h; omega) b x l hbN hb' hxl hl
          refine this.mono (fun _ _ => rfl) (fun _ h => h) (fun b1 l1 h1 => ?_) (fun _ => rfl)
          obtain ⟨q1, q2⟩ := cut_lt h1
          obtain ⟨l3, q3, q4⟩ := le2 b1 l1 q2
          refine ⟨l3, ?_, q4⟩
          rw [cut_at q1]
          exact (cut_lt q3).2
  have ext2 : Ext C B.ρ B.F B.H B.w ρ' F2 (Gh (hs γ) (Vis hs (fun k => S k ∨ k = i) β γ)) w' := by
    refine ⟨j.ext.toExt0.trans ext', fun b l h => ?_⟩
    by_cases hb : lnOf hs i ≤ b ∧ b < lnOf hs (i + 1)
    · rcases hcase with hc | ⟨hc1, hc2⟩
      · omega
      · have h1 : lnOf hs β ≤ lnOf hs i := R.mono hc1 (by omega)
        have := j.lnB
        exact .inr (by omega)
    · rw [r2 b hb] at h
      exact j.ext.nd b l h
  refine ⟨ρ', F2, ⟨?_, j.le, j.leN, j.nobar, j.atg, fun k hk1 hk2 => .inl (j.pre k hk1 hk2), ?_, j.nsb, j.offb, j.lnB, hr', ?_, ?_, ?_, ext2, ?_, ?_, ?_⟩⟩
  · intro k o' hk' ho' e he hb
    rcases hk' with hk' | rfl
    · exact .inl (j.closed k o' hk' ho' e he hb)
    · exact .inl (hcl o' ho' e he hb)
  · intro k hk1 hk2
    rcases hk2 with hk2 | rfl
    · exact j.post k hk1 hk2
    · rw [dr_at hi]; exact hnb
  · intro b l h
    by_cases hb : lnOf hs i ≤ b ∧ b < lnOf hs (i + 1)
    · rcases hcase with hc | ⟨hc1, hc2⟩
      · omega
      · exact .inr ⟨i, .inr rfl, hc1, hc2, hb.1, hb.2⟩
    · rw [r2 b hb] at h
      exact vis1 b (j.dom b l h)
  · intro b x l hb hbx hx hl
    rw [r2 b (hout b (.inl hb))] at hl
    exact (j.brO b x l hb hbx hx hl).mono hk hFF (cut_mono le1 (Nat.le_refl _)) (fun hv => oldsame b l ⟨⟨x, gh_at (.inl hb) hbx, hx⟩, hl, hv⟩)
  · intro k b x l k1 k2 k3 k4 k5 hbx hx hl
    by_cases hki : k = i
    · subst hki
      rw [r1 b k4 k5] at hl
      obtain ⟨l2, h2, h3⟩ := d2.live b x (by rw [hnew b k4 k5]; exact hbx) hx
      rw [hl] at h2; cases h2
      exact h3.mono (fun _ _ => rfl) (fun _ h => h) le2 (fun _ => rfl)
    · have k1' : S k := k1.resolve_right hki
      have hv : Vis hs S β γ b := .inr ⟨k, k1', k2, k3, k4, k5⟩
      rw [r2 b (hout b hv)] at hl
      exact (j.brN k b x l k1' k2 k3 k4 k5 hbx hx hl).mono hk hFF (cut_mono le1 (Nat.le_refl _)) (fun hv' => oldsame b l ⟨⟨x, gh_at hv hbx, hx⟩, hl, hv'⟩)
  · exact j.vals' R hi hS hk hFF le1 (d1.mono (fun _ _ => rfl) (fun _ h => h) le2) hdst
  · cases o.dst with
    | none => exact j.sz
    | some u => simpa [Act.put] using j.sz
  · have : (a.put o.dst val).defers = a.defers := by cases o.dst <;> rfl
    rw [this]
    exact j.mks.ext ext'
/-- Everything is seen. -/
theorem J.full (R : Reg C rec f nt ops pl es hs out Ns) (j : J C nt ops pl es hs out Ns B S a w ρ F β γ) (hall : ∀ k, k < γ → (dr pl k).kind ≠ .pure → S k) : Gh (hs γ) (Vis hs S β γ) = hs γ := by
  have hv : ∀ b, b < lnOf hs γ → Vis hs S β γ b := by
    intro b hb
    by_cases h0 : b < lnOf hs β
    · exact .inl h0
    · have key : ∀ m, β + m ≤ γ → b < lnOf hs (β + m) → ∃ k, β ≤ k ∧ k < γ ∧ lnOf hs k ≤ b ∧ b < lnOf hs (k + 1) := by
        intro m
        induction m with
        | zero => intro _ h; exact absurd h h0
        | succ m ih =>
          intro h1 h2
          by_cases h3 : b < lnOf hs (β + m)
          · exact ih (by omega) h3
          · exact ⟨β + m, by omega, by omega, by omega, h2⟩
      obtain ⟨k, k1, k2, k3, k4⟩ := key (γ - β) (by have := j.le; omega) (by rwa [show β + (γ - β) = γ by have := j.le; omega])
      refine .inr ⟨k, hall k k2 (fun hp => ?_), k1, k2, k3, k4⟩
      obtain ⟨o, d, h⟩ := at_lt (pl := pl) (i := k) (by have := j.leN; omega)
      rw [dr_at h] at hp
      obtain ⟨X, g1, g2, _⟩ := R.step_nb h (by rw [hp]; simp)
      rw [(R.dok.pur k o d h hp).2] at g2
      have : lnOf hs (k + 1) = lnOf hs k := by
        unfold lnOf; rw [g1]; simp [List.eq_nil_of_length_eq_zero g2]
      omega
  have : (Gh (hs γ) (Vis hs S β γ)).bl = (hs γ).bl := by
    apply List.ext_getElem?
    intro b
    cases hb : (hs γ).bl[b]? with
    | none =>
      rw [List.getElem?_eq_none_iff] at hb ⊢
      rw [gh_len]; exact hb
    | some x => exact gh_at (hv b (List.getElem?_eq_some_iff.1 hb).1) hb
  unfold Gh at this ⊢
  simp only at this
  rw [this]
theorem next_bar (pl : List (Oper1 × Draw1)) : ∀ (m β : Nat), β + m = pl.length → ∃ γ, β ≤ γ ∧ γ ≤ pl.length ∧ (∀ j, β ≤ j → j < γ → (dr pl j).kind ≠ .bar) ∧ (γ = pl.length ∨ (dr pl γ).kind = .bar)
  | 0, β, h => ⟨β, Nat.le_refl _, by omega, fun j h1 h2 => by omega, .inl (by omega)⟩
  | m + 1, β, h => by
    by_cases hb : (dr pl β).kind = .bar
    · exact ⟨β, Nat.le_refl _, by omega, fun j h1 h2 => by omega, .inr hb⟩
    · obtain ⟨γ, h1, h2, h3, h4⟩ := next_bar pl m (β + 1) (by omega)
      refine ⟨γ, by omega, h2, fun j k1 k2 => ?_, h4⟩
      by_cases e : j = β
      · subst e; exact hb
      · exact h3 j (by omega) k2
/-- A new segment begins. -/
theorem J.begin (R : Reg C rec f nt ops pl es hs out Ns) {B : Base} {S : Nat → Prop} {a : Act} {w : World} {ρ : Map} {F : Nat → Prop} {β : Nat} (hβ : β ≤ pl.length)
    (closed : ∀ (k : Nat) o, S k → ops.toList[k]? = some o → ∀ e ∈ o.after, Region.binds .any e = true → S e.on) (pre : ∀ j, j < β → (dr pl j).kind ≠ .pure → S j) (post : ∀ j, β ≤ j → S j → (dr pl j).kind = .pure)
    (nsb : Ns β = lnOf hs β) (offb : β < pl.length → (dr pl β).offs = 0) (hr : HR C ρ F (hs β) w) (ext : Ext C B.ρ B.F B.H B.w ρ F (hs β) w) (vals : ∀ t s m, W pl (es 0) out (lnOf hs) S t s m → VR w F (ρ.cut m) s (a.tmps.getD t undef))
    (sz : nt ≤ a.tmps.size) (mk : Marks ρ F (hs β) w B.lo a.defers) : ∃ γ, J C nt ops pl es hs out Ns B S a w ρ F β γ := by
  obtain ⟨γ, h1, h2, h3, h4⟩ := next_bar pl (pl.length - β) β (by omega)
  obtain ⟨X, g1, _⟩ := R.seg' h1 h2 h3
  have novis : ∀ k, S k → β ≤ k → k < γ → lnOf hs (k + 1) = lnOf hs k := by
    intro k k1 k2 k3
    obtain ⟨o, d, h⟩ := at_lt (pl := pl) (i := k) (by omega)
    have hp := post k k2 k1
    rw [dr_at h] at hp
    obtain ⟨Y, q1, q2, _⟩ := R.step_nb h (by rw [hp]; simp)
    rw [(R.dok.pur k o d h hp).2] at q2
    unfold lnOf; rw [q1]; simp [List.eq_nil_of_length_eq_zero q2]
  have hv : ∀ b, Vis hs S β γ b → b < lnOf hs β := by
    intro b h
    rcases h with h | ⟨k, k1, k2, k3, k4, k5⟩
    · exact h
    · have := novis k k1 k2 k3; omega
  have hb : ∀ (b : Nat) x, x.live = true → ((Gh (hs γ) (Vis hs S β γ)).bl[b]? = some x ↔ (hs β).bl[b]? = some x) := by
    intro b x hx
    constructor
    · intro h
      obtain ⟨q1, q2⟩ := gh_live h hx
      rw [g1] at q2
      rwa [List.getElem?_append_left (hv b q1)] at q2
    · intro h
      have hlt := (List.getElem?_eq_some_iff.1 h).1
      refine gh_at (.inl hlt) ?_
      rw [g1]
      simp only
      rw [List.getElem?_append_left hlt]; exact h
  have hlen : (hs β).bl.length ≤ (Gh (hs γ) (Vis hs S β γ)).bl.length := by rw [gh_len]; exact R.mono h1 h2
  obtain ⟨p1, p2⟩ := hr.pad hb hlen (by simp [Gh, g1]) (by simp [Gh, g1])
  refine ⟨γ, ⟨closed, h1, h2, h3, h4, pre, fun j k1 k2 => by rw [post j k1 k2]; simp, nsb, offb, ext.ln, p1, fun b l h => .inl (hr.dom b l h), fun b x l hb' hbx hx hl => ?_, fun k b x l k1 k2 k3 k4 k5 => ?_, ext.trans p2, vals, sz, mk.ext p2.toExt0⟩⟩
  · rw [g1] at hbx
    simp only at hbx
    rw [List.getElem?_append_left hb'] at hbx
    obtain ⟨l2, q2, q3⟩ := hr.live b x hbx hx
    rw [hl] at q2; cases q2
    exact q3.mono (fun _ _ => rfl) (fun _ h => h) (fun b1 l1 h => ⟨l1, by rw [cut_at (hr.dom b1 l1 h)]; exact h, .inl rfl⟩) (fun _ => rfl)
  · have := novis k k1 k2 k3; omega
/-- AN OPERATION BEFORE OR BEHIND WHICH EVERY OTHER COMES. -/
theorem J.bar (R : Reg C rec f nt ops pl es hs out Ns) (j : J C nt ops pl es hs out Ns B S a w ρ F β γ) {i : Nat} {o : Oper1} {d : Draw1} (hi : pl[i]? = some (o, d)) (hS : ¬ S i)
    (hcl : ∀ o, ops.toList[i]? = some o → ∀ e ∈ o.after, Region.binds .any e = true → S e.on) (hb : d.kind = .bar) (hdst : ∀ d, o.dst = some d → d < nt) :
    HR C ρ F (hs i) w ∧ ∀ val w', Done C ρ F (hs i) w (out i) (hs (i + 1)) val w' → ∃ ρ' F' β' γ', J C nt ops pl es hs out Ns B (fun k => S k ∨ k = i) (a.put o.dst val) w' ρ' F' β' γ' := by
  have hlt := (List.getElem?_eq_some_iff.1 hi).1
  have bf := j.before R hcl
  have bh := j.behind R hS
  have hdi : (dr pl i).kind = .bar := by rw [dr_at hi]; exact hb
  have lt := bef_lt R.dok.edge
  have h1 : β ≤ i := by
    rcases Nat.lt_or_ge i β with h | h
    · exact absurd (j.pre i h (by rw [hdi]; simp)) hS
    · exact h
  have hall : ∀ k, k < i → (dr pl k).kind ≠ .pure → S k := by
    intro k hk hp
    rcases R.dok.bar i k hlt (by omega) hdi hp with h | h | h
    · omega
    · have := lt k i h; omega
    · exact bf k h
  have h2 : i = γ := by
    rcases Nat.lt_trichotomy i γ with h | h | h
    · exact absurd hdi (j.nobar i h1 h)
    · exact h
    · rcases j.atg with h' | h'
      · omega
      · exact absurd h' (j.post γ j.le (hall γ h (by rw [h']; simp)))
  subst h2
  have hG := j.full R hall
  have hr := j.hr
  rw [hG] at hr
  refine ⟨hr, fun val w' hd => ?_⟩
  obtain ⟨ρ2, F2, d1, d2, d3⟩ := hd
  have hext := j.ext
  rw [hG] at hext
  have hmk := j.mks
  rw [hG] at hmk
  obtain ⟨γ', h⟩ := J.begin R (B := B) (S := fun k => S k ∨ k = i) (a := a.put o.dst val) (w := w') (ρ := ρ2) (F := F2) (β := i + 1) (by omega)
    (fun k o' hk' ho' e he hbd => by
      rcases hk' with hk' | rfl
      · exact .inl (j.closed k o' hk' ho' e he hbd)
      · exact .inl (hcl o' ho' e he hbd))
    (fun k hk hp => by
      by_cases e : k = i
      · exact .inr e
      · exact .inl (hall k (by omega) hp))
    (fun k hk hSk => by
      have hSk : S k := hSk.resolve_right (by omega)
      apply Classical.byContradiction
      intro hp
      have hkl : k < pl.length := by
        rcases Nat.lt_or_ge k pl.length with h | h
        · exact h
        · exact absurd (by unfold dr; rw [List.getElem?_eq_none h]; rfl) hp
      rcases R.dok.bar i k hlt hkl hdi hp with h | h | h
      · omega
      · exact bh k hSk h
      · have := lt i k h; omega)
    (by rw [R.tr.nx i o d hi]; unfold nextN; rw [hb])
    (fun h => by
      rw [R.dok.offsS i h, isBar_iff.2 hdi]; rfl)
    d2 (hext.trans d3)
    (j.vals' R hi hS (d3.keeps hr) d3.fro d3.le (d1.mono (fun _ _ => rfl) (fun _ h => h) (fun b l h => ⟨l, by rw [cut_at (d2.dom b l h)]; exact h, .inl rfl⟩)) hdst)
    (by cases o.dst with
      | none => exact j.sz
      | some u => simpa [Act.put] using j.sz)
    (by
      have : (a.put o.dst val).defers = a.defers := by cases o.dst <;> rfl
      rw [this]
      exact hmk.ext d3.toExt0)
  exact ⟨ρ2, F2, i + 1, γ', h⟩
/-! ### The whole region -/
theorem hide1_len (N : Nat) : ∀ (ds : List Nat) (l : List SBlk), (hide1 N ds l).length = l.length
  | [], _ => rfl
  | d :: ds, l => by
    have := hide1_len N ds (l.set (N + d) .dead)
    unfold hide1 at this ⊢
    simpa using this
theorem hide1_live (N : Nat) : ∀ (ds : List Nat) (l : List SBlk) (b : Nat) (x : SBlk), (hide1 N ds l)[b]? = some x → x.live = true → l[b]? = some x ∧ ∀ d ∈ ds, b ≠ N + d
  | [], l, b, x, h, _ => ⟨h, by simp⟩
  | d :: ds, l, b, x, h, hx => by
    obtain ⟨h1, h2⟩ := hide1_live N ds (l.set (N + d) .dead) b x (by unfold hide1 at h ⊢; simpa using h) hx
    have hne : b ≠ N + d := by
      intro e
      rw [← e] at h1
      have hlt := (List.getElem?_eq_some_iff.1 h1).1
      simp at hlt
      simp [hlt] at h1
      subst h1; cases hx
    rw [List.getElem?_set_ne (Ne.symm hne)] at h1
    exact ⟨h1, fun d' hd' => by
      rcases List.mem_cons.1 hd' with rfl | hd'
      · exact hne
      · exact h2 d' hd'⟩
theorem er_live {o : Oper1} {e : Env} {tmps : Array Value} {F : Nat → Prop} {ρ : Map} {w : World} (h : ∀ t ∈ opTmps o, VR w F ρ (get e t) (tmps.getD t undef)) : ER w F ρ (live1 (opTmps o) e) tmps := by
  intro t
  rw [get_live]
  cases hm : (opTmps o).contains t with
  | false => exact .undef _
  | true => exact h t (by simpa using hm)
theorem step1_live {o : Oper1} {e : Env} {H : Heap} : step1 rec (live1 (opTmps o) e) H o.op = step1 rec e H o.op :=
  step1_congr (fun t ht => by rw [get_live]; simp [ht])
/-- One operation of the region, whichever is ready. -/
theorem J.step (hrec : RecOK C rec) (R : Reg C rec f nt ops pl es hs out Ns) (j : J C nt ops pl es hs out Ns B S a w ρ F β γ) {i : Nat} (hi : i < pl.length) (hS : ¬ S i)
    (hcl : ∀ o, ops.toList[i]? = some o → ∀ e ∈ o.after, Region.binds .any e = true → S e.on) {ro : Option Nat} {n : Nat} {Q : Exit → Act → World → Prop} {K : Act → World → Prop}
    (hK : ∀ a' w' ρ' F' β' γ', J C nt ops pl es hs out Ns B (fun k => S k ∨ k = i) a' w' ρ' F' β' γ' → K a' w') : wpOpIn (WF ro) n C.P ops Q i K a w := by
  obtain ⟨o, d, ho⟩ := at_lt hi
  obtain ⟨op, hop, hco⟩ := R.hop i o d ho
  unfold wpOpIn
  simp only [hop]
  unfold coper at hco
  replace hco := bif_none hco
  obtain ⟨hdst, hco⟩ := hco
  have hdst' : ∀ d, op.dst = some d → d < nt := fun d hd => by rw [hd] at hdst; simpa using hdst
  have hslots := j.slots R ho hS hcl
  /- the operation, carried out -/
  have go : ∀ (hd : op.dst = o.dst) (hopo : o.op = lit1 (match op.dst with | some d => C.pol.lit f d | none => false) ((cop C.P op.op).getD .bad)), step1d rec (Ns i) d (es i) (hs i) o.op = some (out i, hs (i + 1)) → op.wpIn (WF ro) n C.P a w K Q := by
    intro hd hopo hst
    unfold step1d at hst
    split at hst
    · rename_i hk
      obtain ⟨g1, g2⟩ := R.dok.pur i o d ho hk
      obtain ⟨g3, g4⟩ := pure_op g1 hst
      have hr := j.sub R (i := i) (V := { bl := List.replicate (lnOf hs i) .dead, esc := [], ro := lnOf hs i }) (by omega) (by simp) (fun b x hb hx => by
        simp only [List.getElem?_replicate] at hb
        split at hb
        · cases hb; cases hx
        · cases hb)
      have hs1 := g4 { bl := List.replicate (lnOf hs i) .dead, esc := [], ro := lnOf hs i }
      rw [← step1_live] at hs1
      refine step1_lit hrec hopo hs1 hr (er_live hslots) (fun val w' hdn => ?_)
      have hln : lnOf hs (i + 1) = lnOf hs i := by unfold lnOf; rw [g3]
      obtain ⟨ρ', F', h⟩ := j.quiet R ho hS hcl (by rw [hk]; simp) (by simp) rfl (by simp [hln]) rfl (fun b h1 h2 => by omega) (.inl hln) hdn (fun d h => hdst' d (by rw [hd]; exact h))
      rw [hd]
      exact hK _ _ _ _ _ _ h
    · rename_i hk
      simp only [Option.bind_eq_some_iff] at hst
      obtain ⟨r, h1, h2⟩ := hst
      replace h2 := bif_some h2
      obtain ⟨_, h2⟩ := h2
      cases h2
      obtain ⟨hr, hfin⟩ := j.bar R ho hS hcl hk (fun d h => hdst' d (by rw [hd]; exact h))
      rw [← step1_live] at h1
      refine step1_lit hrec hopo h1 hr (er_live (fun t ht => (hslots t ht).mono (fun _ _ => rfl) (fun _ h => h) (Map.cut_le _ _))) (fun val w' hdn => ?_)
      obtain ⟨ρ', F', β', γ', h⟩ := hfin val w' hdn
      rw [hd]
      exact hK _ _ _ _ _ _ h
    · rename_i hk
      simp only [Option.bind_eq_some_iff] at hst
      obtain ⟨r, h1, h2⟩ := hst
      replace h2 := bif_some h2
      obtain ⟨h3, h2⟩ := h2
      simp only [Bool.and_eq_true, beq_iff_eq, List.isEmpty_iff] at h3
      obtain ⟨h3, h4⟩ := h3
      simp only [Option.some.injEq, Prod.mk.injEq] at h2
      obtain ⟨h5, h6⟩ := h2
      obtain ⟨s, V'⟩ := r
      simp only at h1 h3 h4 h5 h6
      subst h5
      have hdi : (dr pl i).kind = .seg := by rw [dr_at ho]; exact hk
      have bf := j.before R hcl
      have bh := j.behind R hS
      have lt := bef_lt R.dok.edge
      have hβ : β ≤ i := by
        rcases Nat.lt_or_ge i β with h | h
        · exact absurd (j.pre i h (by rw [hdi]; simp)) hS
        · exact h
      have hnb : ∀ g, β ≤ g → g < i → (dr pl g).kind ≠ .bar := by
        intro g hg1 hg2 hgb
        rcases R.dok.bar g i (by omega) hi hgb (by rw [hdi]; simp) with h | h | h
        · omega
        · exact absurd hgb (j.post g hg1 (bf g h))
        · have := lt g i h; omega
      have hγ : i < γ := by
        rcases Nat.lt_or_ge i γ with h | h
        · exact h
        · exfalso
          rcases j.atg with h' | h'
          · omega
          · have : γ ≠ i := fun e => by rw [e, hdi] at h'; cases h'
            exact hnb γ j.le (by omega) h'
      obtain ⟨X, q1, q2⟩ := R.seg' hβ (by omega) hnb
      obtain ⟨Y, q3, _⟩ := R.seg' (show i ≤ γ by omega) j.leN (fun m h1 h2 => j.nobar m (by omega) h2)
      obtain ⟨Z, q4, _⟩ := R.seg' (show i + 1 ≤ γ by omega) j.leN (fun m h1 h2 => j.nobar m (by omega) h2)
      have hNs : Ns i = lnOf hs β := by rw [q2, j.nsb]
      have hoff : ∀ k, β ≤ k → k < i → lnOf hs k = lnOf hs β + (dr pl k).offs := fun k k1 k2 => by
        have := R.offs (j.offb (by omega)) (k - β) (fun m h1 h2 => hnb m h1 (by omega)) (by omega)
        rwa [show β + (k - β) = k by omega] at this
      have hlive : ∀ (b : Nat) x, (hide1 (Ns i) d.hide (hs i).bl)[b]? = some x → x.live = true → β ≤ i ∧ i ≤ γ ∧ Vis hs S β γ b ∧ (hs γ).bl[b]? = some x := by
        intro b x hb hx
        obtain ⟨u1, u2⟩ := hide1_live _ _ _ _ _ hb hx
        have hblt : b < lnOf hs i := (List.getElem?_eq_some_iff.1 u1).1
        refine ⟨hβ, by omega, ?_, by rw [q3]; simp only; rw [List.getElem?_append_left hblt]; exact u1⟩
        by_cases h0 : b < lnOf hs β
        · exact .inl h0
        · have key : ∀ m, β + m ≤ i → b < lnOf hs (β + m) → ∃ k, β ≤ k ∧ k < i ∧ lnOf hs k ≤ b ∧ b < lnOf hs (k + 1) := by
            intro m
            induction m with
            | zero => intro _ h; exact absurd h h0
            | succ m ih =>
              intro h1 h2
              by_cases h3 : b < lnOf hs (β + m)
              · exact ih (by omega) h3
              · exact ⟨β + m, by omega, by omega, by omega, h2⟩
          obtain ⟨k, k1, k2, k3, k4⟩ := key (i - β) (by omega) (by rwa [show β + (i - β) = i by omega])
          refine .inr ⟨k, ?_, k1, by omega, k3, k4⟩
          obtain ⟨ok, dk, hk'⟩ := at_lt (pl := pl) (i := k) (by omega)
          have hnbk : dk.kind ≠ .bar := by have := hnb k k1 k2; rwa [dr_at hk'] at this
          obtain ⟨Yk, y1, y2, _⟩ := R.step_nb hk' hnbk
          have hlk : lnOf hs (k + 1) = lnOf hs k + dk.nal := by unfold lnOf; rw [y1]; simp [y2]
          cases hkk : dk.kind with
          | bar => exact absurd hkk hnbk
          | pure => have := (R.dok.pur k ok dk hk' hkk).2; omega
          | seg =>
            rcases R.dok.hide i hi hdi k k2 (by rw [dr_at hk']; exact hkk) with ⟨m, m1, m2, m3⟩ | h | h
            · exact absurd m3 (hnb m (by omega) m2)
            · exact bf k h
            · exfalso
              have ho' := hoff k k1 k2
              rw [dr_at hk'] at h ho'
              have := h (b - lnOf hs k) (by omega)
              rw [dr_at ho] at this
              exact u2 _ this (by rw [hNs]; omega)
      have hr := j.sub R (i := i) (V := { bl := hide1 (Ns i) d.hide (hs i).bl, esc := [], ro := (hs i).bl.length }) (by omega) (by rw [hide1_len]) hlive
      rw [← step1_live] at h1
      refine step1_lit hrec hopo h1 hr (er_live hslots) (fun val w' hdn => ?_)
      have hln : lnOf hs (i + 1) = lnOf hs i + d.nal := by
        unfold lnOf; rw [← h6]; simp; omega
      obtain ⟨ρ', F', h⟩ := j.quiet R ho hS hcl (by rw [hk]; simp) (by rw [hide1_len]) rfl (by rw [h3, hln]) h4 (fun b b1 b2 => by
          rw [q4]
          simp only
          rw [List.getElem?_append_left b2, ← h6]
          simp only
          rw [List.getElem?_append_right b1, List.getElem?_drop]
          congr 1
          have : lnOf hs i = (hs i).bl.length := rfl
          omega) (.inr ⟨hβ, hγ⟩) hdn (fun d h => hdst' d (by rw [hd]; exact h))
      rw [hd]
      exact hK _ _ _ _ _ _ h
  /- the operation, passed over -/
  have pass : ∀ (hd : op.dst = o.dst), skip1 d = true → out i = .skp → hs (i + 1) = hs i → K (a.put op.dst undef) w := by
    intro hd hsk ho' hh
    have hln : lnOf hs (i + 1) = lnOf hs i := by unfold lnOf; rw [hh]
    by_cases hk : d.kind = .bar
    · obtain ⟨hr, hfin⟩ := j.bar R ho hS hcl hk (fun d h => hdst' d (by rw [hd]; exact h))
      obtain ⟨ρ', F', β', γ', h⟩ := hfin undef w (by rw [ho', hh]; exact Done.same hr .skp)
      rw [hd]
      exact hK _ _ _ _ _ _ h
    · have hr := j.sub R (i := i) (V := { bl := List.replicate (lnOf hs i) .dead, esc := [], ro := lnOf hs i }) (by omega) (by simp) (fun b x hb hx => by
        simp only [List.getElem?_replicate] at hb
        split at hb
        · cases hb; cases hx
        · cases hb)
      obtain ⟨ρ', F', h⟩ := j.quiet R ho hS hcl hk (val := undef) (V := { bl := List.replicate (lnOf hs i) .dead, esc := [], ro := lnOf hs i }) (V' := { bl := List.replicate (lnOf hs i) .dead, esc := [], ro := lnOf hs i }) (by simp) rfl (by simp [hln]) rfl (fun b h1 h2 => by omega) (.inl hln)
        (by rw [ho']; exact Done.same hr .skp) (fun d h => hdst' d (by rw [hd]; exact h))
      rw [hd]
      exact hK _ _ _ _ _ _ h
  have hgt : ∀ t b, (∃ w, o.g = some (t, w)) → get (es i) t = .bool b → a.tmps.getD t undef = .bool b := by
    rintro t b ⟨w, hg⟩ hb
    have hm : t ∈ opTmps o := by unfold opTmps; rw [hg]; simp
    have := hslots t hm
    rw [hb] at this
    exact vr_bool this
  have hgs : ∀ t, (∃ w, o.g = some (t, w)) → get (es i) t = .skp → a.tmps.getD t undef = undef := by
    rintro t ⟨w, hg⟩ hb
    have hm : t ∈ opTmps o := by unfold opTmps; rw [hg]; simp
    have := hslots t hm
    rw [hb] at this
    exact vr_skp this
  split at hco
  · rename_i hg
    cases hco
    have hw : Region.wanted op (yielded ops a.tmps) = true := by simp [Region.wanted, hg]
    rw [hw, if_pos rfl]
    rcases R.tr.st i _ d ho with ⟨_, h⟩ | ⟨⟨t, w, h, _⟩, _⟩
    · exact go rfl rfl h
    · cases h
  · rename_i j' want hg
    split at hco
    · rename_i t ht
      cases hco
      rcases R.tr.st i _ d ho with ⟨h, h'⟩ | ⟨⟨t', w', h, hb⟩, hsk, ho', hh⟩
      · rcases h with h | ⟨t', w', h, hb⟩
        · cases h
        · cases h
          have htv := hgt t want ⟨want, rfl⟩ hb
          have hy : yielded ops a.tmps j' = some want := by simp only [yielded, ht, Option.bind_some, getD_bool htv]
          have hw : Region.wanted op (yielded ops a.tmps) = true := by simp only [Region.wanted, hg, hy]; simp
          rw [hw, if_pos rfl]
          exact go rfl rfl h'
      · cases h
        have hw : ¬ Region.wanted op (yielded ops a.tmps) = true := by
          rcases hb with hb | hb
          · have htv := hgt t (!want) ⟨want, rfl⟩ hb
            have hy : yielded ops a.tmps j' = some (!want) := by simp only [yielded, ht, Option.bind_some, getD_bool htv]
            simp only [Region.wanted, hg, hy]; cases want <;> simp
          · have htv := hgs t ⟨want, rfl⟩ hb
            simp only [Region.wanted, hg, yielded_und ht htv]; simp
        rw [if_neg hw]
        exact ⟨fun _ _ => trivial, pass rfl hsk ho' hh⟩
    · cases hco
def unl (listed : Array Bool) : Nat := listed.toList.count false
theorem region_ok (hrec : RecOK C rec) (R : Reg C rec f nt ops pl es hs out Ns) {B : Base} {ro : Option Nat} {n : Nat} {Q : Exit → Act → World → Prop}
    (hQ : ∀ a w, Rel C nt B (es pl.length) (hs pl.length) a w → Q .normal a w) :
    ∀ (fuel : Nat) (listed : Array Bool) (a : Act) (w : World), listed.size = ops.size → unl listed ≤ fuel → (∃ ρ F β γ, J C nt ops pl es hs out Ns B (fun k => listed.getD k false = true) a w ρ F β γ) → wpAnyIn (WF ro) n C.P .any ops Q fuel listed a w := by
  have hlast : ∀ (listed : Array Bool) (a : Act) (w : World), listed.size = ops.size → (∃ ρ F β γ, J C nt ops pl es hs out Ns B (fun k => listed.getD k false = true) a w ρ F β γ) → Region.ready .any ops listed = [] → Q .normal a w := by
    intro listed a w hsz ⟨ρ, F, β, γ, j⟩ hnil
    have hall : ∀ k, k < pl.length → listed.getD k false = true := by
      intro k
      induction k using Nat.strongRecOn with
      | _ k ih =>
        intro hk
        apply Classical.byContradiction
        intro hn
        have hks : k < listed.size := by rw [hsz, ← R.hlen]; exact hk
        have hmem : k ∈ Region.ready .any ops listed := by
          rw [mem_ready]
          obtain ⟨o, d, ho⟩ := at_lt hk
          obtain ⟨op, hop, _⟩ := R.hop k o d ho
          refine ⟨by simpa [hks] using hn, op, hop, fun e he hb => ?_⟩
          exact ih e.on (R.dok.edge k op (by simpa using hop) e he hb) (by have := R.dok.edge k op (by simpa using hop) e he hb; omega)
        rw [hnil] at hmem
        cases hmem
    have hγ : γ = pl.length := by
      rcases j.atg with h | h
      · exact h
      · by_cases hlt : γ < pl.length
        · exact absurd h (j.post γ j.le (hall γ hlt))
        · have := j.leN; omega
    subst hγ
    have hG := j.full R (fun k hk _ => hall k hk)
    refine hQ a w ⟨ρ, F, hG ▸ j.hr, fun t => ?_, hG ▸ j.ext, j.sz, hG ▸ j.mks⟩
    obtain ⟨m, h1, h2⟩ := R.w_upto t pl.length (Nat.le_refl _)
    refine (j.vals t _ m ?_).mono (fun _ _ => rfl) (fun _ h => h) (Map.cut_le _ _)
    rcases h1 with ⟨k, o', d', g1, g2, g3, g4, g5, g6⟩ | ⟨g1, g2, g3⟩
    · exact .inl ⟨k, o', d', g1, hall k g2, g3, fun j' o2 d2 k1 k2 k3 => g4 j' o2 d2 k1 k2 (List.getElem?_eq_some_iff.1 k2).1, g5, g6⟩
    · exact .inr ⟨fun j o d h _ => g1 j o d h (List.getElem?_eq_some_iff.1 h).1, g2, g3⟩
  intro fuel
  induction fuel with
  | zero =>
    intro listed a w hsz hu hj
    have hnil : Region.ready .any ops listed = [] := by
      apply List.eq_nil_iff_forall_not_mem.2
      intro k hk
      have h1 := (mem_ready.1 hk).1
      have hks : k < listed.size := by
        rcases Nat.lt_or_ge k listed.size with h | h
        · exact h
        · simp [Array.getElem?_eq_none h] at h1
      have : false ∈ listed.toList := by
        simp [hks] at h1
        rw [← h1]; simp
      have := List.count_pos_iff.2 this
      unfold unl at hu
      omega
    exact ⟨hnil, hlast listed a w hsz hj hnil⟩
  | succ fuel ih =>
    intro listed a w hsz hu hj
    refine ⟨hlast listed a w hsz hj, fun i hi => ?_⟩
    obtain ⟨h1, o, ho, hafter⟩ := mem_ready.1 hi
    have hks : i < listed.size := by
      rcases Nat.lt_or_ge i listed.size with h | h
      · exact h
      · simp [Array.getElem?_eq_none h] at h1
    have hfl : listed[i] = false := by simpa [hks] using h1
    obtain ⟨ρ, F, β, γ, j⟩ := hj
    refine j.step hrec R (by rw [R.hlen]; omega) (by simp [hks, hfl]) (fun o' ho' e he hb => ?_) (fun a' w' ρ' F' β' γ' j' => ih _ a' w' (by simpa using hsz) ?_ ⟨ρ', F', β', γ', ?_⟩)
    · have : ops.toList[i]? = some o := by simpa using ho
      rw [this] at ho'; cases ho'
      exact hafter e he hb
    · unfold unl at hu ⊢
      rw [Array.toList_setIfInBounds, List.count_set (by simpa using hks)]
      have hq : listed.toList[i]'(by simpa using hks) = false := by simpa using hfl
      rw [hq]
      simp only [beq_self_eq_true, if_true]
      have : ((true == false) = true) = False := by simp
      simp only [this, if_false]
      omega
    · have : (fun k => (listed.setIfInBounds i true).getD k false = true) = (fun k => listed.getD k false = true ∨ k = i) := by
        funext k
        by_cases e : i = k
        · subst e; simp [hks]
        · simp [Array.getElem?_setIfInBounds_ne e, Ne.symm e]
      rw [this]; exact j'
theorem ok_drawn (hmix : C.P.follows .mixedOrders = true) (hrec : RecOK C rec) {id : Nat} {ops : Array Oper} {l : List Oper1} {d : List (Oper1 × Draw1)} (hl : allS (ops.toList.map (coper C.P C.pol f nt ops)) = some l) (hd : cdrawn C.pol ops.toList l = some d) :
    CodeOK C rec nt (.region id ops true) (.drawn d) := by
  intro ro n B Q R k r e H a w hro hrun hk hrel
  simp only [run] at hrun
  obtain ⟨es, hs, out, Ns, h1, h2, h3, h4, h5⟩ := trace d _ _ _ hrun
  unfold cdrawn at hd
  replace hd := bif_some hd
  obtain ⟨hok, hd⟩ := hd
  obtain ⟨g1, g2⟩ := allS_map hl
  have hlen : d.length = l.length := by cases hd; simp
  have hfst : ∀ (i : Nat) o dd, d[i]? = some (o, dd) → l[i]? = some o := by
    intro i o dd hi
    simp only [Option.some.injEq] at hd
    rw [← hd] at hi
    simp only [List.getElem?_map, Option.map_eq_some_iff, List.getElem?_zipIdx] at hi
    obtain ⟨p, ⟨q, hq, rfl⟩, hp⟩ := hi
    cases hp
    exact hq
  simp only [Option.some.injEq] at hd
  rw [hd] at hok
  have RG : Reg C rec f nt ops d es hs out Ns := by
    refine ⟨fun i o dd hi => ?_, by rw [hlen, g1]; simp, okDraws_spec hok, h4, by rw [h3, h2]⟩
    have hli := hfst i o dd hi
    have hlt := (List.getElem?_eq_some_iff.1 hli).1
    have hops : ops.toList[i]? = some ops.toList[i] := List.getElem?_eq_getElem (by omega)
    exact ⟨_, by simpa using hops, g2 i _ _ hops hli⟩
  refine wpIn_region_any hmix ?_
  obtain ⟨ρ, F, q1, q2, q3, q4, q5⟩ := hrel
  obtain ⟨z1, z2⟩ := q1.same (w' := { w with drawn := w.drawn + 1 }) (Nat.le_refl _) (fun _ _ => rfl)
  refine region_ok hrec RG (B := B) (fun a' w' hr' => hk .normal _ _ a' w' h5 hr') ops.size _ a _ (by simp) ?_ ?_
  · unfold unl; simp
  · have hS : (fun k => (Array.replicate ops.size false).getD k false = true) = (fun _ => False) := by
      funext k
      by_cases hk : k < ops.size <;> simp [hk]
    rw [hS]
    subst h1; subst h2
    obtain ⟨γ, hj⟩ := J.begin RG (B := B) (S := fun _ => False) (a := a) (w := { w with drawn := w.drawn + 1 }) (ρ := ρ) (F := F) (β := 0) (Nat.zero_le _) (fun _ _ h => h.elim) (fun _ h => by omega) (fun _ _ h => h.elim) h3 (fun h => RG.dok.offs0 h) z1 (q3.trans z2)
      (fun t s m hW => by
        rcases hW with ⟨_, _, _, _, h, _⟩ | ⟨_, rfl, rfl⟩
        · exact h.elim
        · exact (z2.er q1 q2 t).mono (fun _ _ => rfl) (fun _ h => h) (fun b l h => ⟨l, by rw [cut_at (q1.dom b l h)]; exact h, .inl rfl⟩))
      q4 (q5.ext z2.toExt0)
    exact ⟨ρ, F, 0, γ, hj⟩
end
end Go.Sh
