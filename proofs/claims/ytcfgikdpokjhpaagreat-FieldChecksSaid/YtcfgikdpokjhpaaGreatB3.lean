

import Derived.Test.YtcfgikdpokjhpaaGreatB2
namespace Go.Sh
set_option linter.unusedSectionVars false
set_option linter.unusedVariables false
set_option linter.unusedSimpArgs false
set_option linter.unnecessarySimpa false
section
variable {C : Ctx} {rec : Rec} {f : FuncId} {nt : Nat}
structure Reg (C : Ctx) (rec : Rec) (f : FuncId) (nt : Nat) (ops : Array Oper) (pl : List (Oper1 × Draw1)) (es : Nat → Env) (hs : Nat → Heap) (out : Nat → SV) (Ns : Nat → Nat) : Prop where
  hop : ∀ (i : Nat) o d, pl[i]? = some (o, d) → ∃ op, ops[i]? = some op ∧ coper C.P C.pol f nt ops op = some o
  hlen : pl.length = ops.size
  dok : DOK (before1 ops.toList) ops.toList pl
  tr : Tr rec pl es hs out Ns
  n0 : Ns 0 = (hs 0).bl.length
variable {ops : Array Oper} {pl : List (Oper1 × Draw1)} {es : Nat → Env} {hs : Nat → Heap} {out : Nat → SV} {Ns : Nat → Nat}
theorem at_lt {i : Nat} (h : i < pl.length) : ∃ o d, pl[i]? = some (o, d) := ⟨pl[i].1, pl[i].2, by simp [h]⟩
abbrev lnOf (hs : Nat → Heap) (i : Nat) : Nat := (hs i).bl.length
theorem Reg.wr (R : Reg C rec f nt ops pl es hs out Ns) {i : Nat} {o : Oper1} {d : Draw1} {rd : List (Opd × Nat)} (h : pl[i]? = some (o, d)) (hk : d.kind = .wr rd) :
    ∃ n a x, o.op = .store n a x ∧ wanted1 (es i) o.g ∧ (ev (es i) x).refs ≤ Ns i ∧ tgt1 (Ns i) d.hide (ev (es i) a) = true ∧ (∀ q ∈ rd, disj1 (ev (es i) q.1) q.2 (ev (es i) a) n = true) ∧
      sstore n (hs i) (ev (es i) x) (ev (es i) a) = some (hs (i + 1)) ∧ out i = .undef ∧ Ns (i + 1) = Ns i := by
  have hN : Ns (i + 1) = Ns i := by
    rw [R.tr.nx i o d h]; unfold nextN; rw [hk]
  rcases R.tr.st i o d h with ⟨hw, h1⟩ | ⟨_, h2, _, _⟩
  · unfold step1d at h1
    rw [hk] at h1
    simp only at h1
    unfold step1w at h1
    split at h1
    · rename_i n a x hop
      replace h1 := bif_some h1
      obtain ⟨h2, h1⟩ := h1
      simp only [Bool.and_eq_true, decide_eq_true_eq] at h2
      simp only [Option.map_eq_some_iff, Prod.mk.injEq] at h1
      obtain ⟨H1, h3, h4, h5⟩ := h1
      subst h5
      exact ⟨n, a, x, hop, hw, h2.1.1, h2.1.2, fun q hq => List.all_eq_true.1 h2.2 q hq, h3, h4.symm, hN⟩
    · cases h1
  · unfold skip1 at h2
    rw [hk] at h2; cases h2
theorem Reg.wr_len (R : Reg C rec f nt ops pl es hs out Ns) {i : Nat} {o : Oper1} {d : Draw1} (h : pl[i]? = some (o, d)) (hw : isWr d = true) : lnOf hs (i + 1) = lnOf hs i := by
  obtain ⟨rd, hk⟩ := isWr_iff.1 hw
  obtain ⟨n, a, x, _, _, _, _, _, h1, _⟩ := R.wr h hk
  obtain ⟨b, v, ii, oo, xs, y0, y1, _, _, _, _, _, _, _, h2, _⟩ := sstore_spec h1
  have := (hset_spec h2).2.2.1
  show (hs (i + 1)).bl.length = (hs i).bl.length
  rw [this, List.length_set]
theorem Reg.mono1 (R : Reg C rec f nt ops pl es hs out Ns) {i : Nat} (hi : i < pl.length) : (hs i).bl.length ≤ (hs (i + 1)).bl.length := by
  obtain ⟨o, d, h⟩ := at_lt hi
  cases hw : isWr d with
  | true => exact Nat.le_of_eq (R.wr_len h hw).symm
  | false =>
  rcases R.tr.st i o d h with ⟨_, h1⟩ | ⟨_, _, _, h1⟩
  · unfold step1d at h1
    split at h1
    · rename_i hk
      rw [(pure_op (R.dok.pur i o d h hk).1 h1).1]; exact Nat.le_refl _
    · simp only [Option.bind_eq_some_iff] at h1
      obtain ⟨r, h2, h3⟩ := h1
      replace h3 := bif_some h3
      obtain ⟨h4, h5⟩ := h3
      cases h5
      simpa using h4
    · simp only [Option.bind_eq_some_iff] at h1
      obtain ⟨r, h2, h3⟩ := h1
      replace h3 := bif_some h3
      obtain ⟨h4, h5⟩ := h3
      simp only [Option.some.injEq, Prod.mk.injEq] at h5
      rw [← h5.2]
      simp
    · rename_i rd hk
      rw [isWr_iff.2 ⟨rd, hk⟩] at hw; cases hw
  · rw [h1]; exact Nat.le_refl _
theorem Reg.mono (R : Reg C rec f nt ops pl es hs out Ns) {i : Nat} : ∀ {j : Nat}, i ≤ j → j ≤ pl.length → (hs i).bl.length ≤ (hs j).bl.length := by
  intro j
  induction j with
  | zero => intro h _; have : i = 0 := by omega
            subst this; exact Nat.le_refl _
  | succ j ih =>
    intro h hj
    by_cases e : i = j + 1
    · subst e; exact Nat.le_refl _
    · exact Nat.le_trans (ih (by omega) (by omega)) (R.mono1 (by omega))
theorem Reg.step_nb (R : Reg C rec f nt ops pl es hs out Ns) {i : Nat} {o : Oper1} {d : Draw1} (h : pl[i]? = some (o, d)) (hb : d.kind ≠ .bar) (hw : isWr d = false) :
    ∃ X, hs (i + 1) = { hs i with bl := (hs i).bl ++ X } ∧ X.length = d.nal ∧ Ns (i + 1) = Ns i := by
  have hN : Ns (i + 1) = Ns i := by
    rw [R.tr.nx i o d h]
    unfold nextN
    split
    · rename_i hk; exact absurd hk hb
    · rfl
  rcases R.tr.st i o d h with ⟨_, h1⟩ | ⟨_, h2, _, h1⟩
  · unfold step1d at h1
    split at h1
    · rename_i hk
      obtain ⟨g1, g2⟩ := R.dok.pur i o d h hk
      exact ⟨[], by rw [(pure_op g1 h1).1]; simp, by simp [g2], hN⟩
    · rename_i hk; exact absurd hk hb
    · simp only [Option.bind_eq_some_iff] at h1
      obtain ⟨r, h2, h3⟩ := h1
      replace h3 := bif_some h3
      obtain ⟨h4, h5⟩ := h3
      simp only [Option.some.injEq, Prod.mk.injEq] at h5
      simp only [Bool.and_eq_true, beq_iff_eq] at h4
      exact ⟨_, h5.2.symm, by simp [h4.1], hN⟩
    · rename_i rd hk
      rw [isWr_iff.2 ⟨rd, hk⟩] at hw; cases hw
  · refine ⟨[], by rw [h1]; simp, ?_, hN⟩
    unfold skip1 at h2
    split at h2
    · have := beq_iff_eq.1 h2; simp [this]
    · cases h2
    · rename_i hk hk2
      have : d.kind = .pure := by cases hd : d.kind <;> simp_all
      simp [(R.dok.pur i o d h this).2]
theorem Reg.step_len (R : Reg C rec f nt ops pl es hs out Ns) {i : Nat} {o : Oper1} {d : Draw1} (h : pl[i]? = some (o, d)) (hb : d.kind ≠ .bar) : lnOf hs (i + 1) = lnOf hs i + d.nal ∧ Ns (i + 1) = Ns i := by
  cases hw : isWr d with
  | true =>
    obtain ⟨rd, hk⟩ := isWr_iff.1 hw
    obtain ⟨_, _, _, _, _, _, _, _, _, _, hN⟩ := R.wr h hk
    have := R.dok.wrk i (List.getElem?_eq_some_iff.1 h).1 (by rw [dr_at h]; exact hw)
    rw [dr_at h] at this
    exact ⟨by rw [R.wr_len h hw, this, Nat.add_zero], hN⟩
  | false =>
    obtain ⟨X, h1, h2, h3⟩ := R.step_nb h hb hw
    exact ⟨by unfold lnOf; rw [h1]; simp [h2], h3⟩
theorem Reg.seg (R : Reg C rec f nt ops pl es hs out Ns) {j : Nat} : ∀ (m : Nat), (∀ k, j ≤ k → k < j + m → (dr pl k).kind ≠ .bar) → (∀ k, j ≤ k → k < j + m → isWr (dr pl k) = false) → j + m ≤ pl.length →
    ∃ X, hs (j + m) = { hs j with bl := (hs j).bl ++ X }
  | 0, _, _, _ => ⟨[], by simp⟩
  | m + 1, hb, hw, hl => by
    obtain ⟨X, h1⟩ := Reg.seg R m (fun k hk hk' => hb k hk (by omega)) (fun k hk hk' => hw k hk (by omega)) (by omega)
    obtain ⟨o, d, h⟩ := at_lt (pl := pl) (i := j + m) (by omega)
    obtain ⟨Y, h3, _, h4⟩ := R.step_nb h (by have := hb (j + m) (by omega) (by omega); rwa [dr_at h] at this) (by have := hw (j + m) (by omega) (by omega); rwa [dr_at h] at this)
    refine ⟨X ++ Y, ?_⟩
    rw [← Nat.add_assoc, h3, h1]; simp
theorem Reg.seg' (R : Reg C rec f nt ops pl es hs out Ns) {j k : Nat} (hjk : j ≤ k) (hk : k ≤ pl.length) (hb : ∀ m, j ≤ m → m < k → (dr pl m).kind ≠ .bar) (hw : ∀ m, j ≤ m → m < k → isWr (dr pl m) = false) :
    ∃ X, hs k = { hs j with bl := (hs j).bl ++ X } := by
  have := R.seg (j := j) (k - j) (fun m h1 h2 => hb m h1 (by omega)) (fun m h1 h2 => hw m h1 (by omega)) (by omega)
  rwa [show j + (k - j) = k by omega] at this
theorem Reg.nsc (R : Reg C rec f nt ops pl es hs out Ns) {j k : Nat} (hjk : j ≤ k) (hk : k ≤ pl.length) (hb : ∀ m, j ≤ m → m < k → (dr pl m).kind ≠ .bar) : Ns k = Ns j := by
  have key : ∀ m, j + m ≤ k → Ns (j + m) = Ns j := by
    intro m
    induction m with
    | zero => intro _; rfl
    | succ m ih =>
      intro hm
      obtain ⟨o, d, h⟩ := at_lt (pl := pl) (i := j + m) (by omega)
      rw [← Nat.add_assoc, (R.step_len h (by have := hb (j + m) (by omega) (by omega); rwa [dr_at h] at this)).2]
      exact ih (by omega)
  have := key (k - j) (by omega)
  rwa [show j + (k - j) = k by omega] at this
theorem Reg.offs (R : Reg C rec f nt ops pl es hs out Ns) {j : Nat} (hj : (dr pl j).offs = 0) : ∀ (m : Nat), (∀ k, j ≤ k → k < j + m → (dr pl k).kind ≠ .bar) → j + m < pl.length →
    (hs (j + m)).bl.length = (hs j).bl.length + (dr pl (j + m)).offs
  | 0, _, _ => by simp [hj]
  | m + 1, hb, hl => by
    have h1 := Reg.offs R hj m (fun k hk hk' => hb k hk (by omega)) (by omega)
    obtain ⟨o, d, h⟩ := at_lt (pl := pl) (i := j + m) (by omega)
    have hnb := hb (j + m) (by omega) (by omega)
    have h3 : (hs (j + m + 1)).bl.length = (hs (j + m)).bl.length + d.nal := (R.step_len h (by rwa [dr_at h] at hnb)).1
    have h5 := R.dok.offsS (j + m) (by omega)
    have h6 : isBar (dr pl (j + m)) = false := by
      cases hq : isBar (dr pl (j + m)) with
      | false => rfl
      | true => exact absurd (isBar_iff.1 hq) hnb
    rw [h6] at h5
    simp only [cond_false, dr_at h] at h5
    rw [dr_at h] at h1
    rw [← Nat.add_assoc, h3, h5]
    omega
theorem Reg.ind {P : Nat → Prop} {i k : Nat} (hik : i ≤ k) (h0 : P i) (hs : ∀ m, i ≤ m → m < k → P m → P (m + 1)) : P k := by
  have key : ∀ m, i + m ≤ k → P (i + m) := by
    intro m
    induction m with
    | zero => intro _; exact h0
    | succ m ih => intro hm; exact hs (i + m) (by omega) (by omega) (ih (by omega))
  have := key (k - i) (by omega)
  rwa [show i + (k - i) = k by omega] at this
theorem Reg.shape (R : Reg C rec f nt ops pl es hs out Ns) {i k : Nat} (hik : i ≤ k) (hk : k ≤ pl.length) (hb : ∀ m, i ≤ m → m < k → (dr pl m).kind ≠ .bar) : ShapeL (hs i).bl ((hs k).bl.take (lnOf hs i)) := by
  refine Reg.ind (P := fun k => ShapeL (hs i).bl ((hs k).bl.take (lnOf hs i))) hik (by rw [List.take_of_length_le (Nat.le_refl _)]; exact .refl _) (fun m h1 h2 ih => ?_)
  obtain ⟨o, d, h⟩ := at_lt (pl := pl) (i := m) (by omega)
  have hle : lnOf hs i ≤ lnOf hs m := R.mono h1 (by omega)
  cases hw : isWr d with
  | false =>
    obtain ⟨X, h3, _⟩ := R.step_nb h (by have := hb m h1 h2; rwa [dr_at h] at this) hw
    rw [h3]
    simp only
    rw [List.take_append_of_le_length hle]; exact ih
  | true =>
    obtain ⟨rd, hkd⟩ := isWr_iff.1 hw
    obtain ⟨n, a, x, _, _, _, _, _, h4, _⟩ := R.wr h hkd
    obtain ⟨b, v, ii, oo, xs, y0, y1, _, _, _, h5, _, _, h6, h7, _⟩ := sstore_spec h4
    rw [(hset_spec h7).2.2.1]
    exact ih.trans ((ShapeL.set h5 h6).take _)
theorem Reg.keepb (R : Reg C rec f nt ops pl es hs out Ns) {i k b : Nat} (hik : i ≤ k) (hk : k ≤ pl.length) (hb : ∀ m, i ≤ m → m < k → (dr pl m).kind ≠ .bar) (hbl : b < lnOf hs i)
    (ht : ∀ m o d n a x, i ≤ m → m < k → pl[m]? = some (o, d) → isWr d = true → o.op = .store n a x → ∀ v j q, ev (es m) a ≠ .ptr b v j q) : (hs k).bl[b]? = (hs i).bl[b]? := by
  refine Reg.ind (P := fun k => (hs k).bl[b]? = (hs i).bl[b]?) hik rfl (fun m h1 h2 ih => ?_)
  obtain ⟨o, d, h⟩ := at_lt (pl := pl) (i := m) (by omega)
  have hle : lnOf hs i ≤ lnOf hs m := R.mono h1 (by omega)
  cases hw : isWr d with
  | false =>
    obtain ⟨X, h3, _⟩ := R.step_nb h (by have := hb m h1 h2; rwa [dr_at h] at this) hw
    rw [h3]
    simp only
    rw [List.getElem?_append_left (Nat.lt_of_lt_of_le hbl hle)]; exact ih
  | true =>
    obtain ⟨rd, hkd⟩ := isWr_iff.1 hw
    obtain ⟨n, a, x, hop, _, _, _, _, h4, _⟩ := R.wr h hkd
    obtain ⟨b', v, ii, oo, xs, y0, y1, hp, _, _, h5, _, _, h6, h7, _⟩ := sstore_spec h4
    have hne : b' ≠ b := fun e => ht m o d n a x h1 h2 h hw hop v ii oo (by rw [hp, e])
    rw [(hset_spec h7).2.2.1, List.getElem?_set_ne hne]; exact ih
theorem Reg.envk (R : Reg C rec f nt ops pl es hs out Ns) {i k u : Nat} (hik : i ≤ k) (hk : k ≤ pl.length) (hu : ∀ m, i ≤ m → m < k → ∀ p, pl[m]? = some p → p.1.dst ≠ some u) : get (es k) u = get (es i) u := by
  refine Reg.ind (P := fun k => get (es k) u = get (es i) u) hik rfl (fun m h1 h2 ih => ?_)
  obtain ⟨o, d, h⟩ := at_lt (pl := pl) (i := m) (by omega)
  rw [R.tr.env m o d h]
  cases hd : o.dst with
  | none => exact ih
  | some t =>
    have : t ≠ u := fun e => hu m h1 h2 _ h (by rw [hd, e])
    simp only [bind1, get]
    have : (u == t) = false := by simpa using (Ne.symm this)
    rw [this]; exact ih
theorem Reg.loadk (R : Reg C rec f nt ops pl es hs out Ns) {i k : Nat} {ag : Bool} {z : Nat} {p s : SV} (hik : i ≤ k) (hk : k ≤ pl.length) (hb : ∀ m, i ≤ m → m < k → (dr pl m).kind ≠ .bar) (h : sload ag z (hs i) p = some s)
    (ht : ∀ m o d n a x, i ≤ m → m < k → pl[m]? = some (o, d) → isWr d = true → o.op = .store n a x → disj1 p (bif ag then z else 1) (ev (es m) a) n = true) : sload ag z (hs k) p = some s := by
  refine Reg.ind (P := fun k => sload ag z (hs k) p = some s) hik h (fun m h1 h2 ih => ?_)
  obtain ⟨o, d, hm⟩ := at_lt (pl := pl) (i := m) (by omega)
  cases hw : isWr d with
  | false =>
    obtain ⟨X, h3, _⟩ := R.step_nb hm (by have := hb m h1 h2; rwa [dr_at hm] at this) hw
    refine load_block ih (fun b v ii oo hp => ?_)
    subst hp
    obtain ⟨x, hx, _⟩ := load_live ih
    rw [h3]
    simp only
    rw [List.getElem?_append_left (List.getElem?_eq_some_iff.1 hx).1]
  | true =>
    obtain ⟨rd, hkd⟩ := isWr_iff.1 hw
    obtain ⟨n, a, x, hop, _, _, _, _, h4, _⟩ := R.wr hm hkd
    exact load_keep ih h4 (ht m o d n a x h1 h2 hm hw hop)
def W (pl : List (Oper1 × Draw1)) (e0 : Env) (out : Nat → SV) (ln : Nat → Nat) (S : Nat → Prop) (t : Nat) (s : SV) (m : Nat) : Prop :=
  (∃ j o d, pl[j]? = some (o, d) ∧ S j ∧ o.dst = some t ∧ (∀ j' o' d', j < j' → pl[j']? = some (o', d') → S j' → o'.dst ≠ some t) ∧ s = out j ∧ m = ln (j + 1)) ∨
  ((∀ (j : Nat) o d, pl[j]? = some (o, d) → S j → o.dst ≠ some t) ∧ s = get e0 t ∧ m = ln 0)
theorem Reg.w_upto (R : Reg C rec f nt ops pl es hs out Ns) (t : Nat) : ∀ i, i ≤ pl.length → ∃ m, W pl (es 0) out (lnOf hs) (· < i) t (get (es i) t) m ∧ m ≤ lnOf hs i
  | 0, _ => ⟨lnOf hs 0, .inr ⟨fun j o d _ h => by simp at h, rfl, rfl⟩, Nat.le_refl _⟩
  | i + 1, hi => by
    obtain ⟨m, h1, h2⟩ := Reg.w_upto R t i (by omega)
    obtain ⟨o, d, h⟩ := at_lt (pl := pl) (i := i) (by omega)
    rw [R.tr.env i o d h]
    have hm := R.mono1 (i := i) (by omega)
    cases hd : o.dst with
    | none =>
      refine ⟨m, ?_, Nat.le_trans h2 hm⟩
      simp only [bind1]
      rcases h1 with ⟨j, o', d', g1, g2, g3, g4, g5, g6⟩ | ⟨g1, g2, g3⟩
      · refine .inl ⟨j, o', d', g1, Nat.lt_succ_of_lt g2, g3, fun j' o2 d2 k1 k2 k3 => ?_, g5, g6⟩
        by_cases e : j' = i
        · subst e; rw [h] at k2; cases k2; rw [hd]; simp
        · exact g4 j' o2 d2 k1 k2 (by omega)
      · refine .inr ⟨fun j o2 d2 k2 k3 => ?_, g2, g3⟩
        by_cases e : j = i
        · subst e; rw [h] at k2; cases k2; rw [hd]; simp
        · exact g1 j o2 d2 k2 (by omega)
    | some u =>
      simp only [bind1, get]
      cases hu : (t == u) with
      | true =>
        have : t = u := by simpa using hu
        subst this
        refine ⟨lnOf hs (i + 1), .inl ⟨i, o, d, h, Nat.lt_succ_self i, hd, fun j' o2 d2 k1 k2 k3 => ?_, rfl, rfl⟩, Nat.le_refl _⟩
        exact absurd k3 (by omega)
      | false =>
        have hne : t ≠ u := by simpa using hu
        refine ⟨m, ?_, Nat.le_trans h2 hm⟩
        simp only [cond_false]
        rcases h1 with ⟨j, o', d', g1, g2, g3, g4, g5, g6⟩ | ⟨g1, g2, g3⟩
        · refine .inl ⟨j, o', d', g1, Nat.lt_succ_of_lt g2, g3, fun j' o2 d2 k1 k2 k3 => ?_, g5, g6⟩
          by_cases e : j' = i
          · subst e; rw [h] at k2; cases k2; rw [hd]; simpa using Ne.symm hne
          · exact g4 j' o2 d2 k1 k2 (by omega)
        · refine .inr ⟨fun j o2 d2 k2 k3 => ?_, g2, g3⟩
          by_cases e : j = i
          · subst e; rw [h] at k2; cases k2; rw [hd]; simpa using Ne.symm hne
          · exact g1 j o2 d2 k2 (by omega)
open Classical in
noncomputable def Gh (H : Heap) (vis : Nat → Prop) : Heap := { H with bl := H.bl.mapIdx fun b x => if vis b then x else .dead }
theorem gh_len {H : Heap} {vis : Nat → Prop} : (Gh H vis).bl.length = H.bl.length := by simp [Gh]
theorem gh_live {H : Heap} {vis : Nat → Prop} {b : Nat} {x : SBlk} (h : (Gh H vis).bl[b]? = some x) (hx : x.live = true) : vis b ∧ H.bl[b]? = some x := by
  unfold Gh at h
  simp only [List.getElem?_mapIdx, Option.map_eq_some_iff] at h
  obtain ⟨y, h1, h2⟩ := h
  by_cases hv : vis b
  · rw [if_pos hv] at h2; subst h2; exact ⟨hv, h1⟩
  · rw [if_neg hv] at h2; subst h2; cases hx
theorem gh_at {H : Heap} {vis : Nat → Prop} {b : Nat} {x : SBlk} (hv : vis b) (h : H.bl[b]? = some x) : (Gh H vis).bl[b]? = some x := by
  unfold Gh
  simp [h, hv]
theorem cut_mono {ρ ρ' : Map} (h : ρ.le ρ') {m n : Nat} (hmn : m ≤ n) : (ρ.cut m).le (ρ'.cut n) := by
  intro b l hb
  unfold Map.cut at hb ⊢
  split at hb
  · rename_i hlt
    rw [if_pos (by omega)]
    exact h b l hb
  · cases hb
theorem cut_lt {ρ : Map} {N b : Nat} {l : Loc} (h : ρ.cut N b = some l) : b < N ∧ ρ b = some l := by
  unfold Map.cut at h
  split at h
  · exact ⟨by assumption, h⟩
  · cases h
theorem cut_at {ρ : Map} {N b : Nat} (h : b < N) : ρ.cut N b = ρ b := by simp [Map.cut, h]
theorem HR.pad {ρ : Map} {F : Nat → Prop} {H H' : Heap} {w : World} (hr : HR C ρ F H w) (hb : ∀ (b : Nat) x, x.live = true → (H'.bl[b]? = some x ↔ H.bl[b]? = some x)) (hl : H.bl.length ≤ H'.bl.length) (he : H'.esc = H.esc) (hro : H'.ro = H.ro) :
    HR C ρ F H' w ∧ Ext C ρ F H w ρ F H' w := by
  have hown : ∀ b l, Own ρ H' b l → Own ρ H b l := fun b l ⟨⟨x, h1, h2⟩, h3, h4⟩ => ⟨⟨x, (hb b x h2).1 h1, h2⟩, h3, h4⟩
  refine ⟨⟨fun b l h => Nat.lt_of_lt_of_le (hr.dom b l h) hl, fun b x h1 h2 => hr.live b x ((hb b x h2).1 h1) h2, fun b b' l l' h h' => hr.apart b b' l l' (hown b l h) (hown b' l' h'), fun b l h => hr.own b l (hown b l h), hr.fro⟩,
    ⟨fun b l h => ⟨l, h, .inl rfl⟩, fun _ h => h, fun _ h => .inl h, fun _ _ _ => rfl, Nat.le_refl _, fun b l h => .inr ⟨l, hown b l h, rfl⟩, hro, fun p hp => he ▸ hp, fun N hN hc h0 b x l hbN hx hxl hlx => ?_, fun B q h => ⟨q, h⟩, hl, ⟨rfl, rfl⟩⟩, fun b l h => .inl ⟨l, h⟩⟩
  have hx' := (hb b x hxl).1 hx
  by_cases hNl : N ≤ H.bl.length
  · exact h0 hNl b x l hbN hx' hxl hlx
  · obtain ⟨l2, h2, h3⟩ := hr.live b x hx' hxl
    rw [hlx] at h2; cases h2
    exact h3.mono (fun _ _ => rfl) (fun _ h => h) (fun b1 l1 h1 => ⟨l1, by have := hr.dom b1 l1 h1; rw [cut_at (by omega)]; exact h1, .inl rfl⟩) (fun _ => rfl)
def Vis (hs : Nat → Heap) (S : Nat → Prop) (β γ b : Nat) : Prop := b < lnOf hs β ∨ ∃ k, S k ∧ β ≤ k ∧ k < γ ∧ lnOf hs k ≤ b ∧ b < lnOf hs (k + 1)
structure J (C : Ctx) (nt : Nat) (ops : Array Oper) (pl : List (Oper1 × Draw1)) (es : Nat → Env) (hs : Nat → Heap) (out : Nat → SV) (Ns : Nat → Nat) (B : Base) (S : Nat → Prop) (a : Act) (w : World) (ρ : Map) (F : Nat → Prop) (β μ γ : Nat) : Prop where
  closed : ∀ (k : Nat) o, S k → ops.toList[k]? = some o → ∀ e ∈ o.after, Region.binds .any e = true → S e.on
  le : β ≤ μ
  leM : μ ≤ γ
  leN : γ ≤ pl.length
  nobar : ∀ j, β ≤ j → j < γ → (dr pl j).kind ≠ .bar
  atg : γ = pl.length ∨ (dr pl γ).kind = .bar
  atm : μ = γ ∨ (isWr (dr pl μ) = true ∧ ¬ S μ)
  wdone : ∀ j, β ≤ j → j < μ → isWr (dr pl j) = true → S j
  pre : ∀ j, j < β → (dr pl j).kind ≠ .pure → S j
  post : ∀ j, β ≤ j → S j → (dr pl j).kind ≠ .bar
  nsb : Ns β = lnOf hs β
  offb : β < pl.length → (dr pl β).offs = 0
  lnB : B.H.bl.length ≤ lnOf hs β
  hr : HR C ρ F (Gh (hs μ) (Vis hs S β μ)) w
  dom : ∀ b l, ρ b = some l → Vis hs S β μ b
  brO : ∀ (b : Nat) x l, b < lnOf hs β → (hs μ).bl[b]? = some x → x.live = true → ρ b = some l → BR C w F (ρ.cut (lnOf hs β)) l x
  brN : ∀ (k b : Nat) x l, S k → β ≤ k → k < μ → lnOf hs k ≤ b → b < lnOf hs (k + 1) → (hs μ).bl[b]? = some x → x.live = true → ρ b = some l → BR C w F (ρ.cut (lnOf hs (k + 1))) l x
  ext : Ext C B.ρ B.F B.H B.w ρ F (Gh (hs μ) (Vis hs S β μ)) w
  vals : ∀ t s m, W pl (es 0) out (lnOf hs) S t s m → VR w F (ρ.cut m) s (a.tmps.getD t undef)
  sz : nt ≤ a.tmps.size
  mks : Marks ρ F (Gh (hs μ) (Vis hs S β μ)) w B.lo a.defers
variable {B : Base} {S : Nat → Prop} {a : Act} {w w' : World} {ρ : Map} {F : Nat → Prop} {β μ γ : Nat}
theorem J.before (R : Reg C rec f nt ops pl es hs out Ns) (j : J C nt ops pl es hs out Ns B S a w ρ F β μ γ) {i : Nat} (hcl : ∀ o, ops.toList[i]? = some o → ∀ e ∈ o.after, Region.binds .any e = true → S e.on) :
    ∀ k, ((before1 ops.toList).getD i 0).testBit k = true → S k := fun k h => bef_closed (fun k o hk => j.closed k o hk) i k hcl h
theorem J.behind (R : Reg C rec f nt ops pl es hs out Ns) (j : J C nt ops pl es hs out Ns B S a w ρ F β μ γ) {i : Nat} (hi : ¬ S i) : ∀ k, S k → ¬ ((before1 ops.toList).getD k 0).testBit i = true := fun k hk h =>
  hi (bef_closed (fun k o hk => j.closed k o hk) k i (fun o ho => j.closed k o hk ho) h)
theorem J.slots (R : Reg C rec f nt ops pl es hs out Ns) (j : J C nt ops pl es hs out Ns B S a w ρ F β μ γ) {i : Nat} {o : Oper1} {d : Draw1} (hi : pl[i]? = some (o, d)) (hS : ¬ S i)
    (hcl : ∀ o, ops.toList[i]? = some o → ∀ e ∈ o.after, Region.binds .any e = true → S e.on) : ∀ t ∈ opTmps o, VR w F (ρ.cut (lnOf hs i)) (get (es i) t) (a.tmps.getD t undef) := by
  intro t ht
  have hlt := (List.getElem?_eq_some_iff.1 hi).1
  obtain ⟨m, h1, h2⟩ := R.w_upto t i (by omega)
  have bf := j.before R hcl
  have bh := j.behind R hS
  refine (j.vals t _ m ?_).mono (fun _ _ => rfl) (fun _ h => h) (cut_mono (Map.le_refl _) h2)
  rcases h1 with ⟨k, o', d', g1, g2, g3, g4, g5, g6⟩ | ⟨g1, g2, g3⟩
  · refine .inl ⟨k, o', d', g1, ?_, g3, fun k' o2 d2 k1 k2 k3 hd => ?_, g5, g6⟩
    · rcases R.dok.tmp k i _ _ g2 g1 hi with h | ⟨h, _⟩
      · exact bf k h
      · exact absurd ht (h t g3).1
    · by_cases e : k' < i
      · exact g4 k' o2 d2 k1 k2 e hd
      · have : k' ≠ i := fun e => hS (e ▸ k3)
        rcases R.dok.tmp i k' _ _ (by omega) hi k2 with h | ⟨_, h⟩
        · exact bh k' k3 h
        · exact h t hd ht
  · refine .inr ⟨fun k o2 d2 k2 k3 hd => ?_, g2, g3⟩
    by_cases e : k < i
    · exact g1 k o2 d2 k2 e hd
    · have : k ≠ i := fun e => hS (e ▸ k3)
      rcases R.dok.tmp i k _ _ (by omega) hi k2 with h | ⟨_, h⟩
      · exact bh k k3 h
      · exact h t hd ht
theorem J.vals' (R : Reg C rec f nt ops pl es hs out Ns) (j : J C nt ops pl es hs out Ns B S a w ρ F β μ γ) {i : Nat} {o : Oper1} {d : Draw1} (hi : pl[i]? = some (o, d)) (hS : ¬ S i) {ρ' : Map} {F' : Nat → Prop} {val : Value}
    (hk : Keeps F w w') (hF : ∀ B, F B → F' B) (hle : ρ.le ρ') (hv : VR w' F' (ρ'.cut (lnOf hs (i + 1))) (out i) val) (hdst : ∀ d, o.dst = some d → d < nt) :
    ∀ t s m, W pl (es 0) out (lnOf hs) (fun k => S k ∨ k = i) t s m → VR w' F' (ρ'.cut m) s ((a.put o.dst val).tmps.getD t undef) := by
  intro t s m h
  have bh := j.behind R hS
  by_cases hd : o.dst = some t
  · have : s = out i ∧ m = lnOf hs (i + 1) := by
      rcases h with ⟨k, o', d', g1, g2, g3, g4, g5, g6⟩ | ⟨g1, g2, g3⟩
      · rcases g2 with g2 | g2
        · exfalso
          rcases Nat.lt_trichotomy k i with hk' | hk' | hk'
          · exact g4 i o d hk' hi (.inr rfl) hd
          · exact hS (hk' ▸ g2)
          · rcases R.dok.tmp i k _ _ hk' hi g1 with h | ⟨h, _⟩
            · exact bh k g2 h
            · exact (h t hd).2 g3
        · subst g2; exact ⟨g5, g6⟩
      · exact absurd hd (g1 i o d hi (.inr rfl))
    obtain ⟨rfl, rfl⟩ := this
    have hlt : t < a.tmps.size := Nat.lt_of_lt_of_le (hdst t hd) j.sz
    rw [hd]
    simpa [Act.put, hlt] using hv
  · have hput : (a.put o.dst val).tmps.getD t undef = a.tmps.getD t undef := by
      cases hq : o.dst with
      | none => rfl
      | some u =>
        have : u ≠ t := fun e => hd (by rw [hq, e])
        simp only [Act.put, Array.getD_eq_getD_getElem?, Array.getElem?_setIfInBounds_ne this]
    rw [hput]
    refine (j.vals t s m ?_).mono hk hF (cut_mono hle (Nat.le_refl _))
    rcases h with ⟨k, o', d', g1, g2, g3, g4, g5, g6⟩ | ⟨g1, g2, g3⟩
    · rcases g2 with g2 | g2
      · exact .inl ⟨k, o', d', g1, g2, g3, fun k' o2 d2 k1 k2 k3 => g4 k' o2 d2 k1 k2 (.inl k3), g5, g6⟩
      · subst g2; rw [hi] at g1; cases g1; exact absurd g3 hd
    · exact .inr ⟨fun k o2 d2 k2 k3 => g1 k o2 d2 k2 (.inl k3), g2, g3⟩
theorem J.sub (R : Reg C rec f nt ops pl es hs out Ns) (j : J C nt ops pl es hs out Ns B S a w ρ F β μ γ) {i : Nat} (hi : i ≤ pl.length) {V : Heap} (hV : V.bl.length = lnOf hs i)
    (hl : ∀ (b : Nat) x, V.bl[b]? = some x → x.live = true → β ≤ i ∧ i ≤ μ ∧ Vis hs S β μ b ∧ (hs μ).bl[b]? = some x) : HR C (ρ.cut (lnOf hs i)) F V w := by
  have hown : ∀ b l, Own (ρ.cut (lnOf hs i)) V b l → Own ρ (Gh (hs μ) (Vis hs S β μ)) b l := by
    intro b l ⟨⟨x, h1, h2⟩, h3, h4⟩
    obtain ⟨_, _, g1, g2⟩ := hl b x h1 h2
    exact ⟨⟨x, gh_at g1 g2, h2⟩, (cut_lt h3).2, h4⟩
  refine ⟨fun b l h => by rw [hV]; exact (cut_lt h).1, fun b x hb hx => ?_, fun b b' l l' h h' => j.hr.apart b b' l l' (hown b l h) (hown b' l' h'), fun b l h => j.hr.own b l (hown b l h), j.hr.fro⟩
  obtain ⟨g0, g3, g1, g2⟩ := hl b x hb hx
  obtain ⟨l, h1, _⟩ := j.hr.live b x (gh_at g1 g2) hx
  have hbN : b < lnOf hs i := by rw [← hV]; exact (List.getElem?_eq_some_iff.1 hb).1
  refine ⟨l, by rw [cut_at hbN]; exact h1, ?_⟩
  rcases g1 with g1 | ⟨k, k1, k2, k3, k4, k5⟩
  · exact (j.brO b x l g1 g2 hx h1).mono (fun _ _ => rfl) (fun _ h => h) (cut_mono (Map.le_refl _) (R.mono g0 hi)) (fun _ => rfl)
  · have hki : k < i := by
      rcases Nat.lt_or_ge k i with h | h
      · exact h
      · have h1 := R.mono h (by have := j.leN; have := j.leM; omega)
        exact absurd hbN (by show ¬ b < (hs i).bl.length; have : (hs k).bl.length ≤ b := k4; omega)
    exact (j.brN k b x l k1 k2 k3 k4 k5 g2 hx h1).mono (fun _ _ => rfl) (fun _ h => h) (cut_mono (Map.le_refl _) (R.mono hki hi)) (fun _ => rfl)
theorem J.quiet (R : Reg C rec f nt ops pl es hs out Ns) (j : J C nt ops pl es hs out Ns B S a w ρ F β μ γ) {i : Nat} {o : Oper1} {d : Draw1} (hi : pl[i]? = some (o, d)) (hS : ¬ S i)
    (hcl : ∀ o, ops.toList[i]? = some o → ∀ e ∈ o.after, Region.binds .any e = true → S e.on) (hnb : d.kind ≠ .bar) (hnw : isWr d = false) {V V' : Heap} (hV : V.bl.length = lnOf hs i) (hVro : V.ro = lnOf hs i)
    (hV' : V'.bl.length = lnOf hs (i + 1)) (hesc : V'.esc = []) (hnew : ∀ b, lnOf hs i ≤ b → b < lnOf hs (i + 1) → V'.bl[b]? = (hs μ).bl[b]?)
    (hcase : lnOf hs (i + 1) = lnOf hs i ∨ (β ≤ i ∧ i < μ)) {val : Value} (hd : Done C (ρ.cut (lnOf hs i)) F V w (out i) V' val w') (hdst : ∀ d, o.dst = some d → d < nt) :
    ∃ ρ' F', J C nt ops pl es hs out Ns B (fun k => S k ∨ k = i) (a.put o.dst val) w' ρ' F' β μ γ := by
  obtain ⟨ρ2, F2, d1, d2, d3⟩ := hd
  have hlt := (List.getElem?_eq_some_iff.1 hi).1
  have m1 : lnOf hs i ≤ lnOf hs (i + 1) := R.mono1 hlt
  have hfr : ∀ Bk, Bk < w.heap.size → w'.heap[Bk]? = w.heap[Bk]? := fun Bk hB => d3.frame Bk hB (fun b l ho hro => by
    have := (cut_lt ho.2.1).1
    rw [hVro] at hro; omega)
  have hk : Keeps F w w' := fun Bk hB => hfr Bk (j.hr.fro Bk hB)
  have hFF : ∀ B, F B → F2 B := d3.fro
  have e1 : ∀ b, b < lnOf hs i → ρ2 b = ρ b := by
    intro b hb
    cases h : ρ b with
    | some l =>
      obtain ⟨l', h1, h2⟩ := d3.map b l (by rw [cut_at hb]; exact h)
      rcases h2 with rfl | ⟨h2, _⟩
      · exact h1
      · rw [hVro] at h2; omega
    | none =>
      cases h' : ρ2 b with
      | none => rfl
      | some l' =>
        rcases d3.nd b l' h' with ⟨l, h1⟩ | h1
        · rw [cut_at hb, h] at h1; cases h1
        · rw [hV] at h1; omega
  have e2 : ∀ b l, ρ2 b = some l → b < lnOf hs (i + 1) := fun b l h => by rw [← hV']; exact d2.dom b l h
  have hout : ∀ b, Vis hs S β μ b → ¬ (lnOf hs i ≤ b ∧ b < lnOf hs (i + 1)) := by
    rintro b hv ⟨h1, h2⟩
    rcases hcase with hc | ⟨hc1, hc2⟩
    · omega
    · rcases hv with h | ⟨k, k1, k2, k3, k4, k5⟩
      · have : lnOf hs β ≤ lnOf hs i := R.mono hc1 (by omega)
        omega
      · rcases Nat.lt_trichotomy k i with h | h | h
        · have : lnOf hs (k + 1) ≤ lnOf hs i := R.mono h (by omega)
          omega
        · exact hS (h ▸ k1)
        · have : lnOf hs (i + 1) ≤ lnOf hs k := R.mono h (by have := j.leN; have := j.leM; omega)
          omega
  let ρ' : Map := fun b => if lnOf hs i ≤ b ∧ b < lnOf hs (i + 1) then ρ2 b else ρ b
  have r1 : ∀ b, lnOf hs i ≤ b → b < lnOf hs (i + 1) → ρ' b = ρ2 b := fun b h h' => if_pos ⟨h, h'⟩
  have r2 : ∀ b, ¬ (lnOf hs i ≤ b ∧ b < lnOf hs (i + 1)) → ρ' b = ρ b := fun b h => if_neg h
  have le1 : ρ.le ρ' := fun b l h => ⟨l, by rw [r2 b (hout b (j.dom b l h))]; exact h, .inl rfl⟩
  have le2 : ρ2.le (ρ'.cut (lnOf hs (i + 1))) := fun b l h => by
    have hb := e2 b l h
    refine ⟨l, ?_, .inl rfl⟩
    rw [cut_at hb]
    by_cases hb' : lnOf hs i ≤ b
    · rw [r1 b hb' hb]; exact h
    · rw [r2 b (fun h => hb' h.1), ← e1 b (by omega)]; exact h
  have vis : ∀ b, Vis hs (fun k => S k ∨ k = i) β μ b → Vis hs S β μ b ∨ ((lnOf hs i ≤ b ∧ b < lnOf hs (i + 1)) ∧ β ≤ i ∧ i < μ) := by
    intro b h
    rcases h with h | ⟨k, k1, k2, k3, k4, k5⟩
    · exact .inl (.inl h)
    · rcases k1 with k1 | rfl
      · exact .inl (.inr ⟨k, k1, k2, k3, k4, k5⟩)
      · exact .inr ⟨⟨k4, k5⟩, k2, k3⟩
  have vis1 : ∀ b, Vis hs S β μ b → Vis hs (fun k => S k ∨ k = i) β μ b := by
    intro b h
    rcases h with h | ⟨k, k1, k2, k3, k4, k5⟩
    · exact .inl h
    · exact .inr ⟨k, .inl k1, k2, k3, k4, k5⟩
  have newlive : ∀ (b : Nat) x l, lnOf hs i ≤ b → b < lnOf hs (i + 1) → (hs μ).bl[b]? = some x → x.live = true → ρ2 b = some l → Own ρ2 V' b l ∨ l.virt = true := by
    intro b x l h1 h2 h3 h4 h5
    cases hv : l.virt with
    | true => exact .inr rfl
    | false => exact .inl ⟨⟨x, by rw [hnew b h1 h2]; exact h3, h4⟩, h5, hv⟩
  have newblk : ∀ b l, Own ρ2 V' b l → lnOf hs i ≤ b → w.heap.size ≤ l.blk := by
    intro b l ho hb
    rcases d3.old b l ho with h | ⟨l0, h, _⟩
    · exact h
    · have := (cut_lt h.2.1).1; omega
  have own' : ∀ b l, Own ρ' (Gh (hs μ) (Vis hs (fun k => S k ∨ k = i) β μ)) b l → Own ρ (Gh (hs μ) (Vis hs S β μ)) b l ∨ (Own ρ2 V' b l ∧ lnOf hs i ≤ b) := by
    intro b l ⟨⟨x, h1, h2⟩, h3, h4⟩
    obtain ⟨g1, g2⟩ := gh_live h1 h2
    rcases vis b g1 with g1 | ⟨⟨g3, g4⟩, _⟩
    · rw [r2 b (hout b g1)] at h3
      exact .inl ⟨⟨x, gh_at g1 g2, h2⟩, h3, h4⟩
    · rw [r1 b g3 g4] at h3
      exact .inr ⟨⟨⟨x, by rw [hnew b g3 g4]; exact g2, h2⟩, h3, h4⟩, g3⟩
  have oldsame : ∀ b l, Own ρ (Gh (hs μ) (Vis hs S β μ)) b l → w'.heap[l.blk]? = w.heap[l.blk]? := fun b l ho => hfr _ (j.hr.own b l ho).2
  have hr' : HR C ρ' F2 (Gh (hs μ) (Vis hs (fun k => S k ∨ k = i) β μ)) w' := by
    refine ⟨fun b l h => ?_, fun b x hb hx => ?_, fun b b' l l' h h' he => ?_, fun b l ho => ?_, d2.fro⟩
    · rw [gh_len]
      by_cases hb : lnOf hs i ≤ b ∧ b < lnOf hs (i + 1)
      · rcases hcase with hc | ⟨hc1, hc2⟩
        · omega
        · have : lnOf hs (i + 1) ≤ lnOf hs μ := R.mono hc2 (Nat.le_trans j.leM j.leN)
          exact Nat.lt_of_lt_of_le hb.2 this
      · rw [r2 b hb] at h
        have := j.hr.dom b l h
        rwa [gh_len] at this
    · obtain ⟨g1, g2⟩ := gh_live hb hx
      rcases vis b g1 with g1 | ⟨⟨g3, g4⟩, _⟩
      · obtain ⟨l, h1, h2⟩ := j.hr.live b x (gh_at g1 g2) hx
        exact ⟨l, by rw [r2 b (hout b g1)]; exact h1, h2.mono hk hFF le1 (fun hv => oldsame b l ⟨⟨x, gh_at g1 g2, hx⟩, h1, hv⟩)⟩
      · obtain ⟨l, h1, h2⟩ := d2.live b x (by rw [hnew b g3 g4]; exact g2) hx
        exact ⟨l, by rw [r1 b g3 g4]; exact h1, h2.mono (fun _ _ => rfl) (fun _ h => h) (Map.le_trans le2 (Map.cut_le _ _)) (fun _ => rfl)⟩
    · rcases own' b l h with o1 | ⟨o1, p1⟩ <;> rcases own' b' l' h' with o2 | ⟨o2, p2⟩
      · exact j.hr.apart b b' l l' o1 o2 he
      · have := (j.hr.own b l o1).2
        have := newblk b' l' o2 p2
        omega
      · have := (j.hr.own b' l' o2).2
        have := newblk b l o1 p1
        omega
      · exact d2.apart b b' l l' o1 o2 he
    · rcases own' b l ho with o1 | ⟨o1, p1⟩
      · have h1 := j.hr.own b l o1
        refine ⟨fun hF => ?_, Nat.lt_of_lt_of_le h1.2 d3.size⟩
        rcases d3.new _ hF with h | h | ⟨b0, l0, h2, h3, _⟩
        · exact h1.1 h
        · omega
        · have := (cut_lt h2.2.1).1
          rw [hVro] at h3; omega
      · exact d2.own b l o1
  have ext' : Ext0 C ρ F (Gh (hs μ) (Vis hs S β μ)) w ρ' F2 (Gh (hs μ) (Vis hs (fun k => S k ∨ k = i) β μ)) w' := by
    refine ⟨fun b l h => ⟨l, by rw [r2 b (hout b (j.dom b l h))]; exact h, .inl rfl⟩, hFF, fun Bk hB => ?_, fun Bk hB _ => hfr Bk hB, d3.size, fun b l ho => ?_, rfl, fun _ h => h, fun N hN hc h0 b x l hbN hx hxl hl => ?_, d3.lp, by rw [gh_len, gh_len]; exact Nat.le_refl _, d3.out⟩
    · rcases d3.new Bk hB with h | h | ⟨b0, l0, h2, h3, _⟩
      · exact .inl h
      · exact .inr (.inl h)
      · have := (cut_lt h2.2.1).1
        rw [hVro] at h3; omega
    · rcases own' b l ho with o1 | ⟨o1, p1⟩
      · exact .inr ⟨l, o1, rfl⟩
      · exact .inl (newblk b l o1 p1)
    · obtain ⟨g1, g2⟩ := gh_live hx hxl
      rcases vis b g1 with g1 | ⟨⟨g3, g4⟩, _⟩
      · rw [r2 b (hout b g1)] at hl
        have := h0 (by rw [gh_len] at hN ⊢; exact hN) b x l hbN (gh_at g1 g2) hxl hl
        exact this.mono hk hFF (cut_mono le1 (Nat.le_refl _)) (fun hv => oldsame b l ⟨⟨x, gh_at g1 g2, hxl⟩, hl, hv⟩)
      · rw [r1 b g3 g4] at hl
        have hb' : V'.bl[b]? = some x := by rw [hnew b g3 g4]; exact g2
        by_cases hNl : lnOf hs (i + 1) ≤ N
        · obtain ⟨l2, h2, h3⟩ := d2.live b x hb' hxl
          rw [hl] at h2; cases h2
          exact h3.mono (fun _ _ => rfl) (fun _ h => h) (Map.le_trans le2 (cut_mono (Map.le_refl _) hNl)) (fun _ => rfl)
        · have := d3.inv N (by rw [hV']; omega) (by rw [hesc]; intro p hp; cases hp) (fun h => by rw [hV] at h; omega) b x l hbN hb' hxl hl
          refine this.mono (fun _ _ => rfl) (fun _ h => h) (fun b1 l1 h1 => ?_) (fun _ => rfl)
          obtain ⟨q1, q2⟩ := cut_lt h1
          obtain ⟨l3, q3, q4⟩ := le2 b1 l1 q2
          refine ⟨l3, ?_, q4⟩
          rw [cut_at q1]
          exact (cut_lt q3).2
  have ext2 : Ext C B.ρ B.F B.H B.w ρ' F2 (Gh (hs μ) (Vis hs (fun k => S k ∨ k = i) β μ)) w' := by
    refine ⟨j.ext.toExt0.trans ext', fun b l h => ?_⟩
    by_cases hb : lnOf hs i ≤ b ∧ b < lnOf hs (i + 1)
    · rcases hcase with hc | ⟨hc1, hc2⟩
      · omega
      · have h1 : lnOf hs β ≤ lnOf hs i := R.mono hc1 (by omega)
        have := j.lnB
        exact .inr (by omega)
    · rw [r2 b hb] at h
      exact j.ext.nd b l h
  refine ⟨ρ', F2, ⟨?_, j.le, j.leM, j.leN, j.nobar, j.atg, j.atm.imp id (fun ⟨q1, q2⟩ => ⟨q1, fun h => h.elim q2 (fun e => by rw [e, dr_at hi, hnw] at q1; cases q1)⟩), fun k h1 h2 h3 => .inl (j.wdone k h1 h2 h3), fun k hk1 hk2 => .inl (j.pre k hk1 hk2), ?_, j.nsb, j.offb, j.lnB, hr', ?_, ?_, ?_, ext2, ?_, ?_, ?_⟩⟩
  · intro k o' hk' ho' e he hb
    rcases hk' with hk' | rfl
    · exact .inl (j.closed k o' hk' ho' e he hb)
    · exact .inl (hcl o' ho' e he hb)
  · intro k hk1 hk2
    rcases hk2 with hk2 | rfl
    · exact j.post k hk1 hk2
    · rw [dr_at hi]; exact hnb
  · intro b l h
    by_cases hb : lnOf hs i ≤ b ∧ b < lnOf hs (i + 1)
    · rcases hcase with hc | ⟨hc1, hc2⟩
      · omega
      · exact .inr ⟨i, .inr rfl, hc1, hc2, hb.1, hb.2⟩
    · rw [r2 b hb] at h
      exact vis1 b (j.dom b l h)
  · intro b x l hb hbx hx hl
    rw [r2 b (hout b (.inl hb))] at hl
    exact (j.brO b x l hb hbx hx hl).mono hk hFF (cut_mono le1 (Nat.le_refl _)) (fun hv => oldsame b l ⟨⟨x, gh_at (.inl hb) hbx, hx⟩, hl, hv⟩)
  · intro k b x l k1 k2 k3 k4 k5 hbx hx hl
    by_cases hki : k = i
    · subst hki
      rw [r1 b k4 k5] at hl
      obtain ⟨l2, h2, h3⟩ := d2.live b x (by rw [hnew b k4 k5]; exact hbx) hx
      rw [hl] at h2; cases h2
      exact h3.mono (fun _ _ => rfl) (fun _ h => h) le2 (fun _ => rfl)
    · have k1' : S k := k1.resolve_right hki
      have hv : Vis hs S β μ b := .inr ⟨k, k1', k2, k3, k4, k5⟩
      rw [r2 b (hout b hv)] at hl
      exact (j.brN k b x l k1' k2 k3 k4 k5 hbx hx hl).mono hk hFF (cut_mono le1 (Nat.le_refl _)) (fun hv' => oldsame b l ⟨⟨x, gh_at hv hbx, hx⟩, hl, hv'⟩)
  · exact j.vals' R hi hS hk hFF le1 (d1.mono (fun _ _ => rfl) (fun _ h => h) le2) hdst
  · cases o.dst with
    | none => exact j.sz
    | some u => simpa [Act.put] using j.sz
  · have : (a.put o.dst val).defers = a.defers := by cases o.dst <;> rfl
    rw [this]
    exact j.mks.ext ext'
theorem J.full (R : Reg C rec f nt ops pl es hs out Ns) (j : J C nt ops pl es hs out Ns B S a w ρ F β μ γ) (hall : ∀ k, k < γ → (dr pl k).kind ≠ .pure → S k) : μ = γ ∧ Gh (hs μ) (Vis hs S β μ) = hs μ := by
  have hμ : μ = γ := by
    rcases j.atm with h | ⟨h1, h2⟩
    · exact h
    · rcases Nat.lt_or_ge μ γ with h | h
      · obtain ⟨rd, hk⟩ := isWr_iff.1 h1
        exact absurd (hall μ h (by rw [hk]; simp)) h2
      · exact Nat.le_antisymm j.leM h
  refine ⟨hμ, ?_⟩
  have hv : ∀ b, b < lnOf hs μ → Vis hs S β μ b := by
    intro b hb
    by_cases h0 : b < lnOf hs β
    · exact .inl h0
    · have key : ∀ m, β + m ≤ μ → b < lnOf hs (β + m) → ∃ k, β ≤ k ∧ k < μ ∧ lnOf hs k ≤ b ∧ b < lnOf hs (k + 1) := by
        intro m
        induction m with
        | zero => intro _ h; exact absurd h h0
        | succ m ih =>
          intro h1 h2
          by_cases h3 : b < lnOf hs (β + m)
          · exact ih (by omega) h3
          · exact ⟨β + m, by omega, by omega, by omega, h2⟩
      obtain ⟨k, k1, k2, k3, k4⟩ := key (μ - β) (by have := j.le; omega) (by rwa [show β + (μ - β) = μ by have := j.le; omega])
      refine .inr ⟨k, hall k (by omega) (fun hp => ?_), k1, k2, k3, k4⟩
      obtain ⟨o, d, h⟩ := at_lt (pl := pl) (i := k) (by have := j.leN; omega)
      rw [dr_at h] at hp
      have hl := (R.step_len h (by rw [hp]; simp)).1
      rw [(R.dok.pur k o d h hp).2] at hl
      omega
  have : (Gh (hs μ) (Vis hs S β μ)).bl = (hs μ).bl := by
    apply List.ext_getElem?
    intro b
    cases hb : (hs μ).bl[b]? with
    | none =>
      rw [List.getElem?_eq_none_iff] at hb ⊢
      rw [gh_len]; exact hb
    | some x => exact gh_at (hv b (List.getElem?_eq_some_iff.1 hb).1) hb
  unfold Gh at this ⊢
  simp only at this
  rw [this]
theorem next_bar (pl : List (Oper1 × Draw1)) : ∀ (m β : Nat), β + m = pl.length → ∃ γ, β ≤ γ ∧ γ ≤ pl.length ∧ (∀ j, β ≤ j → j < γ → (dr pl j).kind ≠ .bar) ∧ (γ = pl.length ∨ (dr pl γ).kind = .bar)
  | 0, β, h => ⟨β, Nat.le_refl _, by omega, fun j h1 h2 => by omega, .inl (by omega)⟩
  | m + 1, β, h => by
    by_cases hb : (dr pl β).kind = .bar
    · exact ⟨β, Nat.le_refl _, by omega, fun j h1 h2 => by omega, .inr hb⟩
    · obtain ⟨γ, h1, h2, h3, h4⟩ := next_bar pl m (β + 1) (by omega)
      refine ⟨γ, by omega, h2, fun j k1 k2 => ?_, h4⟩
      by_cases e : j = β
      · subst e; exact hb
      · exact h3 j (by omega) k2
theorem next_wr (pl : List (Oper1 × Draw1)) (γ : Nat) : ∀ (m β : Nat), β + m = γ → ∃ μ, β ≤ μ ∧ μ ≤ γ ∧ (∀ j, β ≤ j → j < μ → isWr (dr pl j) = false) ∧ (μ = γ ∨ isWr (dr pl μ) = true)
  | 0, β, h => ⟨β, Nat.le_refl _, by omega, fun j h1 h2 => by omega, .inl (by omega)⟩
  | m + 1, β, h => by
    cases hb : isWr (dr pl β) with
    | true => exact ⟨β, Nat.le_refl _, by omega, fun j h1 h2 => by omega, .inr hb⟩
    | false =>
      obtain ⟨μ, h1, h2, h3, h4⟩ := next_wr pl γ m (β + 1) (by omega)
      refine ⟨μ, by omega, h2, fun j k1 k2 => ?_, h4⟩
      by_cases e : j = β
      · subst e; exact hb
      · exact h3 j (by omega) k2
theorem J.begin (R : Reg C rec f nt ops pl es hs out Ns) {B : Base} {S : Nat → Prop} {a : Act} {w : World} {ρ : Map} {F : Nat → Prop} {β : Nat} (hβ : β ≤ pl.length)
    (closed : ∀ (k : Nat) o, S k → ops.toList[k]? = some o → ∀ e ∈ o.after, Region.binds .any e = true → S e.on) (pre : ∀ j, j < β → (dr pl j).kind ≠ .pure → S j) (post : ∀ j, β ≤ j → S j → (dr pl j).kind = .pure)
    (nsb : Ns β = lnOf hs β) (offb : β < pl.length → (dr pl β).offs = 0) (hr : HR C ρ F (hs β) w) (ext : Ext C B.ρ B.F B.H B.w ρ F (hs β) w) (vals : ∀ t s m, W pl (es 0) out (lnOf hs) S t s m → VR w F (ρ.cut m) s (a.tmps.getD t undef))
    (sz : nt ≤ a.tmps.size) (mk : Marks ρ F (hs β) w B.lo a.defers) : ∃ μ γ, J C nt ops pl es hs out Ns B S a w ρ F β μ γ := by
  obtain ⟨γ, h1, h2, h3, h4⟩ := next_bar pl (pl.length - β) β (by omega)
  obtain ⟨μ, n1, n2, n3, n4⟩ := next_wr pl γ (γ - β) β (by omega)
  obtain ⟨X, g1⟩ := R.seg' n1 (by omega) (fun j q1 q2 => h3 j q1 (by omega)) n3
  have novis : ∀ k, S k → β ≤ k → k < μ → lnOf hs (k + 1) = lnOf hs k := by
    intro k k1 k2 k3
    obtain ⟨o, d, h⟩ := at_lt (pl := pl) (i := k) (by omega)
    have hp := post k k2 k1
    rw [dr_at h] at hp
    have hl := (R.step_len h (by rw [hp]; simp)).1
    rw [(R.dok.pur k o d h hp).2] at hl
    omega
  have hv : ∀ b, Vis hs S β μ b → b < lnOf hs β := by
    intro b h
    rcases h with h | ⟨k, k1, k2, k3, k4, k5⟩
    · exact h
    · have := novis k k1 k2 k3; omega
  have hb : ∀ (b : Nat) x, x.live = true → ((Gh (hs μ) (Vis hs S β μ)).bl[b]? = some x ↔ (hs β).bl[b]? = some x) := by
    intro b x hx
    constructor
    · intro h
      obtain ⟨q1, q2⟩ := gh_live h hx
      rw [g1] at q2
      rwa [List.getElem?_append_left (hv b q1)] at q2
    · intro h
      have hlt := (List.getElem?_eq_some_iff.1 h).1
      refine gh_at (.inl hlt) ?_
      rw [g1]
      simp only
      rw [List.getElem?_append_left hlt]; exact h
  have hlen : (hs β).bl.length ≤ (Gh (hs μ) (Vis hs S β μ)).bl.length := by rw [gh_len]; exact R.mono n1 (by omega)
  obtain ⟨p1, p2⟩ := hr.pad hb hlen (by simp [Gh, g1]) (by simp [Gh, g1])
  refine ⟨μ, γ, ⟨closed, n1, n2, h2, h3, h4, n4.imp id (fun hw => ⟨hw, fun hS => by
      have := post μ n1 hS
      obtain ⟨rd, hk⟩ := isWr_iff.1 hw
      rw [hk] at this; cases this⟩), fun j k1 k2 k3 => (by rw [n3 j k1 k2] at k3; cases k3), pre, fun j k1 k2 => by rw [post j k1 k2]; simp, nsb, offb, ext.ln, p1, fun b l h => .inl (hr.dom b l h), fun b x l hb' hbx hx hl => ?_, fun k b x l k1 k2 k3 k4 k5 => ?_, ext.trans p2, vals, sz, mk.ext p2.toExt0⟩⟩
  · rw [g1] at hbx
    simp only at hbx
    rw [List.getElem?_append_left hb'] at hbx
    obtain ⟨l2, q2, q3⟩ := hr.live b x hbx hx
    rw [hl] at q2; cases q2
    exact q3.mono (fun _ _ => rfl) (fun _ h => h) (fun b1 l1 h => ⟨l1, by rw [cut_at (hr.dom b1 l1 h)]; exact h, .inl rfl⟩) (fun _ => rfl)
  · have := novis k k1 k2 k3; omega
theorem J.bar (R : Reg C rec f nt ops pl es hs out Ns) (j : J C nt ops pl es hs out Ns B S a w ρ F β μ γ) {i : Nat} {o : Oper1} {d : Draw1} (hi : pl[i]? = some (o, d)) (hS : ¬ S i)
    (hcl : ∀ o, ops.toList[i]? = some o → ∀ e ∈ o.after, Region.binds .any e = true → S e.on) (hb : d.kind = .bar) (hdst : ∀ d, o.dst = some d → d < nt) :
    HR C ρ F (hs i) w ∧ ∀ val w', Done C ρ F (hs i) w (out i) (hs (i + 1)) val w' → ∃ ρ' F' β' μ' γ', J C nt ops pl es hs out Ns B (fun k => S k ∨ k = i) (a.put o.dst val) w' ρ' F' β' μ' γ' := by
  have hlt := (List.getElem?_eq_some_iff.1 hi).1
  have bf := j.before R hcl
  have bh := j.behind R hS
  have hdi : (dr pl i).kind = .bar := by rw [dr_at hi]; exact hb
  have lt := bef_lt R.dok.edge
  have h1 : β ≤ i := by
    rcases Nat.lt_or_ge i β with h | h
    · exact absurd (j.pre i h (by rw [hdi]; simp)) hS
    · exact h
  have hall : ∀ k, k < i → (dr pl k).kind ≠ .pure → S k := by
    intro k hk hp
    rcases R.dok.bar i k hlt (by omega) hdi hp with h | h | h
    · omega
    · have := lt k i h; omega
    · exact bf k h
  have h2 : i = γ := by
    rcases Nat.lt_trichotomy i γ with h | h | h
    · exact absurd hdi (j.nobar i h1 h)
    · exact h
    · rcases j.atg with h' | h'
      · omega
      · exact absurd h' (j.post γ (Nat.le_trans j.le j.leM) (hall γ h (by rw [h']; simp)))
  subst h2
  obtain ⟨hμ, hG⟩ := j.full R hall
  replace hμ := hμ.symm
  subst hμ
  have hr := j.hr
  rw [hG] at hr
  refine ⟨hr, fun val w' hd => ?_⟩
  obtain ⟨ρ2, F2, d1, d2, d3⟩ := hd
  have hext := j.ext
  rw [hG] at hext
  have hmk := j.mks
  rw [hG] at hmk
  obtain ⟨μ', γ', h⟩ := J.begin R (B := B) (S := fun k => S k ∨ k = i) (a := a.put o.dst val) (w := w') (ρ := ρ2) (F := F2) (β := i + 1) (by omega)
    (fun k o' hk' ho' e he hbd => by
      rcases hk' with hk' | rfl
      · exact .inl (j.closed k o' hk' ho' e he hbd)
      · exact .inl (hcl o' ho' e he hbd))
    (fun k hk hp => by
      by_cases e : k = i
      · exact .inr e
      · exact .inl (hall k (by omega) hp))
    (fun k hk hSk => by
      have hSk : S k := hSk.resolve_right (by omega)
      apply Classical.byContradiction
      intro hp
      have hkl : k < pl.length := by
        rcases Nat.lt_or_ge k pl.length with h | h
        · exact h
        · exact absurd (by unfold dr; rw [List.getElem?_eq_none h]; rfl) hp
      rcases R.dok.bar i k hlt hkl hdi hp with h | h | h
      · omega
      · exact bh k hSk h
      · have := lt i k h; omega)
    (by rw [R.tr.nx i o d hi]; unfold nextN; rw [hb])
    (fun h => by
      rw [R.dok.offsS i h, isBar_iff.2 hdi]; rfl)
    d2 (hext.trans d3)
    (j.vals' R hi hS (d3.keeps hr) d3.fro d3.le (d1.mono (fun _ _ => rfl) (fun _ h => h) (fun b l h => ⟨l, by rw [cut_at (d2.dom b l h)]; exact h, .inl rfl⟩)) hdst)
    (by cases o.dst with
      | none => exact j.sz
      | some u => simpa [Act.put] using j.sz)
    (by
      have : (a.put o.dst val).defers = a.defers := by cases o.dst <;> rfl
      rw [this]
      exact hmk.ext d3.toExt0)
  exact ⟨ρ2, F2, _, μ', γ', h⟩
theorem gh_get {H : Heap} {vis : Nat → Prop} {b : Nat} (hv : vis b) : (Gh H vis).bl[b]? = H.bl[b]? := by
  unfold Gh
  cases h : H.bl[b]? with
  | none => simp [h]
  | some x => simp [h, hv]
open Classical in
theorem gh_set {H H' : Heap} {vis : Nat → Prop} {b r : Nat} {y : SBlk} (hv : vis b) (h : hset H b y r = some H') : hset (Gh H vis) b y r = some (Gh H' vis) := by
  unfold hset at h ⊢
  replace h := bif_some h
  obtain ⟨h1, h2⟩ := h
  have h3 : (decide ((Gh H vis).ro ≤ b) && decide (b < (Gh H vis).bl.length)) = true := by rw [gh_len]; exact h1
  rw [h3]
  cases h2
  simp only [cond_true, Option.some.injEq]
  have : (Gh H vis).bl.set b y = (H.bl.set b y).mapIdx (fun b x => if vis b then x else SBlk.dead) := by
    apply List.ext_getElem?
    intro c
    by_cases e : c = b
    · subst e
      simp only [List.getElem?_set, gh_len, List.getElem?_mapIdx, List.length_set]
      by_cases hl : c < H.bl.length
      · simp [hl, hv]
      · simp [hl]
    · rw [List.getElem?_set_ne (Ne.symm e), List.getElem?_mapIdx, List.getElem?_set_ne (Ne.symm e)]
      unfold Gh
      rw [List.getElem?_mapIdx]
  rw [this]
  rfl
theorem gh_store {H H' : Heap} {vis : Nat → Prop} {n b v i o : Nat} {x : SV} (hv : vis b) (h : sstore n H x (.ptr b v i o) = some H') : sstore n (Gh H vis) x (.ptr b v i o) = some (Gh H' vis) := by
  have hg : hget (Gh H vis) b = hget H b := gh_get hv
  unfold sstore at h ⊢
  simp only [Option.bind_eq_some_iff] at h ⊢
  obtain ⟨xs, h1, h⟩ := h
  refine ⟨xs, h1, ?_⟩
  rw [hg]
  replace h := bif_some h
  obtain ⟨h2, h⟩ := h
  rw [h2]
  simp only [cond_true]
  split at h
  · replace h := bif_some h
    rw [h.1]; exact gh_set hv h.2
  · replace h := bif_some h
    obtain ⟨h3, h⟩ := h
    rw [h3]
    simp only [cond_true]
    split at h
    · replace h := bif_some h
      rw [h.1]; exact gh_set hv h.2
    · cases h
  · cases h
theorem J.place (R : Reg C rec f nt ops pl es hs out Ns) (j : J C nt ops pl es hs out Ns B S a w ρ F β μ γ) {i : Nat} {o : Oper1} {d : Draw1} (hi : pl[i]? = some (o, d)) (hS : ¬ S i)
    (hcl : ∀ o, ops.toList[i]? = some o → ∀ e ∈ o.after, Region.binds .any e = true → S e.on) (hp : d.kind ≠ .pure) (hb : d.kind ≠ .bar) : β ≤ i ∧ i < γ ∧ (isWr d = true → i = μ) ∧ (isWr d = false → i < μ) := by
  have hlt := (List.getElem?_eq_some_iff.1 hi).1
  have bf := j.before R hcl
  have bh := j.behind R hS
  have lt := bef_lt R.dok.edge
  have hdi : dr pl i = d := dr_at hi
  have hβ : β ≤ i := by
    rcases Nat.lt_or_ge i β with h | h
    · exact absurd (j.pre i h (by rw [hdi]; exact hp)) hS
    · exact h
  have hγ : i < γ := by
    rcases Nat.lt_or_ge i γ with h | h
    · exact h
    · exfalso
      rcases j.atg with h' | h'
      · omega
      · have hne : γ ≠ i := fun e => by rw [e, hdi] at h'; exact hb h'
        rcases R.dok.bar γ i (by omega) hlt h' (by rw [hdi]; exact hp) with h1 | h1 | h1
        · exact hne h1
        · exact absurd h' (j.post γ (Nat.le_trans j.le j.leM) (bf γ h1))
        · have := lt γ i h1; omega
  refine ⟨hβ, hγ, fun hw => ?_, fun hw => ?_⟩
  · rcases Nat.lt_trichotomy i μ with h | h | h
    · exact absurd (j.wdone i hβ h (by rw [hdi]; exact hw)) hS
    · exact h
    · rcases j.atm with h' | ⟨h1, h2⟩
      · omega
      · exact absurd (bf μ (R.dok.wrl μ i (by omega) hlt h1 h (by rw [hdi]; exact hp))) h2
  · rcases Nat.lt_trichotomy i μ with h | h | h
    · exact h
    · rcases j.atm with h' | ⟨h1, h2⟩
      · omega
      · rw [← h, hdi, hw] at h1; cases h1
    · rcases j.atm with h' | ⟨h1, h2⟩
      · omega
      · exact absurd (bf μ (R.dok.wrl μ i (by omega) hlt h1 h (by rw [hdi]; exact hp))) h2
theorem Reg.maker (R : Reg C rec f nt ops pl es hs out Ns) {β i b : Nat} (hβ : β ≤ i) (hi : i ≤ pl.length) (hb : ∀ m, β ≤ m → m < i → (dr pl m).kind ≠ .bar) (h0 : ¬ b < lnOf hs β) (h : b < lnOf hs i) :
    ∃ k, β ≤ k ∧ k < i ∧ lnOf hs k ≤ b ∧ b < lnOf hs (k + 1) ∧ (dr pl k).kind = .seg ∧ b < lnOf hs k + (dr pl k).nal := by
  have key : ∀ m, β + m ≤ i → b < lnOf hs (β + m) → ∃ k, β ≤ k ∧ k < i ∧ lnOf hs k ≤ b ∧ b < lnOf hs (k + 1) := by
    intro m
    induction m with
    | zero => intro _ h; exact absurd h h0
    | succ m ih =>
      intro h1 h2
      by_cases h3 : b < lnOf hs (β + m)
      · exact ih (by omega) h3
      · exact ⟨β + m, by omega, by omega, by omega, h2⟩
  obtain ⟨k, k1, k2, k3, k4⟩ := key (i - β) (by omega) (by rwa [show β + (i - β) = i by omega])
  obtain ⟨ok, dk, hk⟩ := at_lt (pl := pl) (i := k) (by omega)
  have hnbk : dk.kind ≠ .bar := by have := hb k k1 k2; rwa [dr_at hk] at this
  have hl := (R.step_len hk hnbk).1
  refine ⟨k, k1, k2, k3, k4, ?_, by rw [dr_at hk]; omega⟩
  rw [dr_at hk]
  cases hkk : dk.kind with
  | bar => exact absurd hkk hnbk
  | pure => have := (R.dok.pur k ok dk hk hkk).2; omega
  | wr rd =>
    have := R.dok.wrk k (by omega) (by rw [dr_at hk]; exact isWr_iff.2 ⟨rd, hkk⟩)
    rw [dr_at hk] at this; omega
  | seg => rfl
theorem J.seen (R : Reg C rec f nt ops pl es hs out Ns) (j : J C nt ops pl es hs out Ns B S a w ρ F β μ γ) {i b : Nat} {o : Oper1} {d : Draw1} (hi : pl[i]? = some (o, d)) (hS : ¬ S i)
    (hcl : ∀ o, ops.toList[i]? = some o → ∀ e ∈ o.after, Region.binds .any e = true → S e.on) (hd : d.kind = .seg ∨ isWr d = true) (hβ : β ≤ i) (hiμ : i ≤ μ) (hb : b < lnOf hs i) (hh : ∀ m ∈ d.hide, b ≠ Ns i + m) : Vis hs S β μ b ∧ Vis hs S β i b := by
  have hlt := (List.getElem?_eq_some_iff.1 hi).1
  have bf := j.before R hcl
  have hnb : ∀ g, β ≤ g → g < i → (dr pl g).kind ≠ .bar := fun g h1 h2 => j.nobar g h1 (by have := j.leM; omega)
  by_cases h0 : b < lnOf hs β
  · exact ⟨.inl h0, .inl h0⟩
  · obtain ⟨k, k1, k2, k3, k4, k5, k6⟩ := R.maker hβ (by omega) hnb h0 hb
    have hSk : S k := by
      rcases R.dok.hide i hlt (by rw [dr_at hi]; exact hd) k k2 k5 with ⟨m, m1, m2, m3⟩ | h | h
      · exact absurd m3 (hnb m (by omega) m2)
      · exact bf k h
      · exfalso
        have hoff := R.offs (j.offb (by omega)) (k - β) (fun m h1 h2 => hnb m h1 (by omega)) (by omega)
        rw [show β + (k - β) = k by omega] at hoff
        have hNs : Ns i = lnOf hs β := by rw [R.nsc hβ (by omega) hnb, j.nsb]
        have hoff' : lnOf hs k = lnOf hs β + (dr pl k).offs := hoff
        have := h (b - lnOf hs k) (by omega)
        rw [dr_at hi] at this
        exact hh _ this (by rw [hNs]; omega)
    exact ⟨.inr ⟨k, hSk, k1, by omega, k3, k4⟩, .inr ⟨k, hSk, k1, k2, k3, k4⟩⟩
theorem J.wr (R : Reg C rec f nt ops pl es hs out Ns) (j : J C nt ops pl es hs out Ns B S a w ρ F β μ γ) {i : Nat} {o : Oper1} {d : Draw1} {rd : List (Opd × Nat)} (hi : pl[i]? = some (o, d)) (hS : ¬ S i)
    (hcl : ∀ o, ops.toList[i]? = some o → ∀ e ∈ o.after, Region.binds .any e = true → S e.on) (hk : d.kind = .wr rd) (hdst : ∀ d, o.dst = some d → d < nt) :
    ∃ n p x V V', o.op = .store n p x ∧ wanted1 (es i) o.g ∧ HR C ρ F V w ∧ sstore n V (ev (es i) x) (ev (es i) p) = some V' ∧
      ∀ w', HR C ρ F V' w' → Ext C ρ F V w ρ F V' w' → CutOK C ρ F V V' w w' (ev (es i) x).refs → ∃ μ', J C nt ops pl es hs out Ns B (fun k => S k ∨ k = i) (a.put o.dst undef) w' ρ F β μ' γ := by
  have hlt := (List.getElem?_eq_some_iff.1 hi).1
  have hw : isWr d = true := isWr_iff.2 ⟨rd, hk⟩
  have bf := j.before R hcl
  have bh := j.behind R hS
  obtain ⟨hβ, hγ, hμ, _⟩ := j.place R hi hS hcl (by rw [hk]; simp) (by rw [hk]; simp)
  have hμ := hμ hw
  subst hμ
  obtain ⟨n, p, x, hop, hwt, hrefs, htgt, _, hst, hout, hN⟩ := R.wr hi hk
  have hNs : Ns i = lnOf hs β := by rw [R.nsc hβ (by omega) (fun m h1 h2 => j.nobar m h1 (by omega)), j.nsb]
  rw [hNs] at hrefs
  obtain ⟨b, v, ii, oo, xs, y0, y1, hp, hxs, hxn, hb0, hl0, hl1, hsh, hset0, _⟩ := sstore_spec hst
  have hbl : b < lnOf hs i := (List.getElem?_eq_some_iff.1 hb0).1
  have hvis : Vis hs S β i b := (j.seen R hi hS hcl (.inr hw) hβ (Nat.le_refl _) hbl (fun m hm e => by
    rw [hp] at htgt
    simp only [tgt1] at htgt
    have := List.all_eq_true.1 htgt m hm
    simp only [Bool.not_eq_true', beq_eq_false_iff_ne] at this
    exact this e.symm)).2
  have hstV : sstore n (Gh (hs i) (Vis hs S β i)) (ev (es i) x) (ev (es i) p) = some (Gh (hs (i + 1)) (Vis hs S β i)) := by
    rw [hp] at hst ⊢; exact gh_store hvis hst
  refine ⟨n, p, x, _, _, hop, hwt, j.hr, hstV, fun w' q1 q2 q3 => ?_⟩
  have hln : lnOf hs (i + 1) = lnOf hs i := R.wr_len hi hw
  obtain ⟨μ, n1, n2, n3, n4⟩ := next_wr pl γ (γ - (i + 1)) (i + 1) (by omega)
  obtain ⟨X, g1⟩ := R.seg' n1 (by have := j.leN; omega) (fun m h1 h2 => j.nobar m (by omega) (by omega)) n3
  have late : ∀ k, S k → i < k → k < pl.length → (dr pl k).kind = .pure := by
    intro k h1 h2 h3
    apply Classical.byContradiction
    intro hp'
    exact bh k h1 (R.dok.wrl i k hlt h3 (by rw [dr_at hi]; exact hw) h2 hp')
  have nob : ∀ k, k < μ → (S k ∨ k = i) → β ≤ k → i ≤ k → lnOf hs (k + 1) = lnOf hs k := by
    intro k k0 k1 k2 k3
    rcases Nat.lt_or_ge i k with h | h
    · have hkl : k < pl.length := by have := j.leN; omega
      have hp' := late k (k1.resolve_right (by omega)) h hkl
      obtain ⟨ok, dk, hk'⟩ := at_lt hkl
      rw [dr_at hk'] at hp'
      have := (R.step_len hk' (by rw [hp']; simp)).1
      rw [(R.dok.pur k ok dk hk' hp').2] at this
      omega
    · have : k = i := by omega
      subst this; exact hln
  have vis2 : ∀ b, Vis hs (fun k => S k ∨ k = i) β μ b → Vis hs S β i b := by
    intro b h
    rcases h with h | ⟨k, k1, k2, k3, k4, k5⟩
    · exact .inl h
    · rcases Nat.lt_or_ge k i with h | h
      · exact .inr ⟨k, k1.resolve_right (by omega), k2, h, k4, k5⟩
      · have := nob k k3 k1 k2 h; omega
  have vis1 : ∀ b, Vis hs S β i b → Vis hs (fun k => S k ∨ k = i) β μ b := by
    intro b h
    rcases h with h | ⟨k, k1, k2, k3, k4, k5⟩
    · exact .inl h
    · exact .inr ⟨k, .inl k1, k2, by omega, k4, k5⟩
  have visl : ∀ b, Vis hs S β i b → b < lnOf hs (i + 1) := by
    intro b h
    rw [hln]
    rcases h with h | ⟨k, k1, k2, k3, k4, k5⟩
    · exact Nat.lt_of_lt_of_le h (R.mono hβ (by omega))
    · exact Nat.lt_of_lt_of_le k5 (R.mono k3 (by omega))
  have hat : ∀ b, b < lnOf hs (i + 1) → (hs μ).bl[b]? = (hs (i + 1)).bl[b]? := fun b hb => by
    rw [g1]
    simp only
    rw [List.getElem?_append_left hb]
  obtain ⟨p1, p2⟩ := q1.pad (H' := Gh (hs μ) (Vis hs (fun k => S k ∨ k = i) β μ)) (fun b x hx => by
    constructor
    · intro h
      obtain ⟨u1, u2⟩ := gh_live h hx
      have := vis2 b u1
      rw [hat b (visl b this)] at u2
      exact gh_at this u2
    · intro h
      obtain ⟨u1, u2⟩ := gh_live h hx
      exact gh_at (vis1 b u1) (by rw [hat b (visl b u1)]; exact u2)) (by rw [gh_len, gh_len]; exact R.mono n1 (by have := j.leN; omega)) (by simp [Gh, g1]) (by simp [Gh, g1])
  have q2' := q2.trans p2
  have hold : ∀ (b : Nat) y, Vis hs S β i b → (hs μ).bl[b]? = some y → y.live = true → ∃ z, (hs i).bl[b]? = some z ∧ z.live = true ∧ (Gh (hs i) (Vis hs S β i)).bl[b]? = some z ∧ (Gh (hs (i + 1)) (Vis hs S β i)).bl[b]? = some y := by
    intro b y hv hy hyl
    rw [hat b (visl b hv)] at hy
    have hsh2 : ShapeL (hs i).bl (hs (i + 1)).bl := by rw [(hset_spec hset0).2.2.1]; exact ShapeL.set hb0 hsh
    rcases hsh2.get b with ⟨_, h⟩ | ⟨z, y', h1, h2, h3⟩
    · rw [h] at hy; cases hy
    · rw [h2] at hy; cases hy
      exact ⟨z, h1, by rw [shape1_live h3]; exact hyl, gh_at hv h1, gh_at hv h2⟩
  refine ⟨μ, ⟨fun k o' hk' ho' e he hbd => ?_, by omega, n2, j.leN, j.nobar, j.atg, n4.imp id (fun h => ⟨h, fun hs' => ?_⟩), fun k h1 h2 h3 => ?_, fun k h1 h2 => .inl (j.pre k h1 h2), fun k h1 h2 => ?_, j.nsb, j.offb, j.lnB, p1, fun b l h => vis1 b (j.dom b l h),
    fun b y l hb hy hyl hl => ?_, fun k b y l k1 k2 k3 k4 k5 hy hyl hl => ?_, j.ext.trans q2', ?_, ?_, ?_⟩⟩
  · rcases hk' with hk' | rfl
    · exact .inl (j.closed k o' hk' ho' e he hbd)
    · exact .inl (hcl o' ho' e he hbd)
  · rcases hs' with h1 | h1
    · have hμl : μ < pl.length := by
        rcases Nat.lt_or_ge μ pl.length with h2 | h2
        · exact h2
        · unfold dr at h; rw [List.getElem?_eq_none h2] at h; cases h
      have := late μ h1 (by omega) hμl
      obtain ⟨rd', h'⟩ := isWr_iff.1 h
      rw [h'] at this; cases this
    · omega
  · rcases Nat.lt_trichotomy k i with h | h | h
    · exact .inl (j.wdone k h1 h h3)
    · exact .inr h
    · rw [n3 k h h2] at h3; cases h3
  · rcases h2 with h2 | rfl
    · exact j.post k h1 h2
    · rw [dr_at hi, hk]; simp
  · obtain ⟨z, z1, z2, z3, z4⟩ := hold b y (.inl hb) hy hyl
    exact q3 (lnOf hs β) hrefs b z y l z3 z2 z4 hl (j.brO b z l hb z1 z2 hl)
  · rcases Nat.lt_or_ge k i with h | h
    · have hSk : S k := k1.resolve_right (by omega)
      obtain ⟨z, z1, z2, z3, z4⟩ := hold b y (.inr ⟨k, hSk, k2, h, k4, k5⟩) hy hyl
      have hle : lnOf hs β ≤ lnOf hs (k + 1) := R.mono (by omega) (by omega)
      exact q3 (lnOf hs (k + 1)) (Nat.le_trans hrefs hle) b z y l z3 z2 z4 hl (j.brN k b z l hSk k2 h k4 k5 z1 z2 hl)
    · have := nob k k3 k1 k2 h; omega
  · exact j.vals' R hi hS (q2.keeps j.hr) (fun _ h => h) (Map.le_refl _) (by rw [hout]; exact .undef _) hdst
  · cases o.dst with
    | none => exact j.sz
    | some u => simpa [Act.put] using j.sz
  · have : (a.put o.dst undef).defers = a.defers := by cases o.dst <;> rfl
    rw [this]
    exact j.mks.ext q2'.toExt0
theorem hide1_len (N : Nat) : ∀ (ds : List Nat) (l : List SBlk), (hide1 N ds l).length = l.length
  | [], _ => rfl
  | d :: ds, l => by
    have := hide1_len N ds (l.set (N + d) .dead)
    unfold hide1 at this ⊢
    simpa using this
theorem hide1_live (N : Nat) : ∀ (ds : List Nat) (l : List SBlk) (b : Nat) (x : SBlk), (hide1 N ds l)[b]? = some x → x.live = true → l[b]? = some x ∧ ∀ d ∈ ds, b ≠ N + d
  | [], l, b, x, h, _ => ⟨h, by simp⟩
  | d :: ds, l, b, x, h, hx => by
    obtain ⟨h1, h2⟩ := hide1_live N ds (l.set (N + d) .dead) b x (by unfold hide1 at h ⊢; simpa using h) hx
    have hne : b ≠ N + d := by
      intro e
      rw [← e] at h1
      have hlt := (List.getElem?_eq_some_iff.1 h1).1
      simp at hlt
      simp [hlt] at h1
      subst h1; cases hx
    rw [List.getElem?_set_ne (Ne.symm hne)] at h1
    exact ⟨h1, fun d' hd' => by
      rcases List.mem_cons.1 hd' with rfl | hd'
      · exact hne
      · exact h2 d' hd'⟩
theorem hide1_at (N : Nat) : ∀ (ds : List Nat) (l : List SBlk) (b : Nat), (∀ d ∈ ds, b ≠ N + d) → (hide1 N ds l)[b]? = l[b]?
  | [], _, _, _ => rfl
  | d :: ds, l, b, h => by
    have := hide1_at N ds (l.set (N + d) .dead) b (fun d' hd' => h d' (List.mem_cons_of_mem _ hd'))
    unfold hide1 at this ⊢
    rw [List.foldl_cons, this, List.getElem?_set_ne (Ne.symm (h d (List.mem_cons_self ..)))]
theorem er_live {o : Oper1} {e : Env} {tmps : Array Value} {F : Nat → Prop} {ρ : Map} {w : World} (h : ∀ t ∈ opTmps o, VR w F ρ (get e t) (tmps.getD t undef)) : ER w F ρ (live1 (opTmps o) e) tmps := by
  intro t
  rw [get_live]
  cases hm : (opTmps o).contains t with
  | false => exact .undef _
  | true => exact h t (by simpa using hm)
theorem step1_live {o : Oper1} {e : Env} {H : Heap} : step1 rec (live1 (opTmps o) e) H o.op = step1 rec e H o.op :=
  step1_congr (fun t ht => by rw [get_live]; simp [ht])
theorem J.step (hrec : RecOK C rec) (R : Reg C rec f nt ops pl es hs out Ns) (j : J C nt ops pl es hs out Ns B S a w ρ F β μ γ) {i : Nat} (hi : i < pl.length) (hS : ¬ S i)
    (hcl : ∀ o, ops.toList[i]? = some o → ∀ e ∈ o.after, Region.binds .any e = true → S e.on) {ro : Option Nat} {n : Nat} {Q : Exit → Act → World → Prop} {K : Act → World → Prop}
    (hK : ∀ a' w' ρ' F' β' μ' γ', J C nt ops pl es hs out Ns B (fun k => S k ∨ k = i) a' w' ρ' F' β' μ' γ' → K a' w') : wpOpIn (WF ro) n C.P ops Q i K a w := by
  obtain ⟨o, d, ho⟩ := at_lt hi
  obtain ⟨op, hop, hco⟩ := R.hop i o d ho
  unfold wpOpIn
  simp only [hop]
  unfold coper at hco
  replace hco := bif_none hco
  obtain ⟨hdst, hco⟩ := hco
  have hdst' : ∀ d, op.dst = some d → d < nt := fun d hd => by rw [hd] at hdst; simpa using hdst
  have hslots := j.slots R ho hS hcl
  have go : ∀ (hd : op.dst = o.dst) (hopo : o.op = lit1 (lk C.pol f op.dst) ((cop C.P op.op).getD .bad)), step1d rec (Ns i) d (es i) (hs i) o.op = some (out i, hs (i + 1)) → op.wpIn (WF ro) n C.P a w K Q := by
    intro hd hopo hst
    unfold step1d at hst
    split at hst
    · rename_i hk
      obtain ⟨g1, g2⟩ := R.dok.pur i o d ho hk
      obtain ⟨g3, g4⟩ := pure_op g1 hst
      have hr := j.sub R (i := i) (V := { bl := List.replicate (lnOf hs i) .dead, esc := [], ro := lnOf hs i }) (by omega) (by simp) (fun b x hb hx => by
        simp only [List.getElem?_replicate] at hb
        split at hb
        · cases hb; cases hx
        · cases hb)
      have hs1 := g4 { bl := List.replicate (lnOf hs i) .dead, esc := [], ro := lnOf hs i }
      rw [← step1_live] at hs1
      refine step1_lit hrec hopo hs1 hr (er_live hslots) (fun val w' hdn => ?_)
      have hln : lnOf hs (i + 1) = lnOf hs i := by unfold lnOf; rw [g3]
      obtain ⟨ρ', F', h⟩ := j.quiet R ho hS hcl (by rw [hk]; simp) (by unfold isWr; rw [hk]) (by simp) rfl (by simp [hln]) rfl (fun b h1 h2 => by omega) (.inl hln) hdn (fun d h => hdst' d (by rw [hd]; exact h))
      rw [hd]
      exact hK _ _ _ _ _ _ _ h
    · rename_i hk
      simp only [Option.bind_eq_some_iff] at hst
      obtain ⟨r, h1, h2⟩ := hst
      replace h2 := bif_some h2
      obtain ⟨_, h2⟩ := h2
      cases h2
      obtain ⟨hr, hfin⟩ := j.bar R ho hS hcl hk (fun d h => hdst' d (by rw [hd]; exact h))
      rw [← step1_live] at h1
      refine step1_lit hrec hopo h1 hr (er_live (fun t ht => (hslots t ht).mono (fun _ _ => rfl) (fun _ h => h) (Map.cut_le _ _))) (fun val w' hdn => ?_)
      obtain ⟨ρ', F', β', μ', γ', h⟩ := hfin val w' hdn
      rw [hd]
      exact hK _ _ _ _ _ _ _ h
    · rename_i hk
      simp only [Option.bind_eq_some_iff] at hst
      obtain ⟨r, h1, h2⟩ := hst
      replace h2 := bif_some h2
      obtain ⟨h3, h2⟩ := h2
      simp only [Bool.and_eq_true, beq_iff_eq, List.isEmpty_iff] at h3
      obtain ⟨h3, h4⟩ := h3
      simp only [Option.some.injEq, Prod.mk.injEq] at h2
      obtain ⟨h5, h6⟩ := h2
      obtain ⟨s, V'⟩ := r
      simp only at h1 h3 h4 h5 h6
      subst h5
      have hdi : (dr pl i).kind = .seg := by rw [dr_at ho]; exact hk
      have hnw : isWr d = false := by unfold isWr; rw [hk]
      obtain ⟨hβ, hγ, _, hμ⟩ := j.place R ho hS hcl (by rw [hk]; simp) (by rw [hk]; simp)
      have hμ := hμ hnw
      have bh := j.behind R hS
      have hlM := j.leM
      have hlN := j.leN
      have hnb : ∀ g, β ≤ g → g < μ → (dr pl g).kind ≠ .bar := fun g h1 h2 => j.nobar g h1 (by omega)
      have hln : lnOf hs (i + 1) = lnOf hs i + d.nal := by
        unfold lnOf; rw [← h6]; simp; omega
      have hsz : lnOf hs i ≤ lnOf hs μ := R.mono (by omega) (by omega)
      have hnow : ∃ V1', step1 rec (es i) { bl := hide1 (Ns i) d.hide ((hs μ).bl.take (lnOf hs i)), esc := [], ro := lnOf hs i } o.op = some (out i, V1') ∧ V1'.bl.length = lnOf hs (i + 1) ∧ V1'.esc = [] ∧
          ∀ b, lnOf hs i ≤ b → b < lnOf hs (i + 1) → V1'.bl[b]? = (hs (i + 1)).bl[b]? := by
        have hbl1 : ∀ V0 : List SBlk, V0.length = lnOf hs i → ∀ b, lnOf hs i ≤ b → V'.bl[b]? = (hs (i + 1)).bl[b]? := fun V0 _ b h1 => by
          rw [← h6]
          simp only
          rw [List.getElem?_append_right h1, List.getElem?_drop]
          congr 1
          have : lnOf hs i = (hs i).bl.length := rfl
          omega
        by_cases hno : ∀ m, i < m → m < μ → isWr (dr pl m) = false
        · obtain ⟨X, hX⟩ := R.seg' (show i ≤ μ by omega) (by omega) (fun m h1 h2 => hnb m (by omega) h2) (fun m h1 h2 => by
            rcases Nat.lt_or_ge i m with h | h
            · exact hno m h h2
            · have : m = i := by omega
              subst this; rw [dr_at ho]; exact hnw)
          have : (hs μ).bl.take (lnOf hs i) = (hs i).bl := by
            rw [hX]
            simp only
            exact List.take_left' rfl
          rw [this]
          exact ⟨V', h1, by rw [h3, hln], h4, fun b h1 _ => hbl1 (hs i).bl rfl b h1⟩
        · have hind : ∀ m, i < m → m < μ → isWr (dr pl m) = true → blind1 o.op = true ∨ okRead pl i m o.op (dr pl m) = true := fun m m1 m2 m3 => by
            rcases R.dok.ind i m (o, d) (by omega) m1 m3 hdi ho with ⟨g, g1, g2, g3⟩ | h | h
            · exact absurd g3 (hnb g (by omega) (by omega))
            · exact absurd h (bh m (j.wdone m (by omega) m2 m3))
            · exact h
          have hsh : ShapeL (hide1 (Ns i) d.hide (hs i).bl) (hide1 (Ns i) d.hide ((hs μ).bl.take (lnOf hs i))) :=
            (R.shape (show i ≤ μ by omega) (by omega) (fun m h1 h2 => hnb m (by omega) h2)).hide _ _
          have hlen0 : (hide1 (Ns i) d.hide (hs i).bl).length = lnOf hs i := hide1_len _ _ _
          cases hbo : blind1 o.op with
          | true =>
            obtain ⟨X, x1, x2⟩ := blind_op hbo (V0 := { bl := hide1 (Ns i) d.hide (hs i).bl, esc := [], ro := (hs i).bl.length })
              (V1 := { bl := hide1 (Ns i) d.hide ((hs μ).bl.take (lnOf hs i)), esc := [], ro := lnOf hs i }) hsh h1
            refine ⟨_, x2, ?_, rfl, fun b b1 b2 => ?_⟩
            · have : V'.bl.length = (hide1 (Ns i) d.hide (hs i).bl).length + X.length := by rw [x1]; simp
              simp only [List.length_append]
              rw [← hsh.len]
              have hli : lnOf hs i = (hs i).bl.length := rfl
              omega
            · rw [← hbl1 (hs i).bl rfl b b1, x1]
              simp only
              rw [List.getElem?_append_right (by rw [← hsh.len]; omega), List.getElem?_append_right (by omega), hsh.len]
          | false =>
            have hrd : ∀ m, i < m → m < μ → isWr (dr pl m) = true → okRead pl i m o.op (dr pl m) = true := fun m m1 m2 m3 => by
              rcases hind m m1 m2 m3 with h | h
              · rw [hbo] at h; cases h
              · exact h
            have ⟨m0, m1, m2, m3⟩ : ∃ m, i < m ∧ m < μ ∧ isWr (dr pl m) = true := by
              apply Classical.byContradiction
              intro hn
              exact hno (fun m m1 m2 => by
                cases hw : isWr (dr pl m) with
                | false => rfl
                | true => exact absurd ⟨m, m1, m2, hw⟩ hn)
            obtain ⟨ag, z, u, rd0, hop, _, _, _⟩ := okRead_spec (hrd m0 m1 m2 m3)
            rw [hop] at h1
            have h1' : (sload ag z { bl := hide1 (Ns i) d.hide (hs i).bl, esc := [], ro := (hs i).bl.length } (get (es i) u)).map (fun v => (v, ({ bl := hide1 (Ns i) d.hide (hs i).bl, esc := [], ro := (hs i).bl.length } : Heap))) = some (out i, V') := h1
            simp only [Option.map_eq_some_iff, Prod.mk.injEq] at h1'
            obtain ⟨s', l1, e1, l2⟩ := h1'
            rw [e1] at l1
            have hnal : lnOf hs (i + 1) = lnOf hs i := by
              have : V'.bl.length = lnOf hs i := by rw [← l2]; exact hlen0
              have hli : lnOf hs i = (hs i).bl.length := rfl
              omega
            have hidden : ∀ b v ii oo, get (es i) u = .ptr b v ii oo → (∃ x, (hs i).bl[b]? = some x) ∧ ∀ m ∈ d.hide, b ≠ Ns i + m := fun b v ii oo hp => by
              rw [hp] at l1
              obtain ⟨x, q1, q2⟩ := load_live l1
              obtain ⟨q3, q4⟩ := hide1_live _ _ _ _ _ q1 q2
              exact ⟨⟨x, q3⟩, q4⟩
            have l3 : sload ag z (hs i) (get (es i) u) = some (out i) := load_block l1 (fun b v ii oo hp => by
              obtain ⟨_, q⟩ := hidden b v ii oo hp
              exact hide1_at _ _ (hs i).bl _ q)
            have l4 : sload ag z (hs μ) (get (es i) u) = some (out i) := R.loadk (show i ≤ μ by omega) (by omega) (fun m h1 h2 => hnb m (by omega) h2) l3 (fun m om dm n a' x h1 h2 hm hwm hopm => by
              have him : i < m := by
                rcases Nat.lt_or_ge i m with h | h
                · exact h
                · have : m = i := by omega
                  subst this
                  rw [ho] at hm; cases hm
                  rw [hnw] at hwm; cases hwm
              obtain ⟨ag', z', u', rd, hop', hkd, hmem, hslot⟩ := okRead_spec (hrd m him h2 (by rw [dr_at hm]; exact hwm))
              rw [hop] at hop'
              cases hop'
              rw [dr_at hm] at hkd
              obtain ⟨n', a2, x2, ho2, _, _, _, hdj, _⟩ := R.wr hm hkd
              rw [hopm] at ho2
              cases ho2
              have := hdj _ hmem
              simp only [ev] at this
              rw [R.envk (show i ≤ m by omega) (by omega) hslot] at this
              exact this)
            refine ⟨{ bl := hide1 (Ns i) d.hide ((hs μ).bl.take (lnOf hs i)), esc := [], ro := lnOf hs i }, ?_, by simp only; rw [← hsh.len, hlen0, hnal], rfl, fun b b1 b2 => by omega⟩
            rw [hop]
            show (sload ag z { bl := hide1 (Ns i) d.hide ((hs μ).bl.take (lnOf hs i)), esc := [], ro := lnOf hs i } (get (es i) u)).map _ = _
            rw [load_block l4 (H' := { bl := hide1 (Ns i) d.hide ((hs μ).bl.take (lnOf hs i)), esc := [], ro := lnOf hs i }) (fun b v ii oo hp => by
              obtain ⟨⟨x, q0⟩, q⟩ := hidden b v ii oo hp
              have hblt : b < lnOf hs i := (List.getElem?_eq_some_iff.1 q0).1
              simp only
              rw [hide1_at _ _ _ _ q, List.getElem?_take, if_pos hblt])]
            rfl
      obtain ⟨V1', r1, r2, r3, r4⟩ := hnow
      have hlive : ∀ (b : Nat) x, (hide1 (Ns i) d.hide ((hs μ).bl.take (lnOf hs i)))[b]? = some x → x.live = true → β ≤ i ∧ i ≤ μ ∧ Vis hs S β μ b ∧ (hs μ).bl[b]? = some x := by
        intro b x hb hx
        obtain ⟨u1, u2⟩ := hide1_live _ _ _ _ _ hb hx
        rw [List.getElem?_take] at u1
        split at u1
        · rename_i hblt
          exact ⟨hβ, by omega, (j.seen R ho hS hcl (.inl hk) hβ (by omega) hblt u2).1, u1⟩
        · cases u1
      have hVl : (hide1 (Ns i) d.hide ((hs μ).bl.take (lnOf hs i))).length = lnOf hs i := by
        rw [hide1_len, List.length_take]; exact Nat.min_eq_left hsz
      have hr := j.sub R (i := i) (V := { bl := hide1 (Ns i) d.hide ((hs μ).bl.take (lnOf hs i)), esc := [], ro := lnOf hs i }) (by omega) hVl hlive
      rw [← step1_live] at r1
      refine step1_lit hrec hopo r1 hr (er_live hslots) (fun val w' hdn => ?_)
      obtain ⟨ρ', F', h⟩ := j.quiet R ho hS hcl (by rw [hk]; simp) hnw hVl rfl r2 r3 (fun b b1 b2 => by
          rw [r4 b b1 b2]
          symm
          refine R.keepb (show i + 1 ≤ μ by omega) (by omega) (fun m h1 h2 => hnb m (by omega) h2) b2 (fun m om dm n a' x m1 m2 hm hwm hopm v jj q hp => ?_)
          have hSm : S m := j.wdone m (by omega) m2 (by rw [dr_at hm]; exact hwm)
          obtain ⟨rd, hkd⟩ := isWr_iff.1 hwm
          obtain ⟨n', a2, x2, ho2, _, _, htgt, _, _⟩ := R.wr hm hkd
          rw [hopm] at ho2
          cases ho2
          rw [hp] at htgt
          rcases R.dok.hide m (by omega) (.inr (by rw [dr_at hm]; exact hwm)) i (by omega) hdi with ⟨g, g1, g2, g3⟩ | h | h
          · exact hnb g (by omega) (by omega) g3
          · exact bh m hSm h
          · have hoff := R.offs (j.offb (by omega)) (i - β) (fun m h1 h2 => hnb m h1 (by omega)) (by omega)
            rw [show β + (i - β) = i by omega] at hoff
            have hoff' : lnOf hs i = lnOf hs β + (dr pl i).offs := hoff
            have := h (b - lnOf hs i) (by rw [dr_at ho]; omega)
            rw [dr_at hm] at this
            simp only [tgt1] at htgt
            have := List.all_eq_true.1 htgt _ this
            have hNs : Ns m = lnOf hs β := by rw [R.nsc (show β ≤ m by omega) (by omega) (fun g g1 g2 => hnb g g1 (by omega)), j.nsb]
            simp only [Bool.not_eq_true', beq_eq_false_iff_ne] at this
            rw [hNs] at this
            omega) (.inr ⟨hβ, hμ⟩) hdn (fun d h => hdst' d (by rw [hd]; exact h))
      rw [hd]
      exact hK _ _ _ _ _ _ _ h
    · rename_i rd hk
      obtain ⟨n', p, x, V, V', hop', hwt, hrV, hsV, hfin⟩ := j.wr R ho hS hcl hk (fun d h => hdst' d (by rw [hd]; exact h))
      have hev : ∀ y ∈ [p, x], ev (live1 (opTmps o) (es i)) y = ev (es i) y := fun y hy => by
        cases y with
        | c v => rfl
        | t u =>
          have hm : u ∈ opTmps o := by
            unfold opTmps
            rw [hop']
            refine List.mem_append_left _ ?_
            unfold opTmps.f
            exact List.mem_filterMap.2 ⟨.t u, hy, rfl⟩
          simp only [ev, get_live]
          simp [hm]
      rw [← hev p (by simp), ← hev x (by simp)] at hsV
      refine stepS_ok hopo hop' hsV hrV (er_live (fun t ht => (hslots t ht).mono (fun _ _ => rfl) (fun _ h => h) (Map.cut_le _ _))) (fun w' z1 z2 z3 => ?_)
      obtain ⟨μ', h⟩ := hfin w' z1 z2 (by rw [hev x (by simp)] at z3; exact z3)
      rw [hd]
      exact hK _ _ _ _ _ _ _ h
  have pass : ∀ (hd : op.dst = o.dst), skip1 d = true → out i = .skp → hs (i + 1) = hs i → K (a.put op.dst undef) w := by
    intro hd hsk ho' hh
    have hln : lnOf hs (i + 1) = lnOf hs i := by unfold lnOf; rw [hh]
    by_cases hk : d.kind = .bar
    · obtain ⟨hr, hfin⟩ := j.bar R ho hS hcl hk (fun d h => hdst' d (by rw [hd]; exact h))
      obtain ⟨ρ', F', β', μ', γ', h⟩ := hfin undef w (by rw [ho', hh]; exact Done.same hr .skp)
      rw [hd]
      exact hK _ _ _ _ _ _ _ h
    · have hr := j.sub R (i := i) (V := { bl := List.replicate (lnOf hs i) .dead, esc := [], ro := lnOf hs i }) (by omega) (by simp) (fun b x hb hx => by
        simp only [List.getElem?_replicate] at hb
        split at hb
        · cases hb; cases hx
        · cases hb)
      obtain ⟨ρ', F', h⟩ := j.quiet R ho hS hcl hk (by cases hw : isWr d with
        | false => rfl
        | true => obtain ⟨rd, hk'⟩ := isWr_iff.1 hw; unfold skip1 at hsk; rw [hk'] at hsk; cases hsk) (val := undef) (V := { bl := List.replicate (lnOf hs i) .dead, esc := [], ro := lnOf hs i }) (V' := { bl := List.replicate (lnOf hs i) .dead, esc := [], ro := lnOf hs i }) (by simp) rfl (by simp [hln]) rfl (fun b h1 h2 => by omega) (.inl hln)
        (by rw [ho']; exact Done.same hr .skp) (fun d h => hdst' d (by rw [hd]; exact h))
      rw [hd]
      exact hK _ _ _ _ _ _ _ h
  have hgt : ∀ t b, (∃ w, o.g = some (t, w)) → get (es i) t = .bool b → a.tmps.getD t undef = .bool b := by
    rintro t b ⟨w, hg⟩ hb
    have hm : t ∈ opTmps o := by unfold opTmps; rw [hg]; simp
    have := hslots t hm
    rw [hb] at this
    exact vr_bool this
  have hgs : ∀ t, (∃ w, o.g = some (t, w)) → get (es i) t = .skp → a.tmps.getD t undef = undef := by
    rintro t ⟨w, hg⟩ hb
    have hm : t ∈ opTmps o := by unfold opTmps; rw [hg]; simp
    have := hslots t hm
    rw [hb] at this
    exact vr_skp this
  split at hco
  · rename_i hg
    cases hco
    have hw : Region.wanted op (yielded ops a.tmps) = true := by simp [Region.wanted, hg]
    rw [hw, if_pos rfl]
    rcases R.tr.st i _ d ho with ⟨_, h⟩ | ⟨⟨t, w, h, _⟩, _⟩
    · exact go rfl rfl h
    · cases h
  · rename_i j' want hg
    split at hco
    · rename_i t ht
      cases hco
      rcases R.tr.st i _ d ho with ⟨h, h'⟩ | ⟨⟨t', w', h, hb⟩, hsk, ho', hh⟩
      · rcases h with h | ⟨t', w', h, hb⟩
        · cases h
        · cases h
          have htv := hgt t want ⟨want, rfl⟩ hb
          have hy : yielded ops a.tmps j' = some want := by simp only [yielded, ht, Option.bind_some, getD_bool htv]
          have hw : Region.wanted op (yielded ops a.tmps) = true := by simp only [Region.wanted, hg, hy]; simp
          rw [hw, if_pos rfl]
          exact go rfl rfl h'
      · cases h
        have hw : ¬ Region.wanted op (yielded ops a.tmps) = true := by
          rcases hb with hb | hb
          · have htv := hgt t (!want) ⟨want, rfl⟩ hb
            have hy : yielded ops a.tmps j' = some (!want) := by simp only [yielded, ht, Option.bind_some, getD_bool htv]
            simp only [Region.wanted, hg, hy]; cases want <;> simp
          · have htv := hgs t ⟨want, rfl⟩ hb
            simp only [Region.wanted, hg, yielded_und ht htv]; simp
        rw [if_neg hw]
        exact ⟨fun _ _ => trivial, pass rfl hsk ho' hh⟩
    · cases hco
def unl (listed : Array Bool) : Nat := listed.toList.count false
theorem region_ok (hrec : RecOK C rec) (R : Reg C rec f nt ops pl es hs out Ns) {B : Base} {ro : Option Nat} {n : Nat} {Q : Exit → Act → World → Prop}
    (hQ : ∀ a w, Rel C nt B (es pl.length) (hs pl.length) a w → Q .normal a w) :
    ∀ (fuel : Nat) (listed : Array Bool) (a : Act) (w : World), listed.size = ops.size → unl listed ≤ fuel → (∃ ρ F β μ γ, J C nt ops pl es hs out Ns B (fun k => listed.getD k false = true) a w ρ F β μ γ) → wpAnyIn (WF ro) n C.P .any ops Q fuel listed a w := by
  have hlast : ∀ (listed : Array Bool) (a : Act) (w : World), listed.size = ops.size → (∃ ρ F β μ γ, J C nt ops pl es hs out Ns B (fun k => listed.getD k false = true) a w ρ F β μ γ) → Region.ready .any ops listed = [] → Q .normal a w := by
    intro listed a w hsz ⟨ρ, F, β, μ, γ, j⟩ hnil
    have hall : ∀ k, k < pl.length → listed.getD k false = true := by
      intro k
      induction k using Nat.strongRecOn with
      | _ k ih =>
        intro hk
        apply Classical.byContradiction
        intro hn
        have hks : k < listed.size := by rw [hsz, ← R.hlen]; exact hk
        have hmem : k ∈ Region.ready .any ops listed := by
          rw [mem_ready]
          obtain ⟨o, d, ho⟩ := at_lt hk
          obtain ⟨op, hop, _⟩ := R.hop k o d ho
          refine ⟨by simpa [hks] using hn, op, hop, fun e he hb => ?_⟩
          exact ih e.on (R.dok.edge k op (by simpa using hop) e he hb) (by have := R.dok.edge k op (by simpa using hop) e he hb; omega)
        rw [hnil] at hmem
        cases hmem
    have hγ : γ = pl.length := by
      rcases j.atg with h | h
      · exact h
      · by_cases hlt : γ < pl.length
        · exact absurd h (j.post γ (Nat.le_trans j.le j.leM) (hall γ hlt))
        · have := j.leN; omega
    subst hγ
    obtain ⟨hμ, hG⟩ := j.full R (fun k hk _ => hall k hk)
    subst hμ
    refine hQ a w ⟨ρ, F, hG ▸ j.hr, fun t => ?_, hG ▸ j.ext, j.sz, hG ▸ j.mks⟩
    obtain ⟨m, h1, h2⟩ := R.w_upto t pl.length (Nat.le_refl _)
    refine (j.vals t _ m ?_).mono (fun _ _ => rfl) (fun _ h => h) (Map.cut_le _ _)
    rcases h1 with ⟨k, o', d', g1, g2, g3, g4, g5, g6⟩ | ⟨g1, g2, g3⟩
    · exact .inl ⟨k, o', d', g1, hall k g2, g3, fun j' o2 d2 k1 k2 k3 => g4 j' o2 d2 k1 k2 (List.getElem?_eq_some_iff.1 k2).1, g5, g6⟩
    · exact .inr ⟨fun j o d h _ => g1 j o d h (List.getElem?_eq_some_iff.1 h).1, g2, g3⟩
  intro fuel
  induction fuel with
  | zero =>
    intro listed a w hsz hu hj
    have hnil : Region.ready .any ops listed = [] := by
      apply List.eq_nil_iff_forall_not_mem.2
      intro k hk
      have h1 := (mem_ready.1 hk).1
      have hks : k < listed.size := by
        rcases Nat.lt_or_ge k listed.size with h | h
        · exact h
        · simp [Array.getElem?_eq_none h] at h1
      have : false ∈ listed.toList := by
        simp [hks] at h1
        rw [← h1]; simp
      have := List.count_pos_iff.2 this
      unfold unl at hu
      omega
    exact ⟨hnil, hlast listed a w hsz hj hnil⟩
  | succ fuel ih =>
    intro listed a w hsz hu hj
    refine ⟨hlast listed a w hsz hj, fun i hi => ?_⟩
    obtain ⟨h1, o, ho, hafter⟩ := mem_ready.1 hi
    have hks : i < listed.size := by
      rcases Nat.lt_or_ge i listed.size with h | h
      · exact h
      · simp [Array.getElem?_eq_none h] at h1
    have hfl : listed[i] = false := by simpa [hks] using h1
    obtain ⟨ρ, F, β, μ, γ, j⟩ := hj
    refine j.step hrec R (by rw [R.hlen]; omega) (by simp [hks, hfl]) (fun o' ho' e he hb => ?_) (fun a' w' ρ' F' β' μ' γ' j' => ih _ a' w' (by simpa using hsz) ?_ ⟨ρ', F', β', μ', γ', ?_⟩)
    · have : ops.toList[i]? = some o := by simpa using ho
      rw [this] at ho'; cases ho'
      exact hafter e he hb
    · unfold unl at hu ⊢
      rw [Array.toList_setIfInBounds, List.count_set (by simpa using hks)]
      have hq : listed.toList[i]'(by simpa using hks) = false := by simpa using hfl
      rw [hq]
      simp only [beq_self_eq_true, if_true]
      have : ((true == false) = true) = False := by simp
      simp only [this, if_false]
      omega
    · have : (fun k => (listed.setIfInBounds i true).getD k false = true) = (fun k => listed.getD k false = true ∨ k = i) := by
        funext k
        by_cases e : i = k
        · subst e; simp [hks]
        · simp [Array.getElem?_setIfInBounds_ne e, Ne.symm e]
      rw [this]; exact j'
theorem ok_drawn (hmix : C.P.follows .mixedOrders = true) (hrec : RecOK C rec) {id : Nat} {ops : Array Oper} {l : List Oper1} {d : List (Oper1 × Draw1)} (hl : allS (ops.toList.map (coper C.P C.pol f nt ops)) = some l) {g : FuncId} (hd : cdrawn C.pol g ops.toList l = some d) :
    CodeOK C rec nt (.region id ops true) (.drawn d) := by
  intro ro n B Q R k r e H a w hro hrun hk hrel
  simp only [run] at hrun
  obtain ⟨es, hs, out, Ns, h1, h2, h3, h4, h5⟩ := trace d _ _ _ hrun
  obtain ⟨g1, g2⟩ := allS_map hl
  have hmk : ∃ u, d = mkdraw C.pol g (before1 ops.toList) l u ∧ okDraws (before1 ops.toList) ops.toList d = true := by
    unfold cdrawn at hd
    dsimp only at hd
    cases h1 : okDraws (before1 ops.toList) ops.toList (mkdraw C.pol g (before1 ops.toList) l true) with
    | true =>
      rw [h1] at hd
      simp only [cond_true, Option.some.injEq] at hd
      exact ⟨true, hd.symm, hd ▸ h1⟩
    | false =>
      rw [h1] at hd
      simp only [cond_false] at hd
      replace hd := bif_some hd
      obtain ⟨h2, hd⟩ := hd
      simp only [Option.some.injEq] at hd
      exact ⟨false, hd.symm, hd ▸ h2⟩
  obtain ⟨u, hdu, hok⟩ := hmk
  have hlen : d.length = l.length := by rw [hdu]; simp [mkdraw]
  have hfst : ∀ (i : Nat) o dd, d[i]? = some (o, dd) → l[i]? = some o := by
    intro i o dd hi
    rw [hdu] at hi
    unfold mkdraw at hi
    simp only [List.getElem?_map, Option.map_eq_some_iff, List.getElem?_zipIdx] at hi
    obtain ⟨p, ⟨q, hq, rfl⟩, hp⟩ := hi
    cases hp
    exact hq
  have RG : Reg C rec f nt ops d es hs out Ns := by
    refine ⟨fun i o dd hi => ?_, by rw [hlen, g1]; simp, okDraws_spec hok, h4, by rw [h3, h2]⟩
    have hli := hfst i o dd hi
    have hlt := (List.getElem?_eq_some_iff.1 hli).1
    have hops : ops.toList[i]? = some ops.toList[i] := List.getElem?_eq_getElem (by omega)
    exact ⟨_, by simpa using hops, g2 i _ _ hops hli⟩
  refine wpIn_region_any hmix ?_
  obtain ⟨ρ, F, q1, q2, q3, q4, q5⟩ := hrel
  obtain ⟨z1, z2⟩ := q1.same (w' := { w with drawn := w.drawn + 1 }) (Nat.le_refl _) (fun _ _ => rfl)
  refine region_ok hrec RG (B := B) (fun a' w' hr' => hk .normal _ _ a' w' h5 hr') ops.size _ a _ (by simp) ?_ ?_
  · unfold unl; simp
  · have hS : (fun k => (Array.replicate ops.size false).getD k false = true) = (fun _ => False) := by
      funext k
      by_cases hk : k < ops.size <;> simp [hk]
    rw [hS]
    subst h1; subst h2
    obtain ⟨μ, γ, hj⟩ := J.begin RG (B := B) (S := fun _ => False) (a := a) (w := { w with drawn := w.drawn + 1 }) (ρ := ρ) (F := F) (β := 0) (Nat.zero_le _) (fun _ _ h => h.elim) (fun _ h => by omega) (fun _ _ h => h.elim) h3 (fun h => RG.dok.offs0 h) z1 (q3.trans z2)
      (fun t s m hW => by
        rcases hW with ⟨_, _, _, _, h, _⟩ | ⟨_, rfl, rfl⟩
        · exact h.elim
        · exact (z2.er q1 q2 t).mono (fun _ _ => rfl) (fun _ h => h) (fun b l h => ⟨l, by rw [cut_at (q1.dom b l h)]; exact h, .inl rfl⟩))
      q4 (q5.ext z2.toExt0)
    exact ⟨ρ, F, 0, μ, γ, hj⟩
end
end Go.Sh
namespace Go.Sh
set_option linter.unusedSectionVars false
set_option linter.unusedVariables false
set_option linter.unusedSimpArgs false
set_option linter.unnecessarySimpa false
section
variable {rec : Rec} {e e' e1 e2 : Env} {H H' H1 H2 : Heap}
def stepW (rec : Rec) (o : Oper1) (e : Env) (H : Heap) : Option (SV × Heap) := match o.g with
  | none => step1 rec e H o.op
  | some (t, w) => match get e t with
    | .bool b => bif b == w then step1 rec e H o.op else some (.skp, H)
    | .skp => some (.skp, H)
    | _ => none
def stepG (rec : Rec) (o : Oper1) (e : Env) (H : Heap) : Option (Env × Heap) := (stepW rec o e H).map fun r => (bind1 e o.dst r.1, r.2)
theorem runOps_cons {R : Type} {o : Oper1} {os : List Oper1} {k : Env → Heap → Option R} : runOps rec (o :: os) e H k () = (stepG rec o e H).bind fun s => runOps rec os s.1 s.2 k () := by
  unfold stepG stepW
  cases hg : o.g with
  | none =>
    simp only [runOps, hg]
    cases step1 rec e H o.op <;> rfl
  | some p =>
    obtain ⟨t, w⟩ := p
    simp only [runOps, hg, onGuard, fork]
    cases get e t <;> try rfl
    rename_i b
    simp only
    cases (b == w) with
    | true => cases step1 rec e H o.op <;> rfl
    | false => rfl
def runL (rec : Rec) : List Oper1 → Env → Heap → Option (Env × Heap)
  | [], e, H => some (e, H)
  | o :: os, e, H => (stepG rec o e H).bind fun s => runL rec os s.1 s.2
theorem runOps_L {R : Type} {k : Env → Heap → Option R} : ∀ (os : List Oper1) (e : Env) (H : Heap), runOps rec os e H k () = (runL rec os e H).bind fun s => k s.1 s.2
  | [], e, H => rfl
  | o :: os, e, H => by
    rw [runOps_cons, runL]
    cases stepG rec o e H with
    | none => rfl
    | some s => exact runOps_L os s.1 s.2
theorem runL_append : ∀ (a b : List Oper1) (e : Env) (H : Heap), runL rec (a ++ b) e H = (runL rec a e H).bind fun s => runL rec b s.1 s.2
  | [], b, e, H => rfl
  | o :: a, b, e, H => by
    rw [List.cons_append, runL, runL]
    cases stepG rec o e H with
    | none => rfl
    | some s => exact runL_append a b s.1 s.2
def Eqv (e e' : Env) : Prop := ∀ t, get e t = get e' t
theorem Eqv.bind (h : Eqv e e') (d : Option Nat) (v : SV) : Eqv (bind1 e d v) (bind1 e' d v) := by
  intro t
  cases d with
  | none => exact h t
  | some d =>
    simp only [bind1, get]
    rw [h t]
theorem stepW_congr {o : Oper1} (h : ∀ t ∈ opTmps o, get e t = get e' t) : stepW rec o e H = stepW rec o e' H := by
  have h1 := step1_congr (rec := rec) (H := H) (o := o) (e := e) (e' := e') h
  unfold stepW
  cases hg : o.g with
  | none => exact h1
  | some p =>
    obtain ⟨t, w⟩ := p
    have ht : get e t = get e' t := h t (by unfold opTmps; rw [hg]; simp)
    simp only [ht, h1]
theorem stepG_eqv {o : Oper1} (h : Eqv e e') (hs : stepG rec o e' H = some (e2, H2)) : ∃ e1, stepG rec o e H = some (e1, H2) ∧ Eqv e1 e2 := by
  unfold stepG at hs ⊢
  rw [stepW_congr (e := e) (e' := e') (fun t _ => h t)]
  obtain ⟨r, h1, h2⟩ := Option.map_eq_some_iff.1 hs
  cases h2
  exact ⟨_, by rw [h1]; rfl, h.bind _ _⟩
theorem runL_eqv : ∀ (l : List Oper1) {e e' : Env} {H : Heap}, Eqv e e' → runL rec l e' H = some (e2, H2) → ∃ e1, runL rec l e H = some (e1, H2) ∧ Eqv e1 e2
  | [], e, e', H, h, hs => by
    simp only [runL, Option.some.injEq, Prod.mk.injEq] at hs
    obtain ⟨rfl, rfl⟩ := hs
    exact ⟨e, rfl, h⟩
  | o :: l, e, e', H, h, hs => by
    rw [runL] at hs
    obtain ⟨s, h1, h2⟩ := Option.bind_eq_some_iff.1 hs
    obtain ⟨e3, h3, h4⟩ := stepG_eqv h h1
    obtain ⟨e4, h5, h6⟩ := runL_eqv l h4 h2
    exact ⟨e4, by rw [runL, h3]; exact h5, h6⟩
theorem stepW_pure {o : Oper1} {v : SV} (hp : pure1 o.op = true) (h : stepW rec o e H = some (v, H')) : H' = H ∧ ∀ H2, stepW rec o e H2 = some (v, H2) := by
  unfold stepW at h ⊢
  split at h
  · exact pure_op hp h
  · rename_i t w hg
    split at h
    · rename_i b hb
      cases hbw : (b == w) with
      | true => rw [hbw] at h; exact pure_op hp h
      | false => rw [hbw] at h; cases h; exact ⟨rfl, fun _ => rfl⟩
    · cases h; exact ⟨rfl, fun _ => rfl⟩
    · cases h
theorem indep_spec {a b : Oper1} (h : indep1 a b = true) : (∀ d, a.dst = some d → d ∉ opTmps b ∧ b.dst ≠ some d) ∧ (∀ d, b.dst = some d → d ∉ opTmps a) := by
  unfold indep1 at h
  simp only [Bool.not_eq_true', Bool.or_eq_false_iff] at h
  refine ⟨fun d hd => ?_, fun d hd => ?_⟩
  · have := h.1
    rw [hd] at this
    simp only [Bool.or_eq_false_iff, beq_eq_false_iff_ne] at this
    exact ⟨by simpa using this.1, this.2⟩
  · have := h.2
    rw [hd] at this
    simpa using this
theorem get_bind_ne {d : Option Nat} {v : SV} {t : Nat} (h : ∀ x, d = some x → x ≠ t) : get (bind1 e d v) t = get e t := by
  cases d with
  | none => rfl
  | some x =>
    have : (t == x) = false := by simpa using (h x rfl).symm
    simp only [bind1, get, this, cond_false]
theorem swap_ok {x y : Oper1} (hi : indep1 x y = true ∨ indep1 y x = true) (hp : pure1 x.op = true ∨ pure1 y.op = true) (h1 : stepG rec y e H = some (e1, H1)) (h2 : stepG rec x e1 H1 = some (e2, H2)) :
    ∃ e3 H3 e4, stepG rec x e H = some (e3, H3) ∧ stepG rec y e3 H3 = some (e4, H2) ∧ Eqv e4 e2 := by
  have hxy : (∀ d, x.dst = some d → d ∉ opTmps y ∧ y.dst ≠ some d) ∧ (∀ d, y.dst = some d → d ∉ opTmps x ∧ x.dst ≠ some d) := by
    rcases hi with hi | hi
    · obtain ⟨a, b⟩ := indep_spec hi
      exact ⟨a, fun d hd => ⟨b d hd, fun hx => (a d hx).2 hd⟩⟩
    · obtain ⟨a, b⟩ := indep_spec hi
      exact ⟨fun d hd => ⟨b d hd, fun hy => (a d hy).2 hd⟩, a⟩
  obtain ⟨hx, hy⟩ := hxy
  unfold stepG at h1 h2
  obtain ⟨⟨vy, K1⟩, k1, k2⟩ := Option.map_eq_some_iff.1 h1
  obtain ⟨⟨vx, K2⟩, k3, k4⟩ := Option.map_eq_some_iff.1 h2
  simp only [Prod.mk.injEq] at k2 k4
  obtain ⟨rfl, rfl⟩ := k2
  obtain ⟨rfl, rfl⟩ := k4
  have gx : ∀ v t, t ∈ opTmps x → get (bind1 e y.dst v) t = get e t := fun v t ht => get_bind_ne (fun d hd hdt => (hy d hd).1 (hdt ▸ ht))
  have gy : ∀ v t, t ∈ opTmps y → get (bind1 e x.dst v) t = get e t := fun v t ht => get_bind_ne (fun d hd hdt => (hx d hd).1 (hdt ▸ ht))
  rw [stepW_congr (e' := e) (gx vy)] at k3
  have heq : Eqv (bind1 (bind1 e x.dst vx) y.dst vy) (bind1 (bind1 e y.dst vy) x.dst vx) := by
    intro t
    cases hdx : x.dst with
    | none => rfl
    | some a =>
      cases hdy : y.dst with
      | none => rfl
      | some b =>
        have hab : a ≠ b := fun h => (hx a hdx).2 (by rw [hdy, h])
        simp only [bind1, get]
        by_cases ha : (t == a) = true
        · by_cases hb : (t == b) = true
          · exfalso; apply hab
            rw [beq_iff_eq] at ha hb; omega
          · rw [Bool.not_eq_true] at hb; rw [ha, hb]; rfl
        · rw [Bool.not_eq_true] at ha; rw [ha]; rfl
  rcases hp with hp | hp
  · obtain ⟨rfl, k5⟩ := stepW_pure hp k3
    refine ⟨_, H, _, by unfold stepG; rw [k5 H]; rfl, ?_, heq⟩
    unfold stepG
    rw [stepW_congr (e' := e) (gy vx), k1]; rfl
  · obtain ⟨rfl, k5⟩ := stepW_pure hp k1
    refine ⟨_, K2, _, by unfold stepG; rw [k3]; rfl, ?_, heq⟩
    unfold stepG
    rw [stepW_congr (e' := e) (gy vx), k5 K2]; rfl
theorem bubble {x : Oper1} {b : List Oper1} : ∀ (a : List Oper1) {e : Env} {H : Heap}, (∀ y ∈ a, (indep1 x y = true ∨ indep1 y x = true) ∧ (pure1 x.op = true ∨ pure1 y.op = true)) → runL rec (a ++ x :: b) e H = some (e2, H2) →
    ∃ e1, runL rec (x :: (a ++ b)) e H = some (e1, H2) ∧ Eqv e1 e2
  | [], e, H, _, h => ⟨_, h, fun _ => rfl⟩
  | y :: a, e, H, hi, h => by
    rw [List.cons_append, runL] at h
    obtain ⟨s, h1, h2⟩ := Option.bind_eq_some_iff.1 h
    obtain ⟨e3, h3, h4⟩ := bubble a (fun z hz => hi z (List.mem_cons_of_mem _ hz)) h2
    rw [runL] at h3
    obtain ⟨s2, h5, h6⟩ := Option.bind_eq_some_iff.1 h3
    obtain ⟨c1, c2⟩ := hi y (List.mem_cons_self ..)
    obtain ⟨f1, K1, f2, g1, g2, g3⟩ := swap_ok (e := e) (H := H) c1 c2 (by rw [h1]) (by rw [h5])
    obtain ⟨f3, g4, g5⟩ := runL_eqv (a ++ b) g3 h6
    refine ⟨f3, ?_, fun t => (g5 t).trans (h4 t)⟩
    rw [runL, g1]
    show runL rec (y :: (a ++ b)) f1 K1 = _
    rw [runL, g2]
    exact g4
end
section
variable {rec : Rec} {l : List Oper1} {bs : List Nat}
def dep (bs : List Nat) (i j : Nat) : Prop := (bs.getD j 0).testBit i = true
theorem pick_append (l : List Oper1) : ∀ a b : List Nat, pick1 l (a ++ b) = pick1 l a ++ pick1 l b
  | [], b => rfl
  | i :: a, b => by
    simp only [List.cons_append, pick1, pick_append l a b]
    cases l[i]? <;> rfl
theorem pick_cons {i : Nat} {o : Oper1} {r : List Nat} (h : l[i]? = some o) : pick1 l (i :: r) = o :: pick1 l r := by
  rw [pick1, h]; rfl
theorem pick_mem {o : Oper1} : ∀ {a : List Nat}, o ∈ pick1 l a → ∃ i ∈ a, l[i]? = some o
  | [], h => by simp [pick1] at h
  | i :: a, h => by
    simp only [pick1] at h
    cases hl : l[i]? with
    | none =>
      rw [hl] at h
      obtain ⟨j, h1, h2⟩ := pick_mem h
      exact ⟨j, List.mem_cons_of_mem _ h1, h2⟩
    | some o' =>
      rw [hl] at h
      simp only [pickO, List.mem_cons] at h
      rcases h with rfl | h
      · exact ⟨i, List.mem_cons_self .., hl⟩
      · obtain ⟨j, h1, h2⟩ := pick_mem h
        exact ⟨j, List.mem_cons_of_mem _ h1, h2⟩
theorem reduce (hind : ∀ i j a b, l[i]? = some a → l[j]? = some b → i ≠ j → dep bs i j ∨ dep bs j i ∨ indep1 a b = true ∨ indep1 b a = true) :
    ∀ (τ σ : List Nat), (∀ i ∈ τ, i < l.length) → τ.Nodup → τ.Perm σ → τ.Pairwise (fun j i => ¬ dep bs i j) → σ.Pairwise (fun j i => ¬ dep bs i j) → τ.filter (nonP l) = σ.filter (nonP l) →
      ∀ {e e' e2 : Env} {H H2 : Heap}, Eqv e e' → runL rec (pick1 l σ) e' H = some (e2, H2) → ∃ e1, runL rec (pick1 l τ) e H = some (e1, H2) ∧ Eqv e1 e2
  | [], σ, _, _, hp, _, _, _, e, e', e2, H, H2, he, h => by
    have : σ = [] := hp.nil_eq.symm
    subst this
    exact runL_eqv _ he h
  | x :: τ, σ, hlt, hnd, hp, h1, h2, hf, e, e', e2, H, H2, he, h => by
    have hx : x ∈ σ := hp.mem_iff.1 (List.mem_cons_self ..)
    obtain ⟨a, b, rfl⟩ := List.append_of_mem hx
    obtain ⟨ox, hox⟩ : ∃ ox, l[x]? = some ox := ⟨_, List.getElem?_eq_getElem (hlt x (List.mem_cons_self ..))⟩
    have hnd2 : (a ++ x :: b).Nodup := hp.nodup_iff.1 hnd
    have hxa : x ∉ a := by
      intro hxa
      rw [List.nodup_append] at hnd2
      exact hnd2.2.2 x hxa x (List.mem_cons_self ..) rfl
    have hpure : nonP l x = true → ∀ y ∈ a, nonP l y = false := by
      intro hn y hy
      rw [List.filter_cons_of_pos hn, List.filter_append, List.filter_cons_of_pos hn] at hf
      cases ha : a.filter (nonP l) with
      | nil =>
        cases hny : nonP l y with
        | false => rfl
        | true =>
          have : y ∈ a.filter (nonP l) := List.mem_filter.2 ⟨hy, hny⟩
          rw [ha] at this; cases this
      | cons z r =>
        rw [ha] at hf
        simp only [List.cons_append, List.cons.injEq] at hf
        have hz : z ∈ a.filter (nonP l) := by rw [ha]; exact List.mem_cons_self ..
        exact absurd (hf.1 ▸ (List.mem_filter.1 hz).1) hxa
    have hτ : τ.Perm (a ++ b) := (hp.trans List.perm_middle).cons_inv
    rw [pick_append, pick_cons hox] at h
    obtain ⟨e3, g1, g2⟩ := bubble (pick1 l a) (fun o ho => by
      obtain ⟨y, hy, hoy⟩ := pick_mem ho
      have hne : y ≠ x := fun h => hxa (h ▸ hy)
      have hyt : y ∈ τ := hτ.mem_iff.2 (List.mem_append_left _ hy)
      have q1 : ¬ dep bs y x := (List.pairwise_cons.1 h1).1 y hyt
      have q2 : ¬ dep bs x y := by
        rw [List.pairwise_append] at h2
        exact h2.2.2 y hy x (List.mem_cons_self ..)
      refine ⟨?_, ?_⟩
      · rcases hind x y ox o hox hoy (Ne.symm hne) with h | h | h | h
        · exact absurd h q2
        · exact absurd h q1
        · exact .inl h
        · exact .inr h
      · cases hnx : nonP l x with
        | false =>
          left
          unfold nonP at hnx; rw [hox] at hnx; simpa using hnx
        | true =>
          right
          have := hpure hnx y hy
          unfold nonP at this; rw [hoy] at this; simpa using this) h
    rw [← pick_append] at g1
    rw [pick_cons hox, runL]
    rw [runL] at g1
    obtain ⟨s, k1, k2⟩ := Option.bind_eq_some_iff.1 g1
    obtain ⟨e4, k3, k4⟩ := stepG_eqv he (show stepG rec ox e' H = some (s.1, s.2) from k1)
    have hf2 : τ.filter (nonP l) = (a ++ b).filter (nonP l) := by
      cases hnx : nonP l x with
      | false =>
        rw [List.filter_cons_of_neg (by simp [hnx]), List.filter_append, List.filter_cons_of_neg (by simp [hnx]), ← List.filter_append] at hf
        exact hf
      | true =>
        have ha : a.filter (nonP l) = [] := by
          apply List.filter_eq_nil_iff.2
          intro y hy
          rw [hpure hnx y hy]; simp
        rw [List.filter_cons_of_pos hnx, List.filter_append, List.filter_cons_of_pos hnx, ha] at hf
        simp only [List.nil_append, List.cons.injEq, true_and] at hf
        rw [List.filter_append, ha, List.nil_append]; exact hf
    have hsub : (a ++ b).Sublist (a ++ x :: b) := List.Sublist.append_left (List.sublist_cons_self x b) a
    obtain ⟨e5, k5, k6⟩ := reduce hind τ (a ++ b) (fun i hi => hlt i (List.mem_cons_of_mem _ hi)) (List.nodup_cons.1 hnd).2 hτ (List.pairwise_cons.1 h1).2 (h2.sublist hsub) hf2 k4 k2
    exact ⟨e5, by rw [k3]; exact k5, fun t => (k6 t).trans (g2 t)⟩
theorem allExt_all : ∀ (n : Nat) (rem τ : List Nat), τ.length = n → τ.Perm rem → τ.Nodup → τ.Pairwise (fun j i => ¬ dep bs i j) → τ ∈ allExt bs n rem
  | 0, rem, τ, hl, _, _, _ => by
    rw [List.length_eq_zero_iff.1 hl]; simp [allExt]
  | n + 1, rem, [], hl, _, _, _ => by simp at hl
  | n + 1, rem, m :: τ, hl, hp, hnd, hc => by
    simp only [allExt, List.mem_flatMap]
    refine ⟨m, hp.mem_iff.1 (List.mem_cons_self ..), ?_⟩
    have hall : rem.all (fun k => k == m || !(bs.getD m 0).testBit k) = true := by
      apply List.all_eq_true.2
      intro k hk
      have hk2 := hp.mem_iff.2 hk
      rcases List.mem_cons.1 hk2 with rfl | hk3
      · simp
      · have := (List.pairwise_cons.1 hc).1 k hk3
        unfold dep at this
        rw [Bool.not_eq_true] at this
        rw [this]; simp
    rw [hall]
    simp only [cond_true]
    apply List.mem_map.2
    refine ⟨τ, allExt_all n (rem.erase m) τ (by simpa using hl) ?_ (List.nodup_cons.1 hnd).2 (List.pairwise_cons.1 hc).2, rfl⟩
    have := hp.erase m
    simpa using this
theorem linOK_spec {n : Nat} : ∀ (τ done : List Nat), linOK bs n done τ = true → done.Nodup → (∀ i ∈ done, i < n) → (done.reverse ++ τ).Nodup ∧ (∀ i ∈ τ, i < n) ∧ (done.reverse ++ τ).length = n ∧
    τ.Pairwise (fun j i => ¬ ((i < n) ∧ dep bs i j))
  | [], done, h, hnd, hlt => by
    simp only [linOK, decide_eq_true_eq] at h
    exact ⟨by simpa using (List.reverse_perm done).nodup_iff.2 hnd, by simp, by simpa using h, List.Pairwise.nil⟩
  | i :: r, done, h, hnd, hlt => by
    simp only [linOK, Bool.and_eq_true, decide_eq_true_eq, Bool.not_eq_true'] at h
    obtain ⟨⟨⟨h1, h2⟩, h3⟩, h4⟩ := h
    have h2' : i ∉ done := by simpa using h2
    obtain ⟨g1, g2, g3, g4⟩ := linOK_spec r (i :: done) h4 (List.nodup_cons.2 ⟨h2', hnd⟩) (fun j hj => by
      rcases List.mem_cons.1 hj with rfl | hj
      · exact h1
      · exact hlt j hj)
    rw [List.reverse_cons, List.append_assoc] at g1 g3
    refine ⟨g1, fun j hj => ?_, g3, List.pairwise_cons.2 ⟨fun j hj hd => ?_, g4⟩⟩
    · rcases List.mem_cons.1 hj with rfl | hj
      · exact h1
      · exact g2 j hj
    · have h5 := List.all_eq_true.1 h3 j (List.mem_range.2 hd.1)
      have hdj : (bs.getD i 0).testBit j = true := hd.2
      rw [hdj] at h5
      simp only [Bool.not_true, Bool.false_or, List.contains_eq_mem, decide_eq_true_eq] at h5
      rw [List.nodup_append] at g1
      exact g1.2.2 j (List.mem_reverse.2 h5) j (by simp [hj]) rfl
end
section
variable {rec : Rec}
theorem stepG_other {o : Oper1} {e e1 : Env} {H H1 : Heap} (h : stepG rec o e H = some (e1, H1)) {t : Nat} (ht : o.dst ≠ some t) : get e1 t = get e t := by
  unfold stepG at h
  obtain ⟨r, h1, h2⟩ := Option.map_eq_some_iff.1 h
  cases h2
  exact get_bind_ne (fun x hx hxt => ht (hxt ▸ hx))
theorem runL_other : ∀ (l : List Oper1) {e e1 : Env} {H H1 : Heap}, runL rec l e H = some (e1, H1) → ∀ t, (∀ o ∈ l, o.dst ≠ some t) → get e1 t = get e t
  | [], e, e1, H, H1, h, t, _ => by simp only [runL, Option.some.injEq, Prod.mk.injEq] at h; rw [h.1]
  | o :: l, e, e1, H, H1, h, t, ht => by
    rw [runL] at h
    obtain ⟨s, h1, h2⟩ := Option.bind_eq_some_iff.1 h
    rw [runL_other l h2 t (fun o' ho => ht o' (List.mem_cons_of_mem _ ho)), stepG_other (show stepG rec o e H = some (s.1, s.2) from h1) (ht o (List.mem_cons_self ..))]
theorem canonE_get : ∀ (l : List Oper1) (e e0 : Env) (t : Nat), get (canonE l e e0) t = get e t ∨ ((∀ o ∈ l, o.dst ≠ some t) ∧ get (canonE l e e0) t = get e0 t)
  | [], e, e0, t => .inr ⟨by simp, rfl⟩
  | ⟨some d, op, g⟩ :: l, e, e0, t => by
    simp only [canonE, get]
    by_cases h : t = d
    · subst h
      left; simp
    · have hb : (t == d) = false := by simpa using h
      rw [hb]
      simp only [cond_false]
      rcases canonE_get l e e0 t with h1 | ⟨h1, h2⟩
      · exact .inl h1
      · refine .inr ⟨fun o ho => ?_, h2⟩
        rcases List.mem_cons.1 ho with rfl | ho
        · simp only [ne_eq, Option.some.injEq]; exact fun h' => h h'.symm
        · exact h1 o ho
  | ⟨none, op, g⟩ :: l, e, e0, t => by
    simp only [canonE]
    rcases canonE_get l e e0 t with h1 | ⟨h1, h2⟩
    · exact .inl h1
    · refine .inr ⟨fun o ho => ?_, h2⟩
      rcases List.mem_cons.1 ho with rfl | ho
      · simp
      · exact h1 o ho
theorem canonE_eqv {l : List Oper1} {σ : List Nat} {e e1 : Env} {H H1 : Heap} (h : runL rec (pick1 l σ) e H = some (e1, H1)) : Eqv (canonE l e1 e) e1 := by
  intro t
  rcases canonE_get l e1 e t with h1 | ⟨h1, h2⟩
  · exact h1
  · rw [h2]
    exact (runL_other _ h t (fun o ho => by
      obtain ⟨i, _, hi⟩ := pick_mem ho
      exact h1 o (List.mem_of_getElem? hi))).symm
theorem same1_all {A : Type} : ∀ (l : List (Option A)) {s : A}, same1 l = some s → ∀ x ∈ l, x = some s
  | [], s, h => by simp [same1] at h
  | [a], s, h => by intro x hx; simp only [List.mem_singleton] at hx; subst hx; exact h
  | a :: b :: r, s, h => by
    rw [same1] at h
    split at h
    · rename_i hab
      intro x hx
      have ih := same1_all (b :: r) h
      rcases List.mem_cons.1 hx with rfl | hx
      · rw [hab]; exact ih b (List.mem_cons_self ..)
      · exact ih x hx
    · cases h
end
theorem nodup_len : ∀ (a b : List Nat), a.Nodup → (∀ x ∈ a, x ∈ b) → a.length ≤ b.length
  | [], b, _, _ => Nat.zero_le _
  | x :: a, b, hn, hs => by
    have hx := hs x (List.mem_cons_self ..)
    have h1 := nodup_len a (b.erase x) (List.nodup_cons.1 hn).2 (fun y hy => (List.mem_erase_of_ne (fun h : y = x => (List.nodup_cons.1 hn).1 (by rw [← h]; exact hy))).2 (hs y (List.mem_cons_of_mem _ hy)))
    rw [List.length_erase_of_mem hx] at h1
    have := List.length_pos_of_mem hx
    simp only [List.length_cons]
    omega
theorem nodup_perm : ∀ (a b : List Nat), a.Nodup → (∀ x ∈ a, x ∈ b) → a.length = b.length → a.Perm b
  | [], b, _, _, hl => by rw [List.length_eq_zero_iff.1 hl.symm]
  | x :: a, b, hn, hs, hl => by
    have hx := hs x (List.mem_cons_self ..)
    have := List.length_pos_of_mem hx
    have h1 := nodup_perm a (b.erase x) (List.nodup_cons.1 hn).2 (fun y hy => (List.mem_erase_of_ne (fun h : y = x => (List.nodup_cons.1 hn).1 (by rw [← h]; exact hy))).2 (hs y (List.mem_cons_of_mem _ hy))) (by
      rw [List.length_erase_of_mem hx]; simp only [List.length_cons] at hl; omega)
    exact (h1.cons x).trans (List.perm_cons_erase hx).symm
section
variable {rec : Rec} {l : List Oper1} {bs : List Nat} {e : Env} {H : Heap}
theorem stepW_read {o : Oper1} {e : Env} {H H' : Heap} {v : SV} (hp : rd1 o.op = true) (h : stepW rec o e H = some (v, H')) : H' = H := by
  have key : step1 rec e H o.op = some (v, H') → H' = H := by
    intro h
    cases hop : o.op <;> rw [hop] at hp h <;> try (exfalso; simp only [rd1, Bool.false_eq_true] at hp; done)
    all_goals simp only [step1, sop] at h
    all_goals first
      | (obtain ⟨_, _, h2⟩ := Option.map_eq_some_iff.1 h; cases h2; rfl)
      | (replace h := (bif_some h).2; obtain ⟨_, _, h2⟩ := Option.map_eq_some_iff.1 h; cases h2; rfl)
      | (replace h := (bif_some h).2; obtain ⟨_, _, h2⟩ := Option.bind_eq_some_iff.1 h; obtain ⟨_, _, h3⟩ := Option.map_eq_some_iff.1 h2; cases h3; rfl)
  unfold stepW at h
  split at h
  · exact key h
  · rename_i t w hg
    split at h
    · rename_i b hb
      cases hbw : (b == w) with
      | true => rw [hbw] at h; exact key h
      | false => rw [hbw] at h; cases h; rfl
    · cases h; rfl
    · cases h
theorem range_filter_sorted (p : Nat → Bool) (n : Nat) : ((List.range n).filter p).Pairwise (· < ·) := List.Pairwise.filter _ List.pairwise_lt_range
def cntW (W a : List Nat) : Nat := (a.filter W.contains).length
theorem cntW_app (W a b : List Nat) : cntW W (a ++ b) = cntW W a + cntW W b := by simp [cntW]
section
variable {W : List Nat} (hsort : W.Pairwise (· < ·)) (hchain : ∀ w ∈ W, ∀ w' ∈ W, w < w' → dep bs w w')
include hsort hchain
theorem sorted_get {p q x y : Nat} (hx : W[p]? = some x) (hy : W[q]? = some y) (h : p < q) : x < y := by
  obtain ⟨h1, rfl⟩ := List.getElem?_eq_some_iff.1 hx
  obtain ⟨h2, rfl⟩ := List.getElem?_eq_some_iff.1 hy
  exact List.pairwise_iff_getElem.1 hsort p q h1 h2 h
theorem take_mem {a b : List Nat} (hnd : (a ++ b).Nodup) (hall : ∀ w ∈ W, w ∈ a ++ b) (hp : (a ++ b).Pairwise (fun j i => ¬ dep bs i j)) {w : Nat} (hw : w ∈ W) : w ∈ a ↔ w ∈ W.take (cntW W a) := by
  have hnd1 := (List.nodup_append.1 hnd).1
  have clo : ∀ w ∈ W, ∀ w' ∈ W, w' < w → w ∈ a → w' ∈ a := by
    intro w hw w' hw' hlt ha
    rcases List.mem_append.1 (hall w' hw') with h | h
    · exact h
    · exact absurd (hchain w' hw' w hw hlt) ((List.pairwise_append.1 hp).2.2 w ha w' h)
  obtain ⟨p, hpw⟩ := List.getElem?_of_mem hw
  have hpl := (List.getElem?_eq_some_iff.1 hpw).1
  constructor
  · intro ha
    have hsub : ∀ x ∈ W.take (p + 1), x ∈ a.filter W.contains := by
      intro x hx
      obtain ⟨q, hq⟩ := List.getElem?_of_mem hx
      rw [List.getElem?_take] at hq
      split at hq
      · rename_i hlt
        have hxW := List.mem_of_getElem? hq
        refine List.mem_filter.2 ⟨?_, by simpa using hxW⟩
        rcases Nat.lt_or_ge q p with h | h
        · exact clo w hw x hxW (sorted_get hsort hchain hq hpw h) ha
        · obtain rfl : q = p := by omega
          rw [hpw] at hq; cases hq; exact ha
      · cases hq
    have h1 := nodup_len (W.take (p + 1)) (a.filter W.contains) ((hsort.imp (fun h => Nat.ne_of_lt h)).sublist (List.take_sublist _ _)) hsub
    rw [List.length_take] at h1
    have : p < cntW W a := by unfold cntW; omega
    refine List.mem_of_getElem? (i := p) ?_
    rw [List.getElem?_take, if_pos this, hpw]
  · intro ht
    obtain ⟨q, hq⟩ := List.getElem?_of_mem ht
    rw [List.getElem?_take] at hq
    split at hq
    · rename_i hlt
      have hqp : q = p := by
        rcases Nat.lt_trichotomy q p with h | h | h
        · exact absurd (sorted_get hsort hchain hq hpw h) (Nat.lt_irrefl _)
        · exact h
        · exact absurd (sorted_get hsort hchain hpw hq h) (Nat.lt_irrefl _)
      subst hqp
      apply Classical.byContradiction
      intro hna
      have hsub : ∀ x ∈ a.filter W.contains, x ∈ W.take q := by
        intro x hx
        obtain ⟨hxa, hxW⟩ := List.mem_filter.1 hx
        have hxW : x ∈ W := by simpa using hxW
        obtain ⟨r, hr⟩ := List.getElem?_of_mem hxW
        have hrq : r < q := by
          rcases Nat.lt_trichotomy r q with h | h | h
          · exact h
          · subst h; rw [hr] at hq; cases hq; exact absurd hxa hna
          · exact absurd (clo x hxW w hw (sorted_get hsort hchain hpw hr h) hxa) hna
        refine List.mem_of_getElem? (i := r) ?_
        rw [List.getElem?_take, if_pos hrq, hr]
      have h1 := nodup_len (a.filter W.contains) (W.take q) (hnd1.filter _) hsub
      rw [List.length_take] at h1
      unfold cntW at hlt
      omega
    · cases hq
theorem next_W {a b : List Nat} {i : Nat} (hnd : (a ++ i :: b).Nodup) (hall : ∀ w ∈ W, w ∈ a ++ i :: b) (hp : (a ++ i :: b).Pairwise (fun j i => ¬ dep bs i j)) (hi : i ∈ W) : W[cntW W a]? = some i := by
  obtain ⟨p, hpw⟩ := List.getElem?_of_mem hi
  have hpl := (List.getElem?_eq_some_iff.1 hpw).1
  have hia : i ∉ a := fun h => (List.nodup_append.1 hnd).2.2 i h i (List.mem_cons_self ..) rfl
  have h1 : ¬ p < cntW W a := fun h => hia ((take_mem hsort hchain hnd hall hp hi).2 (List.mem_of_getElem? (i := p) (by rw [List.getElem?_take, if_pos h, hpw])))
  rcases Nat.lt_or_ge (cntW W a) p with h | h
  · obtain ⟨w, hw⟩ : ∃ w, W[cntW W a]? = some w := ⟨_, List.getElem?_eq_getElem (by omega)⟩
    have hwW := List.mem_of_getElem? hw
    have hd := hchain w hwW i hi (sorted_get hsort hchain hw hpw h)
    have hwa : w ∈ a := by
      rcases List.mem_append.1 (hall w hwW) with h2 | h2
      · exact h2
      · rcases List.mem_cons.1 h2 with rfl | h2
        · exact absurd (sorted_get hsort hchain hw hpw h) (Nat.lt_irrefl _)
        · have := (List.pairwise_append.1 hp).2.1
          exact absurd hd ((List.pairwise_cons.1 this).1 w h2)
    have h3 := (take_mem hsort hchain hnd hall hp hwW).1 hwa
    obtain ⟨q, hq⟩ := List.getElem?_of_mem h3
    rw [List.getElem?_take] at hq
    split at hq
    · rename_i hlt
      exact absurd (sorted_get hsort hchain hq hw hlt) (Nat.lt_irrefl _)
    · cases hq
  · rw [show cntW W a = p by omega]; exact hpw
end
def heapW (rec : Rec) (l : List Oper1) (W : List Nat) (S : Env) (H : Heap) : Nat → Heap
  | 0 => H
  | j + 1 => match (W[j]?).bind (l[·]?) with
    | some o => match stepW rec o S (heapW rec l W S H j) with
      | some r => r.2
      | none => heapW rec l W S H j
    | none => heapW rec l W S H j
theorem float_full {os : List (List Nat)} {W : List Nat} (hW : W = wrs1 l)
    (hdst : ∀ (i k : Nat) (a b : Oper1) (d : Nat), l[k]? = some a → l[i]? = some b → k ≤ i → b.dst = some d → d ∉ opTmps a ∧ (k ≠ i → a.dst ≠ some d))
    (hind : ∀ i j a b, i < j → l[i]? = some a → l[j]? = some b → dep bs i j ∨ indep1 a b = true)
    (hchain : ∀ w ∈ W, ∀ w' ∈ W, w < w' → dep bs w w') (hne : os ≠ [])
    (hst : ∀ r o j, l[r]? = some o → rd1 o.op = true → j ≤ W.length → (∀ w ∈ W.take j, ¬ dep bs r w) → (∀ w ∈ W.drop j, ¬ dep bs w r) → ∃ σ ∈ os, stage1 W σ r = j)
    (hlin : ∀ σ ∈ os, σ.Nodup ∧ (∀ i ∈ σ, i < l.length) ∧ σ.length = l.length ∧ σ.Pairwise (fun j i => ¬ dep bs i j))
    {S : Env} {H2 : Heap} (hrun : ∀ σ ∈ os, ∃ e2, runL rec (pick1 l σ) e H = some (e2, H2) ∧ Eqv S e2) :
    ∀ τ : List Nat, τ.Nodup → (∀ i ∈ τ, i < l.length) → τ.length = l.length → τ.Pairwise (fun j i => ¬ dep bs i j) → ∃ e1, runL rec (pick1 l τ) e H = some (e1, H2) ∧ Eqv S e1 := by
  have hsort : W.Pairwise (· < ·) := by rw [hW]; exact range_filter_sorted _ _
  have hWl : ∀ w ∈ W, w < l.length := fun w hw => by rw [hW] at hw; exact List.mem_range.1 (List.mem_filter.1 hw).1
  have hfull : ∀ τ : List Nat, τ.Nodup → (∀ i ∈ τ, i < l.length) → τ.length = l.length → ∀ i, i < l.length → i ∈ τ := by
    intro τ h1 h2 h3 i hi
    exact (nodup_perm τ (List.range l.length) h1 (fun j hj => List.mem_range.2 (h2 j hj)) (by simp [h3])).mem_iff.2 (List.mem_range.2 hi)
  have hkind : ∀ (i : Nat) (o : Oper1), l[i]? = some o → pure1 o.op = true ∨ rd1 o.op = true ∨ i ∈ W := by
    intro i o ho
    cases h1 : pure1 o.op with
    | true => exact .inl rfl
    | false =>
      cases h2 : rd1 o.op with
      | true => exact .inr (.inl rfl)
      | false =>
        refine .inr (.inr ?_)
        rw [hW]
        refine List.mem_filter.2 ⟨List.mem_range.2 (List.getElem?_eq_some_iff.1 ho).1, ?_⟩
        rw [ho]; simp [h1, h2]
  have hWno : ∀ (i : Nat) (o : Oper1), l[i]? = some o → i ∈ W → pure1 o.op = false ∧ rd1 o.op = false := by
    intro i o ho hi
    rw [hW] at hi
    have := (List.mem_filter.1 hi).2
    rw [ho] at this
    simpa using this
  have hdep : ∀ (i k : Nat) (a b : Oper1) (d : Nat), l[k]? = some a → l[i]? = some b → a.dst = some d → d ∈ opTmps b → dep bs k i := by
    intro i k a b d ha hb hd ht
    rcases Nat.lt_or_ge k i with h | h
    · rcases hind k i a b h ha hb with h2 | h2
      · exact h2
      · exact absurd ht ((indep_spec h2).1 d hd).1
    · exact absurd ht (hdst k i b a d hb ha h hd).1
  have hS : ∀ t, (∀ (i : Nat) (o : Oper1), l[i]? = some o → o.dst ≠ some t) → get S t = get e t := by
    intro t ht
    obtain ⟨σ, hσ⟩ := List.exists_mem_of_ne_nil os hne
    obtain ⟨e2, h1, h2⟩ := hrun σ hσ
    rw [h2 t]
    exact runL_other _ h1 t (fun o ho => by obtain ⟨i, _, hi⟩ := pick_mem ho; exact ht i o hi)
  -- what an operation reads behind a part of an order
  have hin : ∀ (a b : List Nat) (i : Nat) (o : Oper1) (ea : Env) (Ha : Heap), (∀ k, k < l.length → k ∈ a ++ i :: b) → (a ++ i :: b).Pairwise (fun j i => ¬ dep bs i j) → l[i]? = some o → runL rec (pick1 l a) e H = some (ea, Ha) →
      (∀ k ∈ a, ∀ (ok : Oper1) (d : Nat), l[k]? = some ok → ok.dst = some d → get ea d = get S d) → ∀ hh, stepW rec o ea hh = stepW rec o S hh := by
    intro a b i o ea Ha hall hp ho hra hva hh
    refine stepW_congr (fun t ht => ?_)
    by_cases hx : ∃ (k : Nat) (ok : Oper1), l[k]? = some ok ∧ ok.dst = some t
    · obtain ⟨k, ok, hk, hkd⟩ := hx
      have hd := hdep i k ok o t hk ho hkd ht
      rcases List.mem_append.1 (hall k (List.getElem?_eq_some_iff.1 hk).1) with h | h
      · exact hva k h ok t hk hkd
      · rcases List.mem_cons.1 h with rfl | h
        · exact absurd ht (hdst k k o ok t ho hk (Nat.le_refl _) hkd).1
        · have := (List.pairwise_append.1 hp).2.1
          exact absurd hd ((List.pairwise_cons.1 this).1 k h)
    · have h1 : ∀ (j : Nat) (oj : Oper1), l[j]? = some oj → oj.dst ≠ some t := fun j oj hj hjd => hx ⟨j, oj, hj, hjd⟩
      rw [hS t h1]
      exact runL_other _ hra t (fun o' ho' => by obtain ⟨j, _, hj⟩ := pick_mem ho'; exact h1 j o' hj)
  -- what stands in the slots behind a part of one of the orders that were run
  have hval : ∀ σ ∈ os, ∀ a b ea Ha, σ = a ++ b → runL rec (pick1 l a) e H = some (ea, Ha) → ∀ k ∈ a, ∀ (ok : Oper1) (d : Nat), l[k]? = some ok → ok.dst = some d → get ea d = get S d := by
    intro σ hσ a b ea Ha hab hra k hk ok d hok hd
    obtain ⟨e2, h1, h2⟩ := hrun σ hσ
    rw [hab, pick_append, runL_append, hra] at h1
    simp only [Option.bind_some] at h1
    rw [h2 d, runL_other _ h1 d (fun o ho hod => ?_)]
    obtain ⟨j, hj, hoj⟩ := pick_mem ho
    have hnd := (hlin σ hσ).1
    rw [hab] at hnd
    have hne : k ≠ j := fun h => (List.nodup_append.1 hnd).2.2 k hk j hj h
    rcases Nat.lt_or_ge k j with h | h
    · exact (hdst j k ok o d hok hoj (Nat.le_of_lt h) hod).2 hne hd
    · exact (hdst k j o ok d hoj hok h hd).2 (Ne.symm hne) hod
  have hmemW : ∀ σ ∈ os, ∀ w ∈ W, w ∈ σ := fun σ hσ w hw => hfull σ (hlin σ hσ).1 (hlin σ hσ).2.1 (hlin σ hσ).2.2.1 w (hWl w hw)
  -- the heaps behind parts of the orders that were run
  have hheap : ∀ σ ∈ os, ∀ (n : Nat) (a b : List Nat) ea Ha, a.length = n → σ = a ++ b → runL rec (pick1 l a) e H = some (ea, Ha) → Ha = heapW rec l W S H (cntW W a) := by
    intro σ hσ n
    induction n with
    | zero =>
      intro a b ea Ha hn hab hra
      cases List.eq_nil_of_length_eq_zero hn
      simp only [pick1, runL, Option.some.injEq, Prod.mk.injEq] at hra
      rw [← hra.2]; rfl
    | succ n ih =>
      intro a' b ea Ha hn hab hra
      obtain ⟨a, i, rfl⟩ : ∃ a i, a' = a ++ [i] := by
        rcases List.eq_nil_or_concat a' with rfl | ⟨a, i, h⟩
        · cases hn
        · exact ⟨a, i, by simpa using h⟩
      have hn' : a.length = n := by simpa using hn
      have hil : i < l.length := (hlin σ hσ).2.1 i (by rw [hab]; simp)
      obtain ⟨o, ho⟩ : ∃ o, l[i]? = some o := ⟨_, List.getElem?_eq_getElem hil⟩
      rw [pick_append, runL_append] at hra
      obtain ⟨⟨e3, H3⟩, h3, h4⟩ := Option.bind_eq_some_iff.1 hra
      rw [pick_cons ho, runL] at h4
      obtain ⟨⟨e5, H5⟩, h5, h6⟩ := Option.bind_eq_some_iff.1 h4
      simp only [pick1, runL, Option.some.injEq, Prod.mk.injEq] at h6
      obtain ⟨rfl, rfl⟩ := h6
      have hab2 : σ = a ++ i :: b := by rw [hab]; simp
      have hH3 := ih a (i :: b) e3 H3 hn' hab2 h3
      unfold stepG at h5
      obtain ⟨⟨v, H6⟩, h7, h8⟩ := Option.map_eq_some_iff.1 h5
      simp only [Prod.mk.injEq] at h8
      obtain ⟨_, rfl⟩ := h8
      rw [cntW_app]
      rcases hkind i o ho with hk | hk | hk
      · have hnW : i ∉ W := fun h => by rw [(hWno i o ho h).1] at hk; cases hk
        have : cntW W [i] = 0 := by simp [cntW, hnW]
        rw [this, (stepW_pure hk h7).1]
        exact hH3
      · have hnW : i ∉ W := fun h => by rw [(hWno i o ho h).2] at hk; cases hk
        have : cntW W [i] = 0 := by simp [cntW, hnW]
        rw [this, stepW_read hk h7]
        exact hH3
      · have h1 : cntW W [i] = 1 := by simp [cntW, hk]
        have hnx := next_W hsort hchain (a := a) (b := b) (i := i) (by rw [← hab2]; exact (hlin σ hσ).1) (fun w hw => by rw [← hab2]; exact hmemW σ hσ w hw) (by rw [← hab2]; exact (hlin σ hσ).2.2.2) hk
        have hag := hin a b i o e3 H3 (fun k hk => by rw [← hab2]; exact hfull σ (hlin σ hσ).1 (hlin σ hσ).2.1 (hlin σ hσ).2.2.1 k hk) (by rw [← hab2]; exact (hlin σ hσ).2.2.2) ho h3 (hval σ hσ a (i :: b) e3 H3 hab2 h3) H3
        rw [hag, hH3] at h7
        rw [h1]
        show H6 = heapW rec l W S H (cntW W a + 1)
        unfold heapW
        rw [hnx]
        simp only [Option.bind_some, ho, h7]
  have hH2 : H2 = heapW rec l W S H W.length := by
    obtain ⟨σ, hσ⟩ := List.exists_mem_of_ne_nil os hne
    obtain ⟨e2, h1, _⟩ := hrun σ hσ
    have := hheap σ hσ σ.length σ [] e2 H2 rfl (by simp) h1
    rw [this]
    congr 1
    have h3 := nodup_len W (σ.filter W.contains) (hsort.imp (fun h => Nat.ne_of_lt h)) (fun w hw => List.mem_filter.2 ⟨hmemW σ hσ w hw, by simpa using hw⟩)
    have h4 := nodup_len (σ.filter W.contains) W ((hlin σ hσ).1.filter _) (fun w hw => by simpa using (List.mem_filter.1 hw).2)
    unfold cntW
    omega
  intro τ t1 t2 t3 t4
  have tall := hfull τ t1 t2 t3
  have main : ∀ (n : Nat) (a b : List Nat), a.length = n → τ = a ++ b → ∃ ea, runL rec (pick1 l a) e H = some (ea, heapW rec l W S H (cntW W a)) ∧ ∀ k ∈ a, ∀ (ok : Oper1) (d : Nat), l[k]? = some ok → ok.dst = some d → get ea d = get S d := by
    intro n
    induction n with
    | zero =>
      intro a b hn hab
      cases List.eq_nil_of_length_eq_zero hn
      exact ⟨e, rfl, fun k hk => by cases hk⟩
    | succ n ih =>
      intro a' b hn hab
      obtain ⟨a, i, rfl⟩ : ∃ a i, a' = a ++ [i] := by
        rcases List.eq_nil_or_concat a' with rfl | ⟨a, i, h⟩
        · cases hn
        · exact ⟨a, i, by simpa using h⟩
      have hn' : a.length = n := by simpa using hn
      have hab2 : τ = a ++ i :: b := by rw [hab]; simp
      have hil : i < l.length := t2 i (by rw [hab]; simp)
      have hp2 : (a ++ i :: b).Pairwise (fun j i => ¬ dep bs i j) := by rw [← hab2]; exact t4
      have hn2 : (a ++ i :: b).Nodup := by rw [← hab2]; exact t1
      obtain ⟨o, ho⟩ : ∃ o, l[i]? = some o := ⟨_, List.getElem?_eq_getElem hil⟩
      obtain ⟨ea, h1, h2⟩ := ih a (i :: b) hn' hab2
      have hag := hin a b i o ea _ (fun k hk => by rw [← hab2]; exact tall k hk) (by rw [← hab2]; exact t4) ho h1 h2
      -- what the operation does in one of the orders that were run
      have hobs : ∀ σ ∈ os, ∃ a1 b1 v, σ = a1 ++ i :: b1 ∧ stepW rec o S (heapW rec l W S H (cntW W a1)) = some (v, heapW rec l W S H (cntW W (a1 ++ [i]))) ∧ ∀ d, o.dst = some d → v = get S d := by
        intro σ hσ
        obtain ⟨q1, q2, q3, q4⟩ := hlin σ hσ
        obtain ⟨a1, b1, hs⟩ := List.append_of_mem (hfull σ q1 q2 q3 i hil)
        obtain ⟨e2, r1, r2⟩ := hrun σ hσ
        rw [hs, pick_append, runL_append] at r1
        obtain ⟨⟨e3, H3⟩, r3, r4⟩ := Option.bind_eq_some_iff.1 r1
        rw [pick_cons ho, runL] at r4
        obtain ⟨⟨e5, H5⟩, r5, r6⟩ := Option.bind_eq_some_iff.1 r4
        have hH3 := hheap σ hσ _ a1 (i :: b1) e3 H3 rfl hs r3
        have hr : runL rec (pick1 l (a1 ++ [i])) e H = some (e5, H5) := by
          rw [pick_append, runL_append, r3]
          show runL rec (pick1 l [i]) e3 H3 = _
          rw [pick_cons ho, runL, r5]; rfl
        have hH5 := hheap σ hσ _ (a1 ++ [i]) b1 e5 H5 rfl (by rw [hs]; simp) hr
        have hv5 := hval σ hσ (a1 ++ [i]) b1 e5 H5 (by rw [hs]; simp) hr i (by simp)
        have hag1 := hin a1 b1 i o e3 H3 (fun k hk => by rw [← hs]; exact hfull σ q1 q2 q3 k hk) (by rw [← hs]; exact q4) ho r3 (hval σ hσ a1 (i :: b1) e3 H3 hs r3) H3
        unfold stepG at r5
        obtain ⟨⟨v, H6⟩, r7, r8⟩ := Option.map_eq_some_iff.1 r5
        simp only [Prod.mk.injEq] at r8
        obtain ⟨r9, rfl⟩ := r8
        rw [hag1, hH3] at r7
        refine ⟨a1, b1, v, hs, by rw [← hH5]; exact r7, fun d hd => ?_⟩
        rw [← hv5 o d ho hd, ← r9, hd]
        simp [bind1, get]
      have hstep : ∃ v, stepW rec o S (heapW rec l W S H (cntW W a)) = some (v, heapW rec l W S H (cntW W (a ++ [i]))) ∧ ∀ d, o.dst = some d → v = get S d := by
        rcases hkind i o ho with hk | hk | hk
        · obtain ⟨σ, hσ⟩ := List.exists_mem_of_ne_nil os hne
          obtain ⟨a1, b1, v, hs, r1, r2⟩ := hobs σ hσ
          have hnW : i ∉ W := fun h => by rw [(hWno i o ho h).1] at hk; cases hk
          have : cntW W [i] = 0 := by simp [cntW, hnW]
          refine ⟨v, ?_, r2⟩
          rw [cntW_app, this]
          exact (stepW_pure hk r1).2 _
        · have hnW : i ∉ W := fun h => by rw [(hWno i o ho h).2] at hk; cases hk
          have hc0 : cntW W [i] = 0 := by simp [cntW, hnW]
          have hwall : ∀ w ∈ W, w ∈ a ++ i :: b := fun w hw => by rw [← hab2]; exact tall w (hWl w hw)
          have hle : cntW W a ≤ W.length := nodup_len (a.filter W.contains) W ((List.nodup_append.1 hn2).1.filter _) (fun w hw => by simpa using (List.mem_filter.1 hw).2)
          obtain ⟨σ, hσ, hstg⟩ := hst i o (cntW W a) ho hk hle
            (fun w hw hd => by
              have hwW := List.mem_of_mem_take hw
              have hwa := (take_mem hsort hchain hn2 hwall hp2 hwW).2 hw
              exact (List.pairwise_append.1 hp2).2.2 w hwa i (List.mem_cons_self ..) hd)
            (fun w hw hd => by
              have hwW := List.mem_of_mem_drop hw
              have hwna : w ∉ a := fun hwa => by
                have h3 := (take_mem hsort hchain hn2 hwall hp2 hwW).1 hwa
                obtain ⟨p, hp⟩ := List.getElem?_of_mem h3
                obtain ⟨q, hq⟩ := List.getElem?_of_mem hw
                rw [List.getElem?_take] at hp
                split at hp
                · rw [List.getElem?_drop] at hq
                  exact absurd (sorted_get hsort hchain hp hq (by omega)) (Nat.lt_irrefl _)
                · cases hp
              rcases List.mem_append.1 (hwall w hwW) with h3 | h3
              · exact hwna h3
              · rcases List.mem_cons.1 h3 with rfl | h3
                · exact hnW hwW
                · have := (List.pairwise_append.1 hp2).2.1
                  exact (List.pairwise_cons.1 this).1 w h3 hd)
          obtain ⟨a1, b1, v, hs, r1, r2⟩ := hobs σ hσ
          have hst1 : stage1 W σ i = cntW W a1 := by
            have hnd := (hlin σ hσ).1
            rw [hs] at hnd ⊢
            unfold stage1 cntW
            have : (a1 ++ i :: b1).takeWhile (fun x => x != i) = a1 := by
              have h3 : ∀ x ∈ a1, (x != i) = true := fun x hx => by
                have := (List.nodup_append.1 hnd).2.2 x hx i (List.mem_cons_self ..)
                simpa using this
              rw [List.takeWhile_append_of_pos h3, List.takeWhile_cons_of_neg (by simp)]
              simp
            rw [this]
          rw [hst1] at hstg
          refine ⟨v, ?_, r2⟩
          rw [cntW_app, hc0] at r1 ⊢
          rw [hstg] at r1
          exact r1
        · obtain ⟨σ, hσ⟩ := List.exists_mem_of_ne_nil os hne
          obtain ⟨a1, b1, v, hs, r1, r2⟩ := hobs σ hσ
          obtain ⟨q1, q2, q3, q4⟩ := hlin σ hσ
          have n1 := next_W hsort hchain (a := a) (b := b) (i := i) hn2 (fun w hw => by rw [← hab2]; exact tall w (hWl w hw)) hp2 hk
          have n2 := next_W hsort hchain (a := a1) (b := b1) (i := i) (hs ▸ q1) (fun w hw => by rw [← hs]; exact hmemW σ hσ w hw) (hs ▸ q4) hk
          have : cntW W a = cntW W a1 := by
            rcases Nat.lt_trichotomy (cntW W a) (cntW W a1) with h | h | h
            · exact absurd (sorted_get hsort hchain n1 n2 h) (Nat.lt_irrefl _)
            · exact h
            · exact absurd (sorted_get hsort hchain n2 n1 h) (Nat.lt_irrefl _)
          refine ⟨v, ?_, r2⟩
          rw [cntW_app] at r1 ⊢
          rw [this]; exact r1
      obtain ⟨v, s1, s2⟩ := hstep
      refine ⟨bind1 ea o.dst v, ?_, ?_⟩
      · rw [pick_append, runL_append, h1]
        show runL rec (pick1 l [i]) ea _ = _
        rw [pick_cons ho, runL]
        unfold stepG
        rw [hag, s1]
        rfl
      · intro k hk ok d hok hd
        rcases List.mem_append.1 hk with hk | hk
        · have hki : k ≠ i := fun h => (List.nodup_append.1 hn2).2.2 k hk i (List.mem_cons_self ..) h
          have hod : o.dst ≠ some d := by
            rcases Nat.lt_or_ge k i with h | h
            · exact fun hod => (hdst i k ok o d hok ho (Nat.le_of_lt h) hod).2 hki hd
            · exact fun hod => (hdst k i o ok d ho hok h hd).2 (Ne.symm hki) hod
          rw [get_bind_ne (fun x hx hxd => hod (by rw [hx, hxd]))]
          exact h2 k hk ok d hok hd
        · simp only [List.mem_singleton] at hk
          subst hk
          rw [ho] at hok; cases hok
          rw [hd]
          simp only [bind1, get, beq_self_eq_true, cond_true]
          exact s2 d hd
  obtain ⟨e1, h1, h2⟩ := main τ.length τ [] rfl (by simp)
  refine ⟨e1, ?_, fun t => ?_⟩
  · rw [h1, hH2]
    congr 3
    have h3 := nodup_len W (τ.filter W.contains) (hsort.imp (fun h => Nat.ne_of_lt h)) (fun w hw => List.mem_filter.2 ⟨tall w (hWl w hw), by simpa using hw⟩)
    have h4 := nodup_len (τ.filter W.contains) W (t1.filter _) (fun w hw => by simpa using (List.mem_filter.1 hw).2)
    unfold cntW
    omega
  · by_cases hx : ∃ (k : Nat) (ok : Oper1), l[k]? = some ok ∧ ok.dst = some t
    · obtain ⟨k, ok, hk, hkd⟩ := hx
      exact (h2 k (tall k (List.getElem?_eq_some_iff.1 hk).1) ok t hk hkd).symm
    · have h3 : ∀ (j : Nat) (oj : Oper1), l[j]? = some oj → oj.dst ≠ some t := fun j oj hj hjd => hx ⟨j, oj, hj, hjd⟩
      rw [hS t h3]
      exact (runL_other _ h1 t (fun o' ho' => by obtain ⟨j, _, hj⟩ := pick_mem ho'; exact h3 j o' hj)).symm
end
section
variable {C : Ctx} {rec : Rec} {f : FuncId} {nt : Nat} {ops : Array Oper} {B : Base}
theorem Rel.eqv {e e' : Env} {H : Heap} {a : Act} {w : World} (h : Rel C nt B e H a w) (he : Eqv e' e) : Rel C nt B e' H a w := by
  obtain ⟨ρ, F, h1, h2, h3, h4, h5⟩ := h
  exact ⟨ρ, F, h1, fun t => by rw [he t]; exact h2 t, h3, h4, h5⟩
theorem stepG_ok (hrec : RecOK C rec) {i : Nat} {op : Oper} {o : Oper1} {e e1 : Env} {H H1 : Heap} {a : Act} {w : World} {ro : Option Nat} {n : Nat} {Q : Exit → Act → World → Prop} {K : Act → World → Prop}
    (hi : ops[i]? = some op) (hco : coper C.P C.pol f nt ops op = some o) (hs : stepG rec o e H = some (e1, H1)) (hrel : Rel C nt B e H a w) (hK : ∀ a' w', Rel C nt B e1 H1 a' w' → K a' w') :
    wpOpIn (WF ro) n C.P ops Q i K a w := by
  unfold wpOpIn
  simp only [hi]
  unfold coper at hco
  replace hco := bif_none hco
  obtain ⟨hdst, hco⟩ := hco
  have hd : ∀ d, op.dst = some d → d < nt := fun d hd => by
    rw [hd] at hdst; simpa using hdst
  obtain ⟨ρ, F, hr, he, hput⟩ := hrel.step (P := fun _ _ => True)
  unfold stepG stepW at hs
  have hgo : ∀ op1, op1 = lit1 (lk C.pol f op.dst) ((cop C.P op.op).getD .bad) → (step1 rec e H op1).map (fun r => (bind1 e op.dst r.1, r.2)) = some (e1, H1) → op.wpIn (WF ro) n C.P a w K Q := by
    intro op1 hop h
    obtain ⟨⟨s, H'⟩, h1, h2⟩ := Option.map_eq_some_iff.1 h
    simp only [Prod.mk.injEq] at h2
    obtain ⟨rfl, rfl⟩ := h2
    exact step1_lit hrec hop h1 hr he (fun val w' hdn => hK _ _ (hput op.dst s H' val w' hd hdn))
  split at hco
  · rename_i hg
    cases hco
    have hw : Region.wanted op (yielded ops a.tmps) = true := by simp [Region.wanted, hg]
    rw [hw, if_pos rfl]
    exact hgo _ rfl hs
  · rename_i j' want hg
    split at hco
    · rename_i t ht
      cases hco
      simp only at hs
      split at hs
      · rename_i b hb
        have htv : a.tmps.getD t undef = .bool b := by
          have := he t
          rw [hb] at this
          exact vr_bool this
        have hy : yielded ops a.tmps j' = some b := by
          simp only [yielded, ht, Option.bind_some, getD_bool htv]
        cases hbw : (b == want) with
        | true =>
          rw [hbw] at hs
          have hw : Region.wanted op (yielded ops a.tmps) = true := by
            simp only [Region.wanted, hg, hy]; simpa using hbw
          rw [hw, if_pos rfl]
          exact hgo _ rfl hs
        | false =>
          rw [hbw] at hs
          have hw : ¬ Region.wanted op (yielded ops a.tmps) = true := by
            simp only [Region.wanted, hg, hy]; simpa using hbw
          rw [if_neg hw]
          simp only [cond_false, Option.map_some, Option.some.injEq, Prod.mk.injEq] at hs
          obtain ⟨rfl, rfl⟩ := hs
          exact ⟨fun _ _ => trivial, hK _ _ (hput op.dst .skp H undef w hd (Done.same hr .skp))⟩
      · rename_i hb
        have htv : a.tmps.getD t undef = undef := by
          have := he t
          rw [hb] at this
          exact vr_skp this
        have hy : yielded ops a.tmps j' = none := yielded_und ht htv
        have hw : ¬ Region.wanted op (yielded ops a.tmps) = true := by
          simp only [Region.wanted, hg, hy]; simp
        rw [if_neg hw]
        simp only [Option.map_some, Option.some.injEq, Prod.mk.injEq] at hs
        obtain ⟨rfl, rfl⟩ := hs
        exact ⟨fun _ _ => trivial, hK _ _ (hput op.dst .skp H undef w hd (Done.same hr .skp))⟩
      · cases hs
    · cases hco
theorem ok_perm (hmix : C.P.follows .mixedOrders = true) (hrec : RecOK C rec) {id : Nat} {c : Code1} (hc : cperm C.P C.pol f nt ops = some c) : CodeOK C rec nt (.region id ops true) c := by
  unfold cperm at hc
  split at hc
  · cases hc
  rename_i l hl
  obtain ⟨bs, hbs⟩ : ∃ bs, before1 ops.toList = bs := ⟨_, rfl⟩
  rw [hbs] at hc
  obtain ⟨os, rfl, hos⟩ : ∃ os, c = .perm l os ∧ (okFlo bs ops.toList l os = true ∨ okPerm bs ops.toList l os = true) := by
    cases hf : okFlo bs ops.toList l (ordersF bs l) with
    | true => rw [hf] at hc; cases hc; exact ⟨_, rfl, .inl hf⟩
    | false =>
      rw [hf] at hc
      simp only [cond_false] at hc
      replace hc := bif_some hc
      obtain ⟨hok, hc⟩ := hc
      cases hc
      exact ⟨_, rfl, .inr hok⟩
  intro ro n Bs Q R k r e H a w hro hrun hk hrel
  simp only [run] at hrun
  obtain ⟨g1, g2⟩ := allS_map hl
  have hlen : l.length = ops.size := by rw [g1]; simp
  have c123 : (ops.toList.zipIdx.all fun p => p.1.after.toList.all fun e => !Region.binds .any e || decide (e.on < p.2)) = true ∧
      ((List.range l.length).all fun j => (List.range j).all fun i => match l[i]?, l[j]? with
        | some a, some b => (bs.getD j 0).testBit i || indep1 a b
        | _, _ => false) = true ∧ (os.all fun o => linOK bs l.length [] o) = true := by
    rcases hos with hok | hok
    · unfold okFlo at hok
      simp only [Bool.and_eq_true] at hok
      exact ⟨hok.1.1.1.1.1.1, hok.1.1.1.1.1.2, hok.1.1.1.1.2⟩
    · unfold okPerm at hok
      simp only [Bool.and_eq_true] at hok
      exact ⟨hok.1.1.1, hok.1.1.2, hok.1.2⟩
  obtain ⟨c1, c2, c3⟩ := c123
  have hedge : ∀ (j : Nat) o, ops.toList[j]? = some o → ∀ e ∈ o.after, Region.binds .any e = true → e.on < j := by
    intro j o ho e he hb
    have h1 := List.all_eq_true.1 c1 (o, j) (List.mem_zipIdx_iff_getElem?.2 (by simpa using ho))
    have h2 := List.all_eq_true.1 h1 e (by simpa using he)
    rw [hb] at h2
    simpa using h2
  have hbk : ∀ i j, dep bs i j → i < j := by
    intro i j h
    rw [← hbs] at h
    exact bef_lt (fun j o ho e he hb => hedge j o ho e he hb) j i h
  have hind : ∀ i j x y, l[i]? = some x → l[j]? = some y → i ≠ j → dep bs i j ∨ dep bs j i ∨ indep1 x y = true ∨ indep1 y x = true := by
    have key : ∀ i j x y, i < j → l[i]? = some x → l[j]? = some y → dep bs i j ∨ indep1 x y = true := by
      intro i j x y hij hx hy
      have hjl := (List.getElem?_eq_some_iff.1 hy).1
      have h1 := List.all_eq_true.1 c2 j (List.mem_range.2 hjl)
      have h2 := List.all_eq_true.1 h1 i (List.mem_range.2 hij)
      rw [hx, hy] at h2
      simp only [Bool.or_eq_true] at h2
      exact h2
    intro i j x y hx hy hne
    rcases Nat.lt_or_gt_of_ne hne with h | h
    · rcases key i j x y h hx hy with h | h
      · exact .inl h
      · exact .inr (.inr (.inl h))
    · rcases key j i y x h hy hx with h | h
      · exact .inr (.inl h)
      · exact .inr (.inr (.inr h))
  cases hsm : same1 (os.map (runAll rec l e H)) with
  | none => rw [hsm] at hrun; cases hrun
  | some s =>
  rw [hsm] at hrun
  have hall := same1_all _ hsm
  have hrunσ : ∀ σ ∈ os, ∃ e2 H2, runL rec (pick1 l σ) e H = some (e2, H2) ∧ s = (canonE l e2 e, H2) := by
    intro σ hσ
    have h1 := hall _ (List.mem_map.2 ⟨σ, hσ, rfl⟩)
    unfold runAll at h1
    rw [runOps_L] at h1
    obtain ⟨s2, h2, h3⟩ := Option.bind_eq_some_iff.1 h1
    simp only [Option.some.injEq] at h3
    exact ⟨s2.1, s2.2, h2, h3.symm⟩
  have hlin : ∀ σ ∈ os, σ.Nodup ∧ (∀ i ∈ σ, i < l.length) ∧ σ.length = l.length ∧ σ.Pairwise (fun j i => ¬ dep bs i j) := by
    intro σ hσ
    obtain ⟨q1, q2, q3, q4⟩ := linOK_spec σ [] (List.all_eq_true.1 c3 σ hσ) List.nodup_nil (by simp)
    refine ⟨by simpa using q1, q2, by simpa using q3, ?_⟩
    exact q4.imp_of_mem (fun {j i} hj hi h hd => h ⟨q2 i hi, hd⟩)
  have hperm : ∀ τ : List Nat, τ.Nodup → (∀ i ∈ τ, i < l.length) → τ.length = l.length → τ.Perm (List.range l.length) := by
    intro τ h1 h2 h3
    exact nodup_perm τ _ h1 (fun i hi => List.mem_range.2 (h2 i hi)) (by simp [h3])
  have hfull : ∀ τ : List Nat, τ.Nodup → (∀ i ∈ τ, i < l.length) → τ.length = l.length → τ.Pairwise (fun j i => ¬ dep bs i j) → ∃ e1, runL rec (pick1 l τ) e H = some (e1, s.2) ∧ Eqv s.1 e1 := by
    rcases hos with hok | hok
    · unfold okFlo at hok
      simp only [Bool.and_eq_true] at hok
      obtain ⟨⟨⟨⟨_, c4⟩, c5⟩, c6⟩, c7⟩ := hok
      refine float_full (S := s.1) (H2 := s.2) rfl ?_ ?_ ?_ ?_ ?_ hlin ?_
      · intro i k x y d hx hy hki hd
        have hil := (List.getElem?_eq_some_iff.1 hy).1
        have h1 := List.all_eq_true.1 c4 i (List.mem_range.2 hil)
        have h2 := List.all_eq_true.1 h1 k (List.mem_range.2 (by omega))
        rw [hx, hy] at h2
        simp only [hd, Bool.and_eq_true, Bool.or_eq_true, Bool.not_eq_true', beq_iff_eq, beq_eq_false_iff_ne] at h2
        exact ⟨by simpa using h2.1, fun hne hxd => by
          rcases h2.2 with h3 | h3
          · exact hne h3
          · exact h3 hxd⟩
      · intro i j x y hij hx hy
        have hjl := (List.getElem?_eq_some_iff.1 hy).1
        have h1 := List.all_eq_true.1 c2 j (List.mem_range.2 hjl)
        have h2 := List.all_eq_true.1 h1 i (List.mem_range.2 hij)
        rw [hx, hy] at h2
        simp only [Bool.or_eq_true] at h2
        exact h2
      · intro w hw w' hw' hlt
        have h1 := List.all_eq_true.1 (List.all_eq_true.1 c5 w hw) w' hw'
        rw [decide_eq_true hlt] at h1
        simpa [dep] using h1
      · intro h
        rw [h] at c6
        simp at c6
      · intro r o j hro' hrd hj h1 h2
        have hrl := (List.getElem?_eq_some_iff.1 hro').1
        have h3 := List.all_eq_true.1 c7 r (List.mem_range.2 hrl)
        rw [hro'] at h3
        simp only [hrd, Bool.not_true, Bool.false_or] at h3
        have h4 := List.all_eq_true.1 h3 j (List.mem_range.2 (by omega))
        have h5 : allowed1 bs (wrs1 l) r j = true := by
          unfold allowed1
          rw [Bool.and_eq_true]
          refine ⟨List.all_eq_true.2 fun w hw => ?_, List.all_eq_true.2 fun w hw => ?_⟩
          · have := h1 w hw; unfold dep at this; simpa using this
          · have := h2 w hw; unfold dep at this; simpa using this
        rw [h5] at h4
        simp only [Bool.not_true, Bool.false_or] at h4
        obtain ⟨σ, hσ, h6⟩ := List.any_eq_true.1 h4
        exact ⟨σ, hσ, by simpa using h6⟩
      · intro σ hσ
        obtain ⟨e2, H2, r1, r2⟩ := hrunσ σ hσ
        exact ⟨e2, by rw [r2]; exact r1, by rw [r2]; exact canonE_eqv r1⟩
    unfold okPerm at hok
    simp only [Bool.and_eq_true] at hok
    obtain ⟨_, c4⟩ := hok
    intro τ h1 h2 h3 h4
    have hp := hperm τ h1 h2 h3
    have hmem : τ.filter (nonP l) ∈ allExt bs ((List.range l.length).filter (nonP l)).length ((List.range l.length).filter (nonP l)) :=
      allExt_all _ _ _ (hp.filter _).length_eq (hp.filter _) (h1.filter _) (h4.filter _)
    have h5 := List.all_eq_true.1 c4 _ hmem
    obtain ⟨σ, hσ, h6⟩ := List.any_eq_true.1 h5
    obtain ⟨q1, q2, q3, q4⟩ := hlin σ hσ
    obtain ⟨e2, H2, r1, r2⟩ := hrunσ σ hσ
    obtain ⟨e1, r3, r4⟩ := reduce hind τ σ h2 h1 (hp.trans (hperm σ q1 q2 q3).symm) h4 q4 (by simpa using (beq_iff_eq.1 h6).symm) (fun _ => rfl) r1
    refine ⟨e1, by rw [r2]; exact r3, fun t => ?_⟩
    rw [r2, r4 t]
    exact canonE_eqv r1 t
  refine wpIn_region_any hmix ?_
  have hrel0 : Rel C nt Bs e H a { w with drawn := w.drawn + 1 } := by
    obtain ⟨ρ, F, q1, q2, q3, q4, q5⟩ := hrel
    obtain ⟨z1, z2⟩ := q1.same (w' := { w with drawn := w.drawn + 1 }) (Nat.le_refl _) (fun _ _ => rfl)
    exact ⟨ρ, F, z1, z2.er q1 q2, q3.trans z2, q4, q5.ext z2.toExt0⟩
  have main : ∀ (fuel : Nat) (listed : Array Bool) (a : Act) (w : World), listed.size = ops.size → unl listed ≤ fuel →
      (∃ τ : List Nat, τ.Nodup ∧ (∀ j, listed.getD j false = true ↔ j ∈ τ) ∧ (∀ j ∈ τ, j < l.length) ∧ τ.Pairwise (fun j i => ¬ dep bs i j) ∧ (∀ j ∈ τ, ∀ o, ops.toList[j]? = some o → ∀ e ∈ o.after, Region.binds .any e = true → e.on ∈ τ) ∧
        ∃ e1 H1, runL rec (pick1 l τ) e H = some (e1, H1) ∧ Rel C nt Bs e1 H1 a w) → wpAnyIn (WF ro) n C.P .any ops Q fuel listed a w := by
    have hlast : ∀ (listed : Array Bool) (a : Act) (w : World), listed.size = ops.size →
        (∃ τ : List Nat, τ.Nodup ∧ (∀ j, listed.getD j false = true ↔ j ∈ τ) ∧ (∀ j ∈ τ, j < l.length) ∧ τ.Pairwise (fun j i => ¬ dep bs i j) ∧ (∀ j ∈ τ, ∀ o, ops.toList[j]? = some o → ∀ e ∈ o.after, Region.binds .any e = true → e.on ∈ τ) ∧
          ∃ e1 H1, runL rec (pick1 l τ) e H = some (e1, H1) ∧ Rel C nt Bs e1 H1 a w) → Region.ready .any ops listed = [] → Q .normal a w := by
      intro listed a w hsz ⟨τ, t1, t2, t3, t4, t5, e1, H1, t6, t7⟩ hnil
      have hall2 : ∀ j, j < l.length → j ∈ τ := by
        intro j
        induction j using Nat.strongRecOn with
        | _ j ih =>
          intro hj
          apply Classical.byContradiction
          intro hn
          have hjs : j < listed.size := by omega
          have hnl : listed.getD j false = false := by
            cases hx : listed.getD j false with
            | false => rfl
            | true => exact absurd ((t2 j).1 hx) hn
          have hmem : j ∈ Region.ready .any ops listed := by
            rw [mem_ready]
            have hoj : ops[j]? = some (ops[j]'(by omega)) := Array.getElem?_eq_getElem (by omega)
            refine ⟨by simpa [hjs] using hnl, _, hoj, fun e' he' hb => ?_⟩
            have h1 := hedge j _ (by simpa using hoj) e' he' hb
            exact (t2 e'.on).2 (ih e'.on h1 (by omega))
          rw [hnil] at hmem
          cases hmem
      have hlenτ : τ.length = l.length := by
        have h1 := nodup_len (List.range l.length) τ List.nodup_range (fun j hj => hall2 j (List.mem_range.1 hj))
        have h2 := nodup_len τ (List.range l.length) t1 (fun j hj => List.mem_range.2 (t3 j hj))
        rw [List.length_range] at h1 h2
        omega
      obtain ⟨e3, r1, r2⟩ := hfull τ t1 t3 hlenτ t4
      rw [t6] at r1
      cases r1
      exact hk .normal s.1 s.2 a w hrun (t7.eqv r2)
    intro fuel
    induction fuel with
    | zero =>
      intro listed a w hsz hu hj
      have hnil : Region.ready .any ops listed = [] := by
        apply List.eq_nil_iff_forall_not_mem.2
        intro j hjr
        have h1 := (mem_ready.1 hjr).1
        have hks : j < listed.size := by
          rcases Nat.lt_or_ge j listed.size with h | h
          · exact h
          · simp [Array.getElem?_eq_none h] at h1
        have : false ∈ listed.toList := by
          simp [hks] at h1
          rw [← h1]; simp
        have := List.count_pos_iff.2 this
        unfold unl at hu
        omega
      exact ⟨hnil, hlast listed a w hsz hj hnil⟩
    | succ fuel ih =>
      intro listed a w hsz hu hj
      refine ⟨hlast listed a w hsz hj, fun i hi => ?_⟩
      obtain ⟨h1, o, ho, hafter⟩ := mem_ready.1 hi
      have hks : i < listed.size := by
        rcases Nat.lt_or_ge i listed.size with h | h
        · exact h
        · simp [Array.getElem?_eq_none h] at h1
      have hfl : listed[i] = false := by simpa [hks] using h1
      obtain ⟨τ, t1, t2, t3, t4, t5, e1, H1, t6, t7⟩ := hj
      have hiτ : i ∉ τ := fun h => by have := (t2 i).2 h; simp [hks, hfl] at this
      have hclo : ∀ k, dep bs k i → k ∈ τ := by
        intro k hk
        have h2 : ((before1 ops.toList).getD i 0).testBit k = true := by rw [hbs]; exact hk
        refine bef_closed (S := fun k => k ∈ τ) (fun j o' hj ho' e' he' hb => t5 j hj o' ho' e' he' hb) i k (fun o' ho' e' he' hb => ?_) h2
        · have : ops.toList[i]? = some o := by simpa using ho
          rw [this] at ho'; cases ho'
          exact (t2 _).1 (hafter e' he' hb)
      have hil : i < l.length := by omega
      have hdc : ∀ j ∈ τ, ∀ k, dep bs k j → k ∈ τ := by
        intro j hj k hk
        have h2 : ((before1 ops.toList).getD j 0).testBit k = true := by rw [hbs]; exact hk
        exact bef_closed (S := fun k => k ∈ τ) (fun j o' hj ho' e' he' hb => t5 j hj o' ho' e' he' hb) j k (fun o' ho' e' he' hb => t5 j hj o' ho' e' he' hb) h2
      obtain ⟨oi, hoi⟩ : ∃ oi, l[i]? = some oi := ⟨_, List.getElem?_eq_getElem hil⟩
      obtain ⟨rest, hrest⟩ : ∃ rest, (List.range l.length).filter (fun k => decide (k ∉ τ ++ [i])) = rest := ⟨_, rfl⟩
      have hrm : ∀ k, k ∈ rest ↔ k < l.length ∧ k ∉ τ ∧ k ≠ i := by
        intro k
        rw [← hrest]
        simp [List.mem_filter]
      have hnd : (τ ++ [i] ++ rest).Nodup := by
        rw [List.nodup_append]
        refine ⟨List.nodup_append.2 ⟨t1, by simp, fun x hx y hy => ?_⟩, ?_, fun x hx y hy => ?_⟩
        · simp at hy; subst hy; exact fun h => hiτ (h ▸ hx)
        · rw [← hrest]; exact List.nodup_range.filter _
        · have := (hrm y).1 hy
          rcases List.mem_append.1 hx with hx | hx
          · exact fun h => this.2.1 (h ▸ hx)
          · simp at hx; subst hx; exact fun h => this.2.2 h.symm
      have hltall : ∀ k ∈ τ ++ [i] ++ rest, k < l.length := by
        intro k hk'
        rcases List.mem_append.1 hk' with hk' | hk'
        · rcases List.mem_append.1 hk' with hk' | hk'
          · exact t3 k hk'
          · simp at hk'; omega
        · exact ((hrm k).1 hk').1
      have hlen2 : (τ ++ [i] ++ rest).length = l.length := by
        have h1 := nodup_len (List.range l.length) (τ ++ [i] ++ rest) List.nodup_range (fun j hj => by
          by_cases hj1 : j ∈ τ
          · simp [hj1]
          · by_cases hj2 : j = i
            · simp [hj2]
            · exact List.mem_append_right _ ((hrm j).2 ⟨List.mem_range.1 hj, hj1, hj2⟩))
        have h2 := nodup_len (τ ++ [i] ++ rest) (List.range l.length) hnd (fun j hj => List.mem_range.2 (hltall j hj))
        rw [List.length_range] at h1 h2
        omega
      have hcons : (τ ++ [i] ++ rest).Pairwise (fun j i => ¬ dep bs i j) := by
        rw [List.pairwise_append]
        refine ⟨List.pairwise_append.2 ⟨t4, by simp, fun j hj k hk' hd => ?_⟩, ?_, fun j hj k hk' hd => ?_⟩
        · simp at hk'; subst hk'
          exact hiτ (hdc j hj _ hd)
        · rw [← hrest]
          refine List.Pairwise.filter _ (List.pairwise_lt_range.imp (fun {a b} hab hd => ?_))
          have := hbk _ _ hd; omega
        · have h3 := (hrm k).1 hk'
          rcases List.mem_append.1 hj with hj | hj
          · exact h3.2.1 (hdc j hj _ hd)
          · simp at hj; subst hj; exact h3.2.1 (hclo _ hd)
      obtain ⟨e3, r1, r2⟩ := hfull _ hnd hltall hlen2 hcons
      rw [pick_append, pick_append, List.append_assoc, runL_append, t6] at r1
      simp only [Option.bind_some] at r1
      rw [runL_append] at r1
      obtain ⟨s4, r3, _⟩ := Option.bind_eq_some_iff.1 r1
      rw [pick_cons hoi, runL] at r3
      obtain ⟨s5, r4, r5⟩ := Option.bind_eq_some_iff.1 r3
      have hops : ops[i]? = some (ops[i]'(by omega)) := Array.getElem?_eq_getElem (by omega)
      have hco : coper C.P C.pol f nt ops (ops[i]'(by omega)) = some oi := g2 i _ _ (by simpa using hops) hoi
      refine stepG_ok hrec hops hco (show stepG rec oi e1 H1 = some (s5.1, s5.2) from r4) t7 (fun a' w' hrel' => ih _ a' w' (by simpa using hsz) ?_ ⟨τ ++ [i], ?_, ?_, ?_, ?_, ?_, s5.1, s5.2, ?_, hrel'⟩)
      · unfold unl at hu ⊢
        rw [Array.toList_setIfInBounds, List.count_set (by simpa using hks)]
        have hq : listed.toList[i]'(by simpa using hks) = false := by simpa using hfl
        rw [hq]
        simp only [beq_self_eq_true, if_true]
        have : ((true == false) = true) = False := by simp
        simp only [this, if_false]
        omega
      · exact (List.nodup_append.1 hnd).1
      · intro j
        by_cases hji : j = i
        · subst hji; simp [hks]
        · have : (listed.setIfInBounds i true).getD j false = listed.getD j false := by simp [Array.getElem?_setIfInBounds_ne (Ne.symm hji)]
          rw [this, t2 j]
          simp [hji]
      · intro j hj; exact hltall j (List.mem_append_left _ hj)
      · exact (List.pairwise_append.1 hcons).1
      · intro j hj o' ho' e' he' hb
        rcases List.mem_append.1 hj with hj | hj
        · exact List.mem_append_left _ (t5 j hj o' ho' e' he' hb)
        · simp at hj; subst hj
          have : ops.toList[j]? = some o := by simpa using ho
          rw [this] at ho'; cases ho'
          exact List.mem_append_left _ ((t2 _).1 (hafter e' he' hb))
      · rw [pick_append, runL_append, t6]
        simp only [Option.bind_some]
        rw [pick_cons hoi, runL, r4]
        rfl
  refine main ops.size _ a _ (by simp) ?_ ⟨[], List.nodup_nil, fun j => ?_, by simp, List.Pairwise.nil, by simp, e, H, rfl, hrel0⟩
  · unfold unl; simp
  · by_cases hj : j < ops.size <;> simp [hj]
end
end Go.Sh
namespace Go.Sh
set_option linter.unusedSectionVars false
set_option linter.unusedVariables false
set_option linter.unusedSimpArgs false
set_option linter.unnecessarySimpa false
section
variable {C : Ctx} {rec : Rec} {f : FuncId} {nt : Nat}
theorem virts_ok {c : Code} {c1 : Code1} (h : CodeOK C rec nt c c1) : ∀ vs, CodeOK C rec nt c (virts c1 vs)
  | [] => h
  | v :: vs => by
    intro ro n B Q R k r e H a w hro hrun hk hrel
    simp only [virts, run] at hrun
    refine h ro n B Q R _ r e H a w hro hrun (fun x e' H' a' w' hx hr => ?_) hrel
    cases x with
    | exit id => exact hk _ _ _ _ _ hx hr
    | ret => exact hk _ _ _ _ _ hx hr
    | normal =>
      simp only at hx
      unfold onSome at hx
      split at hx
      · rename_i p hp
        exact hk .normal _ _ _ _ hx (virt_ok (v :: vs) hp hr)
      · cases hx
theorem emp_vr {ρ : Map} {F : Nat → Prop} {H : Heap} {w : World} {c : SV} {v : Value} {em : Bool} (hr : HR C ρ F H w) (hs : emp1 H c = some em) (hv : VR w F ρ c v) : ∃ q n cap, v = .slice q n cap ∧ (em = false → q.isNone = false) := by
  unfold emp1 at hs
  split at hs
  · rename_i z L f
    cases hs
    cases hv with
    | lst V hcap hfull hz hat h1 hv =>
      rename_i q cap
      refine ⟨q, _, _, rfl, fun hL => ?_⟩
      rcases hat with h0 | ⟨B, o, ha, _⟩
      · subst h0; cases hL
      · subst ha; rfl
  · rename_i b' v' off n
    replace hs := bif_some hs
    obtain ⟨hc, hs⟩ := hs
    cases hs
    obtain ⟨l, z2, L2, ex2, hl, hb2, hbr, g1, g2⟩ := cur_slc hr hc hv
    cases hvi : l.virt with
    | true =>
      obtain ⟨q, p1, p2, p3⟩ := g1 hvi
      exact ⟨q, 0, 0, p1, fun h => by simp at h; omega⟩
    | false =>
      obtain ⟨p1, q, p2, p3⟩ := g2 hvi
      refine ⟨q, _, _, p2, fun h => ?_⟩
      have hn : n ≠ 0 := by simpa using h
      have := p3 (by omega)
      subst this
      rfl
  · cases hs
theorem amb_ok {x : Code} {y : Code} {y1 : Code1} {ops : Array Oper} {l : List Oper} {l1 : List Oper1} {d : Nat} {neg : Bool} {x' : Opd} (hrec : RecOK C rec) (hp : ambPat C.P nt x = some (ops, l, d, neg, x')) (hl : allS (l.map (coper C.P C.pol f nt ops)) = some l1)
    (hy : CodeOK C rec nt y y1) : CodeOK C rec nt (.seq x y) (.seq (.ops l1) (.amb d neg x' y1)) := by
  intro ro n B Q R k r e H a w hro hrun hk hrel
  unfold ambPat at hp
  split at hp
  rotate_left
  · cases hp
  rename_i id ops'
  split at hp
  rotate_left
  · cases hp
  rename_i o ho
  split at hp
  rotate_left
  · cases hp
  rename_i d0 op t xo yo yt hd hg hop
  split at hp
  rotate_left
  · cases hp
  rename_i x0 el hx0 hu
  split at hp
  rotate_left
  · cases hp
  rename_i nk neg0 x2 hcn
  replace hp := bif_some hp
  obtain ⟨hdn, hp⟩ := hp
  replace hdn := of_decide_eq_true hdn
  simp only [Option.some.injEq, Prod.mk.injEq] at hp
  obtain ⟨rfl, rfl, rfl, rfl, rfl⟩ := hp
  have hx2 : x2 = x0 ∧ nk = .s := by
    unfold cnil at hcn
    split at hcn <;> simp_all
  obtain ⟨rfl, rfl⟩ := hx2
  have hne : ops'.toList ≠ [] := by intro h; rw [h] at ho; cases ho
  have hsz : 0 < ops'.size := by
    rcases Nat.eq_zero_or_pos ops'.size with h | h
    · exact absurd (by simpa using h) hne
    · exact h
  have hlast : ops'[ops'.size - 1]? = some o := by
    rw [List.getLast?_eq_getElem?] at ho
    simpa using ho
  have hdl : ops'.toList.dropLast = ops'.toList.take (ops'.size - 1) := by rw [List.dropLast_eq_take]; simp
  rw [hdl] at hl
  refine wpIn_seq (wpIn_region ?_)
  obtain ⟨m, hm⟩ : ∃ m, ops'.size = m + 1 := ⟨ops'.size - 1, by omega⟩
  have hrange : List.range ops'.size = List.range' 0 m ++ [m] := by
    rw [hm, List.range_eq_range', List.range'_1_concat]
    simp
  rw [hrange]
  rw [hm, Nat.add_sub_cancel] at hlast hl
  simp only [run] at hrun
  refine runOps_part hrec (f := f) (ops := ops') (m := m) (by omega) (fun e' H' a' w' h hr => ?_) m 0 l1 (by omega) (by simpa using hl) e H a w hrun hrel
  simp only [wpOpsIn, hlast]
  have hw : Region.wanted o (yielded ops' a'.tmps) = true := by simp [Region.wanted, hg]
  rw [hw, if_pos rfl]
  refine ⟨fun _ _ => trivial, ?_⟩
  rw [Oper.semAt_eq _ _ _ (fun c hc => by rw [hop] at hc; cases hc)]
  obtain ⟨ρ, F, hr1, he1, hput⟩ := hr.step (P := fun _ _ => True)
  have hv := copd_vr hx0 he1
  unfold onAmb at h
  have fin : ∀ b, nilV .s (a'.eval xo) = some b → run rec y1 ((d0, .bool (neg0 ^^ b)) :: e') H' k () = some r → y.wpIn (WF ro) n C.P Q (a'.put o.dst (.bool (neg0 ^^ b))) w' ∧ (execOp a'.eval o).run C.P w' = .ok (.value (.bool (neg0 ^^ b))) w' := by
    intro b hb hrun'
    have hx : (execOp a'.eval o).run C.P w' = .ok (.value (.bool (neg0 ^^ b))) w' := by
      simp only [execOp, hop]
      have := run_cnil (C := C) (w := w') (a := a') (x := xo) hcn hu hb
      rw [Sem.run_bind, this]
      rfl
    refine ⟨?_, hx⟩
    have h2 := hput o.dst (.bool (neg0 ^^ b)) H' (.bool (neg0 ^^ b)) w' (fun d hd' => by rw [hd] at hd'; cases hd'; exact hdn) (Done.same hr1 (.bool _))
    rw [hd] at h2 ⊢
    exact hy ro n B Q R k r _ H' _ w' hro hrun' hk h2
  split at h
  · cases h
  · rename_i hem
    obtain ⟨q, m1, cap, hq, hno⟩ := emp_vr hr1 hem hv
    obtain ⟨g1, g2⟩ := fin false (by rw [hq, nilV, hno rfl]) (by simpa using h)
    rw [g2]
    exact g1
  · rename_i hem
    obtain ⟨q, m1, cap, hq, hno⟩ := emp_vr hr1 hem hv
    split at h
    · rename_i heq
      have hb : run rec y1 ((d0, .bool (neg0 ^^ q.isNone)) :: e') H' k () = some r := by
        cases hx : (neg0 ^^ q.isNone) with
        | true => exact h
        | false => exact heq.symm.trans h
      obtain ⟨g1, g2⟩ := fin q.isNone (by rw [hq, nilV]) hb
      rw [g2]
      exact g1
    · cases h
theorem code_ok (hmix : C.P.follows .mixedOrders = true) (hrec : RecOK C rec) : ∀ (c : Code) (c1 : Code1), ccode C.P C.pol f nt c = some c1 → CodeOK C rec nt c c1 := by
  intro c
  induction c with
  | skip =>
    intro c1 h ro n B Q R k r e H a w hro hrun hk hrel
    cases h
    exact wpIn_skip (hk .normal e H a w hrun hrel)
  | region id ops draw =>
    intro c1 h
    simp only [ccode, Option.map_eq_some_iff] at h
    obtain ⟨c2, h, rfl⟩ := h
    apply virts_ok
    apply freezes_ok
    cases hprm : (draw && C.pol.prm f id) with
    | true =>
      rw [hprm] at h
      simp only [cond_true] at h
      rw [Bool.and_eq_true] at hprm
      obtain ⟨rfl, _⟩ := hprm
      exact ok_perm hmix hrec h
    | false =>
    rw [hprm] at h
    simp only [cond_false] at h
    unfold cregion at h
    split at h
    · cases h
    · rename_i l hl
      cases draw with
      | true =>
        simp only [cond_true, Option.map_eq_some_iff] at h
        obtain ⟨d, hd, rfl⟩ := h
        exact ok_drawn hmix hrec hl hd
      | false =>
        simp only [cond_false, Option.some.injEq] at h
        subst h
        intro ro n B Q R k r e H a w hro hrun hk hrel
        refine wpIn_region ?_
        rw [List.range_eq_range']
        exact runOps_ok hrec (k := k .normal) (r := r) (fun e' H' a' w' h hr => hk .normal e' H' a' w' h hr) ops.size 0 l (by simp) (by simpa using hl) e H a w hrun hrel
  | seq x y ihx ihy =>
    intro c1 h
    simp only [ccode] at h
    split at h
    · rename_i ops l d neg x' hp
      split at h
      · rename_i l1 y1 h1 h2
        cases h
        exact amb_ok hrec hp h1 (ihy y1 h2)
      · cases h
    split at h
    · rename_i x1 y1 h1 h2
      cases h
      intro ro n B Q R k r e H a w hro hrun hk hrel
      simp only [run] at hrun
      refine wpIn_seq (ihx x1 h1 ro n B _ R _ r e H a w hro hrun (fun x e' H' a' w' h hr => ?_) hrel)
      cases x with
      | normal => exact ihy y1 h2 ro n B Q R k r e' H' a' w' hro h hk hr
      | exit id => exact hk (.exit id) e' H' a' w' h hr
      | ret => exact hk .ret e' H' a' w' h hr
    · cases h
  | cond c x y ihx ihy =>
    intro c1 h ro n B Q R k r e H a w hro hrun hk hrel
    simp only [ccode] at h
    split at h
    · rename_i c' x1 y1 h0 h1 h2
      cases h
      simp only [run] at hrun
      unfold onBool at hrun
      split at hrun
      · rename_i b hb
        obtain ⟨ρ, F, hr, he, _⟩ := id hrel
        have hv := copd_vr h0 he
        rw [hb] at hv
        have hv := vr_bool hv
        dsimp only at hrun
        unfold fork at hrun
        cases b with
        | true => exact wpIn_cond_true hv (ihx x1 h1 ro n B Q R k r e H a w hro hrun hk hrel)
        | false => exact wpIn_cond_false hv (ihy y1 h2 ro n B Q R k r e H a w hro hrun hk hrel)
      · cases hrun
    · cases h
  | block id x ih =>
    intro c1 h ro n B Q R k r e H a w hro hrun hk hrel
    simp only [ccode, Option.map_eq_some_iff] at h
    obtain ⟨x1, h1, rfl⟩ := h
    simp only [run] at hrun
    refine wpIn_block (ih x1 h1 ro n B _ R _ r e H a w hro hrun (fun x e' H' a' w' h hr => ?_) hrel)
    cases x with
    | normal => exact hk .normal e' H' a' w' h hr
    | exit j =>
      simp only [exitOf, Exit.inBlock]
      dsimp only at h
      cases hj : (j == id) with
      | true =>
        rw [hj] at h
        have : j = id := by simpa using hj
        rw [if_pos this]
        exact hk .normal e' H' a' w' h hr
      | false =>
        rw [hj] at h
        have : ¬ j = id := by simpa using hj
        rw [if_neg this]
        exact hk (.exit j) e' H' a' w' h hr
    | ret => exact hk .ret e' H' a' w' h hr
  | loop x ih =>
    intro c1 h
    simp only [ccode, Option.map_eq_some_iff] at h
    obtain ⟨x1, h1, rfl⟩ := h
    exact ok_loop (ih x1 h1)
  | rangeFunc g ps x y ihx ihy =>
    intro c1 h
    simp only [ccode] at h
    split at h
    · rename_i g' x1 y1 h0 h1 h2
      replace h := bif_none h
      obtain ⟨hp, h⟩ := h
      cases h
      exact ok_rangeF hrec h0 (fun t ht => by
        have := List.any_eq_false.1 hp t ht
        simpa using this) h1 h2
    · cases h
  | exit id =>
    intro c1 h ro n B Q R k r e H a w hro hrun hk hrel
    cases h
    exact wpIn_exit (hk (.exit id) e H a w hrun hrel)
  | ret =>
    intro c1 h ro n B Q R k r e H a w hro hrun hk hrel
    cases h
    exact wpIn_ret (hk .ret e H a w hrun hrel)
  | _ => intro c1 h; simp [ccode] at h
end
end Go.Sh
namespace Go.Sh
set_option linter.unusedSectionVars false
set_option linter.unusedVariables false
set_option linter.unusedSimpArgs false
set_option linter.unnecessarySimpa false
section
variable {C : Ctx} {ρ ρ0 ρ' : Map} {F F0 F' : Nat → Prop} {H H0 H' H1 : Heap} {w w0 w' : World}
theorem get_env0 (xs : List SV) : ∀ (k t : Nat), get (env0.go k xs) t = if k ≤ t then (xs[t - k]?).getD .undef else .undef := by
  induction xs with
  | nil => intro k t; simp [env0.go, get]
  | cons x r ih =>
    intro k t
    simp only [env0.go, get, ih]
    cases h : (t == k) with
    | true =>
      have : t = k := by simpa using h
      subst this; simp
    | false =>
      have : t ≠ k := by simpa using h
      simp only [cond_false]
      by_cases hk : k ≤ t
      · rw [if_pos hk, if_pos (by omega), show t - k = (t - (k + 1)) + 1 by omega]; rfl
      · rw [if_neg hk, if_neg (by omega)]
theorem env0_er {xs : List SV} {args : Array Value} {n : Nat} (h : ArgsR w F ρ xs args) : ER w F ρ (env0 xs) (args ++ Array.replicate n undef) := by
  intro t
  unfold env0
  rw [get_env0]
  simp only [Nat.zero_le, if_true, Nat.sub_zero]
  cases hx : xs[t]? with
  | none => exact .undef _
  | some c =>
    have hlt := (List.getElem?_eq_some_iff.1 hx).1
    have hn := h.1
    have hv : args[t]? = some args[t] := Array.getElem?_eq_getElem (by omega)
    have := h.2 t c _ hx hv
    rw [Array.getD_eq_getD_getElem?, Array.getElem?_append_left (by omega), hv]
    exact this
def resF (tmps : Array Value) : ResultVar → Sem Value
  | .tmp t => pure (tmps.getD t undef)
  | .cell a t => do loadVar t (← asAddr (tmps.getD a undef))
theorem results_eq (fn : Func) (tmps : Array Value) : results fn tmps = (do let vs ← fn.results.mapM (resF tmps); pure (if h : vs.size = 1 then vs[0] else .tuple vs)) := by
  unfold results
  congr 1
theorem resOf_ok {e : Env} {tmps : Array Value} {rv : ResultVar} {r1 : Res1} {s : SV} (hr : HR C ρ F H w) (he : ER w F ρ e tmps) (h1 : cres C.P rv = some r1) (h2 : resOf e H r1 = some s) :
    ∃ val, (resF tmps rv).run C.P w = .ok val w ∧ VR w F ρ s val := by
  unfold cres at h1
  split at h1
  · cases h1
    cases h2
    exact ⟨_, rfl, he _⟩
  · split at h1
    · rename_i ag n hag hsz
      cases h1
      obtain ⟨q, val, hu, k1, k2⟩ := load_vr hag hsz hr (he _) h2
      refine ⟨val, ?_, k2⟩
      simp only [resF, hu, asAddr, Sem.run_bind, Sem.run_pure, Result.andThen]
      exact k1
    · cases h1
theorem ress_ok {e : Env} {tmps : Array Value} (hr : HR C ρ F H w) (he : ER w F ρ e tmps) : ∀ (rvs : List ResultVar) (r1s : List Res1) (ss : List SV), allS (rvs.map (cres C.P)) = some r1s → allS (r1s.map (resOf e H)) = some ss →
    ∃ vals : List Value, (rvs.mapM (resF tmps)).run C.P w = .ok vals w ∧ ss.length = vals.length ∧
      ∀ (j : Nat) c v, ss[j]? = some c → vals[j]? = some v → VR w F ρ c v
  | [], r1s, ss, h1, h2 => by
    simp [allS] at h1; subst h1
    simp [allS] at h2; subst h2
    exact ⟨[], rfl, rfl, by simp⟩
  | rv :: rvs, r1s, ss, h1, h2 => by
    simp only [List.map_cons] at h1
    cases hc : cres C.P rv with
    | none => rw [hc] at h1; simp [allS] at h1
    | some r1 =>
      rw [hc] at h1
      simp only [allS, Option.map_eq_some_iff] at h1
      obtain ⟨r1s', h1', rfl⟩ := h1
      simp only [List.map_cons] at h2
      cases hs : resOf e H r1 with
      | none => rw [hs] at h2; simp [allS] at h2
      | some s =>
        rw [hs] at h2
        simp only [allS, Option.map_eq_some_iff] at h2
        obtain ⟨ss', h2', rfl⟩ := h2
        obtain ⟨val, k1, k2⟩ := resOf_ok hr he hc hs
        obtain ⟨vals, q1, q2, q3⟩ := ress_ok hr he rvs r1s' ss' h1' h2'
        refine ⟨val :: vals, ?_, by simp [q2], fun j c v hj hv => ?_⟩
        · simp only [List.mapM_cons, Sem.run_bind, k1, q1, Result.andThen, Sem.run_pure]
        · cases j with
          | zero => simp at hj hv; subst hj; subst hv; exact k2
          | succ j => simp at hj hv; exact q3 j c v hj hv
theorem results_ok {e : Env} {tmps : Array Value} {fn : Func} {r1s : List Res1} {s : SV} (hr : HR C ρ F H w) (he : ER w F ρ e tmps) (h1 : allS (fn.results.toList.map (cres C.P)) = some r1s) (h2 : results1 e H r1s = some s) :
    ∃ val, (results fn tmps).run C.P w = .ok val w ∧ VR w F ρ s val := by
  unfold results1 at h2
  simp only [Option.map_eq_some_iff] at h2
  obtain ⟨ss, h2, h3⟩ := h2
  obtain ⟨vals, k1, k2, k3⟩ := ress_ok hr he _ _ _ h1 h2
  refine ⟨if h : vals.toArray.size = 1 then vals.toArray[0] else .tuple vals.toArray, ?_, ?_⟩
  · rw [results_eq]
    simp only [Sem.run_bind, Array.mapM_eq_mapM_toList, Sem.run_map]
    rw [k1]
    rfl
  · split at h3
    · rename_i v
      subst h3
      have hl : vals.length = 1 := by simpa using k2.symm
      match vals, hl with
      | [x], _ => exact k3 0 v x rfl rfl
    · rename_i hne
      subst h3
      have : ¬ vals.toArray.size = 1 := by
        intro h
        simp only [List.size_toArray] at h
        match ss, k2 with
        | [v], _ => exact hne v rfl
        | [], k2 => simp at k2; omega
        | _ :: _ :: _, k2 => simp at k2; omega
      rw [dif_neg this]
      exact .tup (by simpa using k2) (fun j c v hj hv => k3 j c v hj (by simpa using hv))
theorem leaves_ok {P : Program} {fn : Func} {tmps : Array Value} {R : Ending → World → Prop} {n : Nat} : ∀ (Ds : List Nat) (ds : List Deferred) (w : World), ds.map (·.target) = Ds.map Target.collected → Ds.Nodup →
    (∀ D ∈ Ds, w.heap[D]? = some (.deferred (some []))) →
    (∀ w' : World, w'.heap.size = w.heap.size → (w'.os = w.os ∧ w'.output = w.output) → (∀ B, B ∉ Ds → w'.heap[B]? = w.heap[B]?) → LeavesIn Fence.wide n P fn tmps R [] .returning w') → LeavesInM Fence.wide n P fn tmps R ds .returning w
  | [], ds, w, h1, _, _, hf => by
    have : ds = [] := by simpa using h1
    subst this
    exact hf w rfl ⟨rfl, rfl⟩ (fun _ _ => rfl)
  | D :: Ds, ds, w, h1, h2, h3, hf => by
    cases ds with
    | nil => simp at h1
    | cons d ds =>
      simp only [List.map_cons, List.cons.injEq] at h1
      have hnd := List.nodup_cons.1 h2
      refine ⟨by simp, .inl ⟨D, _, h1.1, run_takeDeferred (h3 D (List.mem_cons_self ..)), leaves_ok Ds ds _ h1.2 hnd.2 (fun D' hD' => ?_) (fun w' hs ho hh => hf w' (by rw [hs]; simp) ho (fun B hB => ?_))⟩⟩
      · rw [World.putObj_heap_other (by intro e; subst e; exact hnd.1 hD')]
        exact h3 D' (List.mem_cons_of_mem _ hD')
      · rw [hh B (fun h => hB (List.mem_cons_of_mem _ h)), World.putObj_heap_other (by intro e; subst e; exact hB (List.mem_cons_self ..))]
def ExtOK (P : Program) (k : Nat) (f : FuncId) : Prop := ∀ (xs : List SV) (v : SV) (args : Array Value) (w : World), extv k xs = some v → allS (xs.map svV) = some args.toList →
  (callFunc f args).run P w = .ok (.enter f args) w ∧ ∃ val, svV v = some val ∧ Calls P f args w (fun e w' => e = .returned val ∧ w'.os = w.os ∧ w'.output = w.output ∧ w.heap.size ≤ w'.heap.size ∧ ∀ B, B < w.heap.size → w'.heap[B]? = w.heap[B]?)
def ExtsOK (C : Ctx) : Prop := ∀ f k, C.pol.ext f = some k → ExtOK C.P k f
theorem extv_sv {k : Nat} {xs : List SV} {v : SV} (h : extv k xs = some v) : (∀ x ∈ xs, ∃ y, svV x = some y) ∧ ∃ y, svV v = some y := by
  unfold extv at h
  split at h
  · replace h := bif_some h
    obtain ⟨_, h⟩ := h
    cases h
    exact ⟨fun x hx => by simp at hx; rcases hx with rfl | rfl <;> exact ⟨_, rfl⟩, _, rfl⟩
  · cases h
theorem sv_args : ∀ (xs : List SV) (as1 : List Value), xs.length = as1.length → (∀ (j : Nat) c v, xs[j]? = some c → as1[j]? = some v → VR w F ρ c v) → (∀ x ∈ xs, ∃ y, svV x = some y) → allS (xs.map svV) = some as1
  | [], [], _, _, _ => rfl
  | [], _ :: _, h, _, _ => by simp at h
  | _ :: _, [], h, _, _ => by simp at h
  | x :: xs, a :: as1, h, hv, hs => by
    obtain ⟨y, hy⟩ := hs x (by simp)
    have := vr_sv (hv 0 x a rfl rfl) hy
    subst this
    simp only [List.map_cons, hy, allS]
    rw [sv_args xs as1 (by simpa using h) (fun j c v hc hv' => hv (j + 1) c v (by simpa using hc) (by simpa using hv')) (fun z hz => hs z (by simp [hz]))]
    rfl
theorem env0_map (xs : List SV) : (env0 xs).map (·.2) = xs := by
  have : ∀ (xs : List SV) k, (env0.go k xs).map (·.2) = xs := by
    intro xs
    induction xs with
    | nil => intro k; rfl
    | cons x r ih => intro k; simp only [env0.go, List.map_cons, ih]
  exact this xs 0
theorem sv_refs {c : SV} {y : Value} (hs : svV c = some y) : c.refs = 0 := by
  unfold svV at hs
  split at hs <;> first | rfl | cases hs
theorem sv_refsL : ∀ (xs : List SV), (∀ x ∈ xs, ∃ y, svV x = some y) → SV.refs.refsL xs = 0
  | [], _ => rfl
  | x :: xs, h => by
    obtain ⟨y, hy⟩ := h x (by simp)
    simp only [SV.refs.refsL, sv_refs hy, sv_refsL xs (fun z hz => h z (by simp [hz]))]
    rfl
theorem sv_frz {N d : Nat} {c : SV} {y : Value} (hs : svV c = some y) : frz N H (d + 1) c = some c := by
  unfold svV at hs
  split at hs <;> first | rfl | (simp [frz, SV.refs]; done) | cases hs
theorem ext_ok {f : FuncId} {k : Nat} {xs : List SV} {v : SV} {args : Array Value} (hx : ExtOK C.P k f) (h : extv k xs = some v) (hr : HR C ρ F H w) (ha : ArgsR w F ρ xs args) :
    (callFunc f args).run C.P w = .ok (.enter f args) w ∧ ∀ n, CallsIn Fence.wide n C.P f args w (fun e w' => ∃ val, e = .returned val ∧ Done C ρ F H w v H val w') := by
  obtain ⟨h1, val, h2, h3⟩ := hx xs v args w h (sv_args xs args.toList (by simpa using ha.1) (fun j c v hc hv => ha.2 j c v hc (by simpa using hv)) (extv_sv h).1)
  refine ⟨h1, fun n => (callsIn_wide.2 h3).mono (fun e w' he => ?_)⟩
  obtain ⟨rfl, ho, hq, hs, hb⟩ := he
  obtain ⟨p1, p2⟩ := hr.same hs hb ⟨ho, hq⟩
  exact ⟨val, rfl, ρ, F, sv_vr h2, p1, p2⟩
variable {T : FuncId → Option Fun1} {m : Nat}
theorem call_ok (hmix : C.P.follows .mixedOrders = true) (hext : ExtsOK C) (hT : ∀ f F1, T f = some F1 → cfun C.P C.pol f = some F1) (hrec : RecOK C (call1 T m)) : CallOK C (call1 T (m + 1)) := by
  intro f xs H v H' h ρ F w args hr ha
  simp only [call1] at h
  split at h
  · cases h
  rename_i F1 hF1
  have hc := hT f F1 hF1
  unfold cfun at hc
  split at hc
  · rename_i k hk
    cases hc
    have hrun : ∀ {R : Type} (e : Env) (H : Heap) (K : SEx → Env → Heap → Option R), run (call1 T m) (.ext k) e H K () = onSome (extv k (e.map (·.2))) (fun v => K .ret ((0, v) :: e) H) () := fun _ _ _ => rfl
    simp only [hrun, env0_map] at h
    cases hv : extv k xs with
    | none => rw [hv] at h; simp [onSome] at h
    | some v0 =>
      obtain ⟨y, hy⟩ := (extv_sv hv).2
      rw [hv] at h
      have hp : pure0 ⟨[.tmp 0], .ext k, false⟩ xs = true := by
        unfold pure0; rw [sv_refsL xs (extv_sv hv).1]; rfl
      rw [hp] at h
      have hd : depth1 = 7 + 1 := rfl
      simp only [cond_true, onSome, results1, List.map_cons, List.map_nil, resOf, get, beq_self_eq_true, allS, Option.map_some, Option.bind_some, hd, sv_frz hy, Option.some.injEq, Prod.mk.injEq] at h
      obtain ⟨rfl, rfl⟩ := h
      exact ext_ok (hext _ _ hk) hv hr ha
  split at hc
  · cases hc
  rename_i fn hfn
  split at hc
  · cases hc
  rename_i body hbody
  replace hc := bif_none hc
  obtain ⟨hname, hc⟩ := hc
  split at hc
  rotate_left
  · cases hc
  rename_i b1 rs hb1 hrs
  cases hc
  refine ⟨?_, fun n => ?_⟩
  · unfold callFunc
    have hname' : ¬ fn.name = "runtime.NumGoroutine" := by simpa using hname
    simp [Sem.run_bind, Sem.run, hfn, hname', hbody]
  · have go : ∀ (R : Type) (fin : SV → Heap → Option R) (r : R) (Q : Value → World → Prop) (ρ : Map) (H : Heap), HR C ρ F H w → ArgsR w F ρ xs args →
          run (call1 T m) b1 (env0 xs) { bl := H.bl, esc := [], ro := min H.ro H.bl.length } (fun x e H' => match x with
            | .exit _ => none
            | _ => (results1 e H' rs).bind fun v => fin v H') () = some r →
          (∀ v0 ρ2 F2 H2 w2 val, HR C ρ2 F2 H2 w2 → Ext C ρ F { bl := H.bl, esc := [], ro := min H.ro H.bl.length } w ρ2 F2 H2 w2 → VR w2 F2 ρ2 v0 val → fin v0 H2 = some r → Q val w2) →
          CallsIn Fence.wide n C.P f args w (fun e w' => ∃ val, e = .returned val ∧ Q val w') := by
      intro R fin r Q ρ H hr ha h hfin
      refine callsIn_of_wp_marks hfn hbody trivial ?_
      let B : Base := ⟨ρ, F, { bl := H.bl, esc := [], ro := min H.ro H.bl.length }, w, w.heap.size⟩
      refine code_ok hmix hrec body b1 hb1 none n B _ _ _ r (env0 xs) B.H _ w (fun l hl => by cases hl) h (fun x e' H2 a' w' hk hrel => ?_)
        ⟨ρ, F, hr.bl rfl, env0_er ha, Ext.refl _ _ _ _, by simp; omega, Nat.le_refl _, [], rfl, List.nodup_nil, by simp⟩
      have hgo : ((results1 e' H2 rs).bind fun v => fin v H2) = some r →
          LeavesInM Fence.wide n C.P fn a'.tmps (fun e w' => ∃ val, e = .returned val ∧ Q val w') a'.defers .returning w' := by
        intro hk
        simp only [Option.bind_eq_some_iff] at hk
        obtain ⟨v0, h1, h2⟩ := hk
        obtain ⟨ρ2, F2, q1, q2, q3, q4, q5, Ds, q6, q7, q8⟩ := hrel
        refine leaves_ok Ds _ _ q6 q7 (fun D hD => (q8 D hD).2.1) (fun w2 hs ho hh => ?_)
        obtain ⟨z1, z2⟩ := q1.other q3 hs ho (fun Bk hB => hh Bk (fun hD => by
          obtain ⟨g1, g2, g3, g4⟩ := q8 Bk hD
          rcases hB with hB | ⟨b, l, ho, e⟩ | hB
          · exact g3 hB
          · exact g4 b l ho e
          · have : Bk < w.heap.size := hB
            have : w.heap.size ≤ Bk := g1
            omega))
        have he2 : ER w2 F2 ρ2 e' a'.tmps := fun t => (q2 t).mono (fun Bk hB => hh Bk (fun hD => (q8 Bk hD).2.2.1 hB)) (fun _ h => h) (Map.le_refl _)
        obtain ⟨val, r1, r2⟩ := results_ok z1 he2 hrs h1
        exact ⟨val, r1, val, rfl, hfin v0 ρ2 F2 H2 w2 val z1 z2 r2 h2⟩
      cases x with
      | normal => exact hgo hk
      | ret => exact hgo hk
      | exit id => cases hk
    cases hp : pure0 ⟨rs, b1, (C.pol.keep f).isSome⟩ xs with
    | false =>
      rw [hp] at h
      exact go _ (fun v H2 => leave1 (C.pol.keep f).isSome H v H2) (v, H') _ ρ H hr ha h (fun v0 ρ2 F2 H2 w2 val k1 k2 k3 k4 => leave_ok hr k1 k2 k3 k4)
    | true =>
      rw [hp] at h
      simp only [cond_true, Option.map_eq_some_iff, Prod.mk.injEq] at h
      obtain ⟨v', h, rfl, rfl⟩ := h
      unfold pure0 at hp
      simp only [Bool.and_eq_true, beq_iff_eq, Bool.not_eq_true'] at hp
      obtain ⟨h0, hkeep⟩ := hp
      have hcut : ρ.cut 0 = noMap := by funext b; simp [Map.cut]
      have hr0 : HR C noMap F heap0 w := ⟨(fun b l h => by cases h), (fun b x h => by simp [heap0] at h), (fun b b' l l' h => by cases h.2.1), (fun b l h => by cases h.2.1), hr.fro⟩
      have ha0 : ArgsR w F noMap xs args := ⟨ha.1, fun j c v hc hv => by
        have := (ha.2 j c v hc hv).cut 0 (refsL_le (Nat.le_of_eq h0) j c hc)
        rwa [hcut] at this⟩
      refine (go _ (fun v H2 => frz 0 H2 depth1 v) v' (fun val w2 => Done C noMap F heap0 w v' heap0 val w2) noMap heap0 hr0 ha0 h (fun v0 ρ2 F2 H2 w2 val k1 k2 k3 k4 => leave_ok (keep := false) (v := v0) hr0 k1 k2 k3 ?_)).mono (fun e w' he => ?_)
      · have hall : H2.esc.all (fun p => !(decide (p.1 < 0) && decide (0 < p.2))) = true := List.all_eq_true.2 (fun p _ => by simp)
        have hfil : H2.esc.filter (fun p => decide (p.1 < 0)) = [] := List.filter_eq_nil_iff.2 (fun p _ => by simp)
        have htr : trunc 0 heap0 H2 = some heap0 := by
          unfold trunc
          rw [hall, hfil]
          simp [heap0]
        show ((frz 0 H2 depth1 v0).bind fun v => (trunc 0 heap0 H2).map fun H => (v, H)) = _
        rw [k4, htr]
        rfl
      · obtain ⟨val, rfl, ρ1, F1, d1, d2, d3⟩ := he
        have hnone : ∀ b, ρ1 b = none := by
          intro b
          cases hb : ρ1 b with
          | none => rfl
          | some l => have := d2.dom b l hb; simp [heap0] at this
        have hno : ∀ b l, ¬ Own noMap heap0 b l := fun b l h => by cases h.2.1
        obtain ⟨p1, p2⟩ := hr.same d3.size (fun B hB => d3.frame B hB (fun b l ho => absurd ho (hno b l))) d3.out
        have hnew : ∀ B, F1 B → F B ∨ w.heap.size ≤ B := fun B hB => by
          rcases d3.new B hB with h | h | ⟨b, l, ho, _⟩
          · exact .inl h
          · exact .inr h
          · exact absurd ho (hno b l)
        refine ⟨val, rfl, ρ, F1, d1.mono (fun _ _ => rfl) (fun _ h => h) (fun b l h => by rw [hnone b] at h; cases h), p1.more d3.fro (fun B hB => ?_), p2.more d3.fro hnew⟩
        rcases hnew B hB with h | h
        · exact .inl h
        · exact .inr ⟨d2.fro B hB, fun b l ho e => by have := (hr.own b l ho).2; omega⟩
theorem kall_ok (hmix : C.P.follows .mixedOrders = true) (hext : ExtsOK C) (hT : ∀ f F1, T f = some F1 → cfun C.P C.pol f = some F1) (hrec : RecOK C (call1 T m)) : KallOK C (call1 T (m + 1)) := by
  intro f xs H v H' h ρ F w args hr ha
  simp only [call1] at h
  split at h
  · cases h
  rename_i F1 hF1
  have hc := hT f F1 hF1
  unfold cfun at hc
  split at hc
  · rename_i k hk
    cases hc
    have hrun : ∀ {R : Type} (e : Env) (H : Heap) (K : SEx → Env → Heap → Option R), run (call1 T m) (.ext k) e H K () = onSome (extv k (e.map (·.2))) (fun v => K .ret ((0, v) :: e) H) () := fun _ _ _ => rfl
    simp only [hrun, env0_map] at h
    cases hv : extv k xs with
    | none => rw [hv] at h; simp [onSome] at h
    | some v0 =>
      obtain ⟨y, hy⟩ := (extv_sv hv).2
      rw [hv] at h
      simp only [onSome, results1, List.map_cons, List.map_nil, resOf, get, beq_self_eq_true, cond_true, allS, Option.map_some, Option.bind_some, leave1, keepH, List.append_nil, Option.some.injEq, Prod.mk.injEq] at h
      obtain ⟨rfl, rfl⟩ := h
      exact ext_ok (hext _ _ hk) hv hr ha
  split at hc
  · cases hc
  rename_i fn hfn
  split at hc
  · cases hc
  rename_i body hbody
  replace hc := bif_none hc
  obtain ⟨hname, hc⟩ := hc
  split at hc
  rotate_left
  · cases hc
  rename_i b1 rs hb1 hrs
  cases hc
  refine ⟨?_, fun n => ?_⟩
  · unfold callFunc
    have hname' : ¬ fn.name = "runtime.NumGoroutine" := by simpa using hname
    simp [Sem.run_bind, Sem.run, hfn, hname', hbody]
  · have go : ∀ (R : Type) (fin : SV → Heap → Option R) (r : R) (Q : Value → World → Prop) (ρ : Map) (H : Heap), HR C ρ F H w → ArgsR w F ρ xs args →
          run (call1 T m) b1 (env0 xs) { bl := H.bl, esc := [], ro := min H.ro H.bl.length } (fun x e H' => match x with
            | .exit _ => none
            | _ => (results1 e H' rs).bind fun v => fin v H') () = some r →
          (∀ v0 ρ2 F2 H2 w2 val, HR C ρ2 F2 H2 w2 → Ext C ρ F { bl := H.bl, esc := [], ro := min H.ro H.bl.length } w ρ2 F2 H2 w2 → VR w2 F2 ρ2 v0 val → fin v0 H2 = some r → Q val w2) →
          CallsIn Fence.wide n C.P f args w (fun e w' => ∃ val, e = .returned val ∧ Q val w') := by
      intro R fin r Q ρ H hr ha h hfin
      refine callsIn_of_wp_marks hfn hbody trivial ?_
      let B : Base := ⟨ρ, F, { bl := H.bl, esc := [], ro := min H.ro H.bl.length }, w, w.heap.size⟩
      refine code_ok hmix hrec body b1 hb1 none n B _ _ _ r (env0 xs) B.H _ w (fun l hl => by cases hl) h (fun x e' H2 a' w' hk hrel => ?_)
        ⟨ρ, F, hr.bl rfl, env0_er ha, Ext.refl _ _ _ _, by simp; omega, Nat.le_refl _, [], rfl, List.nodup_nil, by simp⟩
      have hgo : ((results1 e' H2 rs).bind fun v => fin v H2) = some r →
          LeavesInM Fence.wide n C.P fn a'.tmps (fun e w' => ∃ val, e = .returned val ∧ Q val w') a'.defers .returning w' := by
        intro hk
        simp only [Option.bind_eq_some_iff] at hk
        obtain ⟨v0, h1, h2⟩ := hk
        obtain ⟨ρ2, F2, q1, q2, q3, q4, q5, Ds, q6, q7, q8⟩ := hrel
        refine leaves_ok Ds _ _ q6 q7 (fun D hD => (q8 D hD).2.1) (fun w2 hs ho hh => ?_)
        obtain ⟨z1, z2⟩ := q1.other q3 hs ho (fun Bk hB => hh Bk (fun hD => by
          obtain ⟨g1, g2, g3, g4⟩ := q8 Bk hD
          rcases hB with hB | ⟨b, l, ho, e⟩ | hB
          · exact g3 hB
          · exact g4 b l ho e
          · have : Bk < w.heap.size := hB
            have : w.heap.size ≤ Bk := g1
            omega))
        have he2 : ER w2 F2 ρ2 e' a'.tmps := fun t => (q2 t).mono (fun Bk hB => hh Bk (fun hD => (q8 Bk hD).2.2.1 hB)) (fun _ h => h) (Map.le_refl _)
        obtain ⟨val, r1, r2⟩ := results_ok z1 he2 hrs h1
        exact ⟨val, r1, val, rfl, hfin v0 ρ2 F2 H2 w2 val z1 z2 r2 h2⟩
      cases x with
      | normal => exact hgo hk
      | ret => exact hgo hk
      | exit id => cases hk
    exact go _ (fun v H2 => leave1 true H v H2) (v, H') _ ρ H hr ha h (fun v0 ρ2 F2 H2 w2 val k1 k2 k3 k4 => leave_ok hr k1 k2 k3 k4)
theorem set_loop {b : Nat} {l : Loc} {q : LoopRec} {st st' : LoopState} {pend pend' : SEx} {Q : Loop} {p' : Option Code} (hr : HR C ρ F H w) (hl : ρ b = some l) (hg : hget H b = some (.loop q st pend)) (hH : hset H b (.loop q st' pend') 0 = some H')
    (hQ : w.heap[l.blk]? = some (.loop Q)) (hp : p' = pendCode pend') :
    HR C ρ F H' (w.putObj l.blk (.loop { Q with state := st', pending := p' })) ∧ Ext C ρ F H w ρ F H' (w.putObj l.blk (.loop { Q with state := st', pending := p' })) := by
  obtain ⟨l4, m4, m5⟩ := hr.live _ _ hg rfl
  rw [hl] at m4; cases m4
  obtain ⟨hv, harr, Q2, g1, g2, g3, g4, g5, g6⟩ := id m5
  rw [hQ] at g1; cases g1
  have hlt : l.blk < w.heap.size := (Array.getElem?_eq_some_iff.1 hQ).1
  have hown : Own ρ H b l := ⟨⟨_, hg, rfl⟩, hl, hv⟩
  have hkeep : ∀ Bk, Bk ≠ l.blk → (w.putObj l.blk (.loop { Q with state := st', pending := p' })).heap[Bk]? = w.heap[Bk]? := fun Bk hne => World.putObj_heap_other hne
  have hkk : Keeps F w (w.putObj l.blk (.loop { Q with state := st', pending := p' })) := fun Bk hB => hkeep Bk (fun e => (hr.own _ _ hown).1 (e ▸ hB))
  obtain ⟨z1, z2⟩ := hr.set (w' := w.putObj l.blk (.loop { Q with state := st', pending := p' })) (l' := l) hH hg rfl hl (by simp) (fun Bk _ h => hkeep Bk (h hv)) (fun h => .inl ⟨h, rfl⟩) (.inl rfl)
    (fun _ => by
      rw [put_self hl]
      exact ⟨hv, harr, _, World.putObj_heap_same hlt, rfl, hp, g4, g5, fun t => (g6 t).mono hkk (fun _ h => h) (Map.le_refl _)⟩)
    (fun _ N _ _ hbr => by
      rw [put_self hl]
      obtain ⟨_, _, q', b1, b2, b3, b4, b5, b6⟩ := hbr
      rw [hQ] at b1; cases b1
      exact ⟨hv, harr, _, World.putObj_heap_same hlt, rfl, hp, b4, b5, fun t => (b6 t).mono hkk (fun _ h => h) (Map.le_refl _)⟩)
    (fun _ => ⟨_, _, _, rfl⟩)
  rw [put_self hl] at z1 z2
  exact ⟨z1, z2⟩
theorem zip_er : ∀ (ps : List Nat) (xs : List SV) (args : List Value) (e : Env) (tmps : Array Value), ER w F ρ e tmps → xs.length = args.length → (∀ t ∈ ps, t < tmps.size) →
    (∀ (j : Nat) c v, xs[j]? = some c → args[j]? = some v → VR w F ρ c v) → ER w F ρ ((ps.zip xs).reverse ++ e) ((ps.zip args).foldl (fun tmps (p : Nat × Value) => tmps.setIfInBounds p.1 p.2) tmps) ∧ ((ps.zip args).foldl (fun tmps (p : Nat × Value) => tmps.setIfInBounds p.1 p.2) tmps).size = tmps.size
  | [], xs, args, e, tmps, he, _, _, _ => by simpa using he
  | p :: ps, [], [], e, tmps, he, _, _, _ => by simpa using he
  | p :: ps, x :: xs, a :: args, e, tmps, he, hl, hp, hv => by
    have he' : ER w F ρ ((p, x) :: e) (tmps.setIfInBounds p a) := er_put (a := { tmps := tmps, defers := [] }) he (hp p (by simp)) (hv 0 x a rfl rfl)
    obtain ⟨h1, h2⟩ := zip_er ps xs args ((p, x) :: e) (tmps.setIfInBounds p a) he' (by simpa using hl) (fun t ht => by simpa using hp t (by simp [ht])) (fun j c v hc hv' => hv (j + 1) c v (by simpa using hc) (by simpa using hv'))
    refine ⟨?_, by simpa using h2⟩
    simp only [List.zip_cons_cons, List.reverse_cons, List.append_assoc, List.singleton_append, List.foldl_cons]
    exact h1
  | p :: ps, [], a :: args, e, tmps, he, hl, _, _ => by simp at hl
  | p :: ps, x :: xs, [], e, tmps, he, hl, _, _ => by simp at hl
theorem loop_at {b : Nat} {l : Loc} {q : LoopRec} {st : LoopState} {pend : SEx} (hr : HR C ρ F H w) (hx : Ext C ρ0 F0 H0 w0 ρ F H w) (hl : ρ0 b = some l) (hla : l.arr = false) (hg : hget H b = some (.loop q st pend)) :
    ρ b = some l ∧ ∃ Q : Loop, w.heap[l.blk]? = some (.loop Q) ∧ Q.state = st ∧ Q.pending = pendCode pend := by
  obtain ⟨l3, m1, m2⟩ := hx.map b l hl
  have m3 : l3 = l := by
    rcases m2 with h | ⟨_, h, _⟩
    · exact h
    · rw [hla] at h; cases h
  subst m3
  obtain ⟨l4, m4, m5⟩ := hr.live _ _ hg rfl
  rw [m1] at m4; cases m4
  obtain ⟨hv, harr, Q2, g1, g2, g3, g4, g5, g6⟩ := m5
  exact ⟨m1, Q2, g1, g2, g3⟩
theorem setLoop_at {b : Nat} {st' : LoopState} {pend' : SEx} (h : setLoop b st' pend' H = some H') : ∃ q st pend, hget H b = some (.loop q st pend) ∧ hset H b (.loop q st' pend') 0 = some H' := by
  unfold setLoop at h
  split at h
  · rename_i q st pend hg; exact ⟨q, st, pend, hg, h⟩
  · cases h
theorem yld_ok (hmix : C.P.follows .mixedOrders = true) (hrec : RecOK C (call1 T m)) : YldOK C (call1 T (m + 1)) := by
  intro b xs H v H' h ρ F w args l hr ha hl
  simp only [call1] at h
  split at h
  rotate_left
  · cases h
  rename_i q pend hb
  replace h := bif_some h
  obtain ⟨hlen, h⟩ := h
  have hlen : q.ps.length = xs.length := by simpa using hlen
  obtain ⟨l', hl', hbr⟩ := hr.live b _ hb rfl
  rw [hl] at hl'; cases hl'
  obtain ⟨hv, harr, Q, g1, g2, g3, g4, ⟨g, nt, g5, g6, g7, g8⟩, g9⟩ := hbr
  have hsz : args.size = Q.params.size := by
    rw [← ha.1, ← hlen, ← g4, Array.length_toList]
  refine ⟨_, _, _, _, run_yield g1 hsz, fun n => ?_⟩
  refine roundIn_of_wpIn trivial ?_
  let B : Base := ⟨ρ, F, { bl := H.bl, esc := [], ro := min H.ro H.bl.length }, w, w.heap.size⟩
  have hroB : ∀ l', some l.blk = some l' → ∃ q, B.w.heap[l']? = some (.loop q) := fun l' hl' => by cases hl'; exact ⟨Q, g1⟩
  have hz := zip_er q.ps xs args.toList q.env Q.tmps g9 (by simp [ha.1]) (fun t ht => Nat.lt_of_lt_of_le (g6 t ht) g5) (fun j c v hc hv => ha.2 j c v hc (by simpa using hv))
  have hfold : (Q.params.zip args).foldl (fun tmps (t, a) => tmps.setIfInBounds t a) Q.tmps = (q.ps.zip args.toList).foldl (fun tmps (p : Nat × Value) => tmps.setIfInBounds p.1 p.2) Q.tmps := by
    rw [← Array.foldl_toList, Array.toList_zip, g4]
  rw [hfold]
  refine code_ok hmix hrec Q.assign q.assign g7 (some l.blk) n B _ _ _ (v, H') _ B.H _ w hroB h (fun x e' H2 a' w' hk hrel => ?_)
    ⟨ρ, F, hr.bl rfl, hz.1, Ext.refl _ _ _ _, by simpa [hz.2] using g5, Nat.le_refl _, [], rfl, List.nodup_nil, by simp⟩
  cases x with
  | exit id => cases hk
  | ret => cases hk
  | normal =>
    simp only [Option.bind_eq_some_iff] at hk
    obtain ⟨H3, hH3, hk⟩ := hk
    obtain ⟨ρ2, F2, q1, q2, q3, q4, q5⟩ := hrel
    unfold beginLoop at hH3
    split at hH3
    rotate_left
    · cases hH3
    rename_i qq pp hg3
    obtain ⟨k1, Q3, k2, k3, k4⟩ := loop_at q1 q3 hl harr hg3
    obtain ⟨z1, z2⟩ := set_loop (p' := Q3.pending) q1 k1 hg3 hH3 k2 k4
    refine ⟨_, run_beginRound k2 k3, ?_⟩
    refine code_ok hmix hrec Q.body q.body g8 (some l.blk) n B _ _ _ (v, H') e' H3 a' _ hroB hk (fun x e4 H4 a4 w4 hk4 hrel4 => ?_) ⟨ρ2, F2, z1, z2.er q1 q2, q3.trans z2, q4, q5.ext z2.toExt0⟩
    simp only [Option.bind_eq_some_iff, Option.map_eq_some_iff, Prod.mk.injEq] at hk4
    obtain ⟨H5, hH5, H6, ht, hvv, rfl⟩ := hk4
    obtain ⟨ρ4, F4, p1, p2, p3, p4, p5⟩ := hrel4
    obtain ⟨qq4, st4, pp4, hg4, hset4⟩ := setLoop_at hH5
    obtain ⟨y1, Q4, y2, y3, y4⟩ := loop_at p1 p3 hl harr hg4
    have fin : ∀ jump : Option Code, jump = pendCode x → hset H4 b (.loop qq4 (if jump.isNone then .ready else .done) x) 0 = some H5 →
        ∃ v w', (Instr.endRound l.blk jump).run C.P w4 = .ok v w' ∧ ∃ val, Ending.returned v = .returned val ∧ Done C ρ F H w (.bool jump.isNone) H6 val w' := by
      intro jump hj hset5
      obtain ⟨u1, u2⟩ := set_loop (p' := jump) p1 y1 hg4 hset5 y2 hj
      refine ⟨_, _, run_endRound jump y2, _, rfl, ?_⟩
      obtain ⟨o1, o2⟩ := trunc_leave hr u1 (p3.trans u2) ht
      exact ⟨_, _, .bool _, o1, o2⟩
    cases x with
    | normal => subst hvv; exact fin none rfl hset4
    | exit id => subst hvv; exact fin (some (.exit id)) rfl hset4
    | ret => subst hvv; exact fin (some .ret) rfl hset4
theorem rec_ok (hmix : C.P.follows .mixedOrders = true) (hext : ExtsOK C) (hT : ∀ f F1, T f = some F1 → cfun C.P C.pol f = some F1) : ∀ m, RecOK C (call1 T m)
  | 0 => ⟨fun f xs H v H' h => by simp [call1] at h, fun f xs H v H' h => by simp [call1] at h, fun b xs H v H' h => by simp [call1] at h⟩
  | m + 1 => ⟨call_ok hmix hext hT (rec_ok hmix hext hT m), kall_ok hmix hext hT (rec_ok hmix hext hT m), yld_ok hmix (rec_ok hmix hext hT m)⟩
end
end Go.Sh
namespace Go.Sh
set_option linter.unusedSectionVars false
set_option linter.unnecessarySimpa false
set_option linter.unusedSimpArgs false
set_option linter.unusedVariables false
inductive KI where | code (c : Code1) | blk (id : Nat)
noncomputable def kont {R : Type} (rec : Rec) (fin : SEx → Env → Heap → Option R) : (K : List KI) → SEx → Env → Heap → Option R
  | [], x, e, H => fin x e H
  | .code b :: K, .normal, e, H => run rec b e H (kont rec fin K) ()
  | .code _ :: K, x, e, H => kont rec fin K x e H
  | .blk id :: K, .exit j, e, H => bif j == id then kont rec fin K .normal e H else kont rec fin K (.exit j) e H
  | .blk _ :: K, x, e, H => kont rec fin K x e H
noncomputable def runK {R : Type} (rec : Rec) (fin : SEx → Env → Heap → Option R) (c : Code1) (K : List KI) (e : Env) (H : Heap) (_ : Tok (fin, c, K)) : Option R := run rec c e H (kont rec fin K) ()
noncomputable def retK {R : Type} (rec : Rec) (fin : SEx → Env → Heap → Option R) (K : List KI) (x : SEx) (e : Env) (H : Heap) (_ : Tok (fin, K)) : Option R := kont rec fin K x e H
noncomputable section
variable {R : Type} (rec : Rec) (fin : SEx → Env → Heap → Option R) (K : List KI) (e : Env) (H : Heap)
theorem run_runK (c : Code1) (k : SEx → Env → Heap → Option R) : run rec c e H k () = runK rec k c [] e H () := Eq.trans rfl rfl
@[go_sem] theorem rk_skip (t) : runK rec fin .skip K e H t = retK rec fin K .normal e H () := Eq.trans rfl rfl
@[go_sem] theorem rk_ops (l t) : runK rec fin (.ops l) K e H t = runOps rec l e H (fun e H => retK rec fin K .normal e H ()) () := Eq.trans rfl rfl
@[go_sem] theorem rk_drawn (l t) : runK rec fin (.drawn l) K e H t = runDrawn rec l H.bl.length e H (fun e H => retK rec fin K .normal e H ()) () := Eq.trans rfl rfl
@[go_sem] theorem rk_seq (a b t) : runK rec fin (.seq a b) K e H t = runK rec fin a (.code b :: K) e H () := by
  show run rec a e H _ _ = run rec a e H _ _
  congr 1
  funext x e' H'
  cases x <;> rfl
@[go_sem] theorem rk_cond (c a b t) : runK rec fin (.cond c a b) K e H t = onBool (ev e c) (fun t => fork t (runK rec fin a K e H ()) (runK rec fin b K e H ()) ()) () := Eq.trans rfl rfl
@[go_sem] theorem rk_block (id a t) : runK rec fin (.block id a) K e H t = runK rec fin a (.blk id :: K) e H () := by
  show run rec a e H _ _ = run rec a e H _ _
  congr 1
  funext x e' H'
  cases x <;> rfl
@[go_sem] theorem rk_exit (id t) : runK rec fin (.exit id) K e H t = retK rec fin K (.exit id) e H () := Eq.trans rfl rfl
@[go_sem] theorem rk_ret (t) : runK rec fin .ret K e H t = retK rec fin K .ret e H () := Eq.trans rfl rfl
@[go_sem] theorem rk_virt (vs t) : runK rec fin (.virt vs) K e H t = onSome (virt1 vs e H) (fun s => retK rec fin K .normal s.1 s.2 ()) () := Eq.trans rfl rfl
def roundF (p : LoopPol) (N : Nat) (H0 : Heap) (rec : Rec) (a : Code1) (s' : Env × Heap) : Option Out := (head1 p N H0 s').bind fun s' => run rec a s'.1 s'.2 (fun x e H => some (x, e, H)) ()
@[go_sem] theorem rk_loop (p a t) : runK rec fin (.loop p a) K e H t = onSome (virt1 p.virt e H) (fun s => onSome (loop1 (roundF p s.2.bl.length { bl := s.2.bl, esc := [], ro := s.2.ro } rec a) (s.1, { bl := s.2.bl, esc := [], ro := s.2.ro }))
    (fun o => retK rec fin K o.1 o.2.1 { bl := o.2.2.bl, esc := s.2.esc ++ o.2.2.esc, ro := o.2.2.ro } ()) ()) () := Eq.trans rfl rfl
@[go_sem] theorem rk_rangeF (f ps x y t) : runK rec fin (.rangeF f ps x y) K e H t = onSome (fcall rec (ev e f) [.yld H.bl.length] (hnew H (.loop ⟨e, ps, x, y⟩ .ready .normal))) (fun r =>
      match hget r.2 H.bl.length with
      | some (.loop q st pend) => match st with
        | .busy => none
        | _ => onSome (hset r.2 H.bl.length (.loop q .exhausted pend) 0) (fun H => retK rec fin K pend e H ()) ()
      | _ => none) () := Eq.trans rfl rfl
@[go_sem] theorem rt_nil (x t) : retK rec fin [] x e H t = fin x e H := Eq.trans rfl rfl
@[go_sem] theorem rt_code_normal (b t) : retK rec fin (.code b :: K) .normal e H t = runK rec fin b K e H () := Eq.trans rfl rfl
@[go_sem] theorem rt_code_ret (b t) : retK rec fin (.code b :: K) .ret e H t = retK rec fin K .ret e H () := Eq.trans rfl rfl
@[go_sem] theorem rt_code_exit (b id t) : retK rec fin (.code b :: K) (.exit id) e H t = retK rec fin K (.exit id) e H () := Eq.trans rfl rfl
@[go_sem] theorem rt_blk_normal (b t) : retK rec fin (.blk b :: K) .normal e H t = retK rec fin K .normal e H () := Eq.trans rfl rfl
@[go_sem] theorem rt_blk_ret (b t) : retK rec fin (.blk b :: K) .ret e H t = retK rec fin K .ret e H () := Eq.trans rfl rfl
@[go_sem] theorem rt_blk_exit (b id t) : retK rec fin (.blk b :: K) (.exit id) e H t = bif id == b then retK rec fin K .normal e H () else retK rec fin K (.exit id) e H () := Eq.trans rfl rfl
end
section
variable {R : Type}
@[go_sem] theorem fork_true (x y : R) (t : Tok (x, y)) : fork true x y t = x := Eq.trans rfl rfl
@[go_sem] theorem fork_false (x y : R) (t : Tok (x, y)) : fork false x y t = y := Eq.trans rfl rfl
theorem fork_split {b : Bool} {x y r : R} {t : Tok (x, y)} (h1 : b = true → x = r) (h2 : b = false → y = r) : fork b x y t = r := by
  cases b
  · exact h2 rfl
  · exact h1 rfl
@[go_sem] theorem onGuard_bool (b w : Bool) (f : Bool → Option R) (t : Tok f) : onGuard (.bool b) w f t = f (b == w) := Eq.trans rfl rfl
@[go_sem] theorem onGuard_skp (w : Bool) (f : Bool → Option R) (t : Tok f) : onGuard .skp w f t = f false := Eq.trans rfl rfl
@[go_sem] theorem onBool_bool (b : Bool) (f : Bool → Option R) (t : Tok f) : onBool (.bool b) f t = f b := Eq.trans rfl rfl
@[go_sem] theorem onSome_some {A : Type} (v : A) (f : A → Option R) (t : Tok f) : onSome (some v) f t = f v := Eq.trans rfl rfl
@[go_sem] theorem cnd_true {A : Type} (x y : A) : (bif true then x else y) = x := Eq.trans rfl rfl
@[go_sem] theorem cnd_false {A : Type} (x y : A) : (bif false then x else y) = y := Eq.trans rfl rfl
end
@[go_sem] theorem ev_t (e : Env) (n : Nat) : ev e (.t n) = get e n := Eq.trans rfl rfl
@[go_sem] theorem ev_c (e : Env) (v : SV) : ev e (.c v) = v := Eq.trans rfl rfl
@[go_sem] theorem get_cons (j i : Nat) (v : SV) (e : Env) : get ((j, v) :: e) i = bif i == j then v else get e i := Eq.trans rfl rfl
@[go_sem] theorem bind1_none (e : Env) (v : SV) : bind1 e none v = e := Eq.trans rfl rfl
@[go_sem] theorem bind1_some (e : Env) (d : Nat) (v : SV) : bind1 e (some d) v = (d, v) :: e := Eq.trans rfl rfl
@[go_sem] theorem env0_cons (x : SV) (r : List SV) : env0 (x :: r) = (0, x) :: env0.go 1 r := Eq.trans rfl rfl
@[go_sem] theorem env0_nil : env0 [] = [] := Eq.trans rfl rfl
@[go_sem] theorem go_cons (i : Nat) (x : SV) (r : List SV) : env0.go i (x :: r) = (i, x) :: env0.go (i + 1) r := Eq.trans rfl rfl
@[go_sem] theorem go_nil (i : Nat) : env0.go i [] = [] := Eq.trans rfl rfl
section
variable {R : Type} (rec : Rec) (e : Env) (H : Heap) (k : Env → Heap → Option R)
@[go_sem] theorem ro_nil (t) : runOps rec [] e H k t = k e H := Eq.trans rfl rfl
@[go_sem] theorem ro_cons (d : Option Nat) (op : Op1) (os : List Oper1) (t) : runOps rec (⟨d, op, none⟩ :: os) e H k t = onSome (step1 rec e H op) (fun r => runOps rec os (bind1 e d r.1) r.2 k ()) () := Eq.trans rfl rfl
@[go_sem] theorem ro_consg (d : Option Nat) (x : Nat) (w : Bool) (op : Op1) (os : List Oper1) (t) : runOps rec (⟨d, op, some (x, w)⟩ :: os) e H k t = onGuard (get e x) w (fun b => fork b (onSome (step1 rec e H op) (fun r => runOps rec os (bind1 e d r.1) r.2 k ()) ())
      (runOps rec os (bind1 e d .skp) H k ()) ()) () := Eq.trans rfl rfl
@[go_sem] theorem rd_nil (N t) : runDrawn rec [] N e H k t = k e H := Eq.trans rfl rfl
@[go_sem] theorem rd_cons (d : Option Nat) (op : Op1) (q : Draw1) (os : List (Oper1 × Draw1)) (N t) : runDrawn rec ((⟨d, op, none⟩, q) :: os) N e H k t = onSome (step1d rec N q e H op) (fun r => runDrawn rec os (nextN q N r.2) (bind1 e d r.1) r.2 k ()) () := Eq.trans rfl rfl
@[go_sem] theorem rd_consg (d : Option Nat) (x : Nat) (w : Bool) (op : Op1) (q : Draw1) (os : List (Oper1 × Draw1)) (N t) : runDrawn rec ((⟨d, op, some (x, w)⟩, q) :: os) N e H k t =
    onGuard (get e x) w (fun b => fork b (onSome (step1d rec N q e H op) (fun r => runDrawn rec os (nextN q N r.2) (bind1 e d r.1) r.2 k ()) ())
      (bif skip1 q then runDrawn rec os (nextN q N H) (bind1 e d .skp) H k () else none) ()) () := Eq.trans rfl rfl
@[go_sem] theorem nx_pure (h n o N) : nextN ⟨.pure, h, n, o⟩ N H = N := Eq.trans rfl rfl
@[go_sem] theorem nx_seg (h n o N) : nextN ⟨.seg, h, n, o⟩ N H = N := Eq.trans rfl rfl
@[go_sem] theorem nx_bar (h n o N) : nextN ⟨.bar, h, n, o⟩ N H = H.bl.length := Eq.trans rfl rfl
@[go_sem] theorem sk_pure (h n o) : skip1 ⟨.pure, h, n, o⟩ = true := Eq.trans rfl rfl
@[go_sem] theorem sk_bar (h n o) : skip1 ⟨.bar, h, n, o⟩ = true := Eq.trans rfl rfl
@[go_sem] theorem sk_seg (h o) : skip1 ⟨.seg, h, 0, o⟩ = true := Eq.trans rfl rfl
@[go_sem] theorem sd_pure (op N h n o) : step1d rec N ⟨.pure, h, n, o⟩ e H op = step1 rec e H op := Eq.trans rfl rfl
theorem frz_bl (N : Nat) (H : Heap) : ∀ d, frz N H d = frz N ⟨H.bl, [], 0⟩ d
  | 0 => by funext v; rfl
  | d + 1 => by
    have ih := frz_bl N H d
    funext v
    simp only [frz]
    rw [ih]
    rfl
theorem sd_callV (N o f xs) : step1d rec N ⟨.seg, [], 0, o⟩ e H (.callV f xs) = step1 rec e H (.callV f xs) := by
  simp only [step1d, step1, vcall, hide1, List.foldl_nil]
  rw [frz_bl 0 { bl := H.bl, esc := [], ro := H.bl.length }, frz_bl 0 H]
  cases allS ((xs.map (ev e)).map (frz 0 ⟨H.bl, [], 0⟩ depth1)) with
  | none => rfl
  | some vs =>
    simp only [Option.bind_some]
    cases rec (.fn f) vs ⟨[], [], 0⟩ with
    | none => rfl
    | some r =>
      simp only [Option.bind_some]
      cases scal r.1 <;> simp
attribute [go_sem] sd_callV
def reads1 : Op1 → Bool
  | .load .. | .faddr .. | .iaddrS .. | .iaddrA .. | .len .. | .sliceL .. | .nilChk .. | .isNil .. => true
  | _ => false
theorem reads_eq {op : Op1} (h : reads1 op = true) : ∃ g : List SBlk → Option SV, ∀ H : Heap, step1 rec e H op = (g H.bl).map (·, H) := by
  cases op <;> try (exfalso; simp only [reads1, Bool.false_eq_true] at h; done)
  case load ag n a => exact ⟨fun bl => sload ag n ⟨bl, [], 0⟩ (ev e a), fun H => by
    simp only [step1, sop]; congr 1⟩
  case isNil k neg x => exact ⟨fun bl => (isNil1 ⟨bl, [], 0⟩ k (ev e x)).map fun b => .bool (neg ^^ b), fun H => by
    simp only [step1, sop]
    have : isNil1 H k (ev e x) = isNil1 ⟨H.bl, [], 0⟩ k (ev e x) := rfl
    rw [this]; cases isNil1 ⟨H.bl, [], 0⟩ k (ev e x) <;> rfl⟩
  case nilChk x => exact ⟨fun bl => bif cur ⟨bl, [], 0⟩ (ev e x) then nilChk1 (ev e x) else none, fun H => by
    simp only [step1, sop]
    have : cur H (ev e x) = cur ⟨H.bl, [], 0⟩ (ev e x) := rfl
    rw [this]; cases cur ⟨H.bl, [], 0⟩ (ev e x) <;> rfl⟩
  case sliceL esz x lo hi mx => exact ⟨fun bl => bif curZ ⟨bl, [], 0⟩ esz (ev e x) then (sslice (ev e x) (lo.map (ev e)) (hi.map (ev e)) (mx.map (ev e))).orElse fun _ => ssliceX ⟨bl, [], 0⟩ (ev e x) (lo.map (ev e)) (hi.map (ev e)) (mx.map (ev e)) else none, fun H => by
    simp only [step1, sop]
    have : curZ H esz (ev e x) = curZ ⟨H.bl, [], 0⟩ esz (ev e x) := rfl
    rw [this]; cases curZ ⟨H.bl, [], 0⟩ esz (ev e x) <;> rfl⟩
  case faddr off x => exact ⟨fun bl => bif cur ⟨bl, [], 0⟩ (ev e x) then faddr1 off (ev e x) else none, fun H => by
    simp only [step1, sop]
    have : cur H (ev e x) = cur ⟨H.bl, [], 0⟩ (ev e x) := rfl
    rw [this]; cases cur ⟨H.bl, [], 0⟩ (ev e x) <;> rfl⟩
  case iaddrS esz x ix => exact ⟨fun bl => bif curZ ⟨bl, [], 0⟩ esz (ev e x) then siaddr (ev e x) (ev e ix) else none, fun H => by
    simp only [step1, sop]
    have : curZ H esz (ev e x) = curZ ⟨H.bl, [], 0⟩ esz (ev e x) := rfl
    rw [this]; cases curZ ⟨H.bl, [], 0⟩ esz (ev e x) <;> rfl⟩
  case iaddrA len esz x ix => exact ⟨fun bl => bif cur ⟨bl, [], 0⟩ (ev e x) then (sidx len (ev e ix)).bind fun i => faddr1 (i * esz) (ev e x) else none, fun H => by
    simp only [step1, sop]
    have : cur H (ev e x) = cur ⟨H.bl, [], 0⟩ (ev e x) := rfl
    rw [this]; cases cur ⟨H.bl, [], 0⟩ (ev e x) with
    | true => simp only [cond_true]; cases sidx len (ev e ix) <;> rfl
    | false => rfl⟩
  case len x => exact ⟨fun bl => bif cur ⟨bl, [], 0⟩ (ev e x) then (lenL (ev e x)).map fun (n : Nat) => .int .i64 n else none, fun H => by
    simp only [step1, sop]
    have : cur H (ev e x) = cur ⟨H.bl, [], 0⟩ (ev e x) := rfl
    rw [this]; cases cur ⟨H.bl, [], 0⟩ (ev e x) with
    | true => simp only [cond_true]; cases lenL (ev e x) <;> rfl
    | false => rfl⟩
theorem sd_read {op : Op1} (h : reads1 op = true) (N o) : step1d rec N ⟨.seg, [], 0, o⟩ e H op = step1 rec e H op := by
  obtain ⟨g, hg⟩ := reads_eq rec e h
  simp only [step1d, hg, hide1, List.foldl_nil]
  cases hq : g H.bl with
  | none => rfl
  | some v => simp
@[go_sem] theorem sd_load (N o ag n a) : step1d rec N ⟨.seg, [], 0, o⟩ e H (.load ag n a) = step1 rec e H (.load ag n a) := sd_read rec e H (by rfl) N o
@[go_sem] theorem sd_faddr (N o n a) : step1d rec N ⟨.seg, [], 0, o⟩ e H (.faddr n a) = step1 rec e H (.faddr n a) := sd_read rec e H (by rfl) N o
@[go_sem] theorem sd_iaddrS (N o n a b) : step1d rec N ⟨.seg, [], 0, o⟩ e H (.iaddrS n a b) = step1 rec e H (.iaddrS n a b) := sd_read rec e H (by rfl) N o
@[go_sem] theorem sd_len (N o a) : step1d rec N ⟨.seg, [], 0, o⟩ e H (.len a) = step1 rec e H (.len a) := sd_read rec e H (by rfl) N o
@[go_sem] theorem sd_sliceL (N o n a x y z) : step1d rec N ⟨.seg, [], 0, o⟩ e H (.sliceL n a x y z) = step1 rec e H (.sliceL n a x y z) := sd_read rec e H (by rfl) N o
@[go_sem] theorem sd_nilChk (N o a) : step1d rec N ⟨.seg, [], 0, o⟩ e H (.nilChk a) = step1 rec e H (.nilChk a) := sd_read rec e H (by rfl) N o
@[go_sem] theorem sd_call (N h n o f xs) : step1d rec N ⟨.seg, h, n, o⟩ e H (.call f xs) = onSome (scall rec (ev e f) (xs.map (ev e)) { bl := hide1 N h H.bl, esc := [], ro := H.bl.length }) (fun r =>
      bif r.2.bl.length == H.bl.length + n && r.2.esc.isEmpty then some (r.1, { bl := H.bl ++ r.2.bl.drop H.bl.length, esc := H.esc, ro := H.ro }) else none) () := Eq.trans rfl (by cases hq : scall rec (ev e f) (xs.map (ev e)) { bl := hide1 N h H.bl, esc := [], ro := H.bl.length } <;> simp [onSome, step1d, step1, hq])
@[go_sem] theorem sd_bar (op N h n o) : step1d rec N ⟨.bar, h, n, o⟩ e H op = onSome (step1 rec e H op) (fun r => bif decide (H.bl.length ≤ r.2.bl.length) then some r else none) () := by
  show (step1 rec e H op).bind _ = _
  cases step1 rec e H op <;> rfl
end
end Go.Sh
namespace Go.Sh
set_option linter.unusedSectionVars false
set_option linter.unnecessarySimpa false
set_option linter.unusedSimpArgs false
set_option linter.unusedVariables false
section
variable (rec : Rec) (e : Env) (H : Heap)
@[go_sem] theorem st_mov (x) : step1 rec e H (.mov x) = some (ev e x, H) := Eq.trans rfl rfl
@[go_sem] theorem st_pick (c a b) : step1 rec e H (.pick c a b) = (spick (ev e c) (ev e a) (ev e b)).map (·, H) := Eq.trans rfl rfl
@[go_sem] theorem st_box (x) : step1 rec e H (.box x) = (cells1 (ev e x)).map fun cs => (.ptr H.bl.length 0 0 0, hnew H (.box cs)) := Eq.trans rfl rfl
@[go_sem] theorem st_alloc (z) : step1 rec e H (.alloc z) = some (.ptr H.bl.length 0 0 0, hnew H (.box z)) := Eq.trans rfl rfl
@[go_sem] theorem st_build (z ps) : step1 rec e H (.build z ps) = (fillP (ev e) z ps).map (.agg ·, H) := Eq.trans rfl rfl
@[go_sem] theorem st_blist (esz z n ps) : step1 rec e H (.blist esz z n ps) = onSome (fillS (ev e) esz (List.replicate n z) ps) (fun L => bif SV.refs.refsL L.flatten == 0 then some (.lst esz L true, H) else none) () := by
  simp only [step1, sop]
  cases fillS (ev e) esz (List.replicate n z) ps with
  | none => rfl
  | some L => simp only [Option.bind_some, onSome]; cases (SV.refs.refsL L.flatten == 0) <;> rfl
@[go_sem] theorem st_load (ag n a) : step1 rec e H (.load ag n a) = (sload ag n H (ev e a)).map (·, H) := Eq.trans rfl rfl
@[go_sem] theorem st_store (n a x) : step1 rec e H (.store n a x) = (sstore n H (ev e x) (ev e a)).map (.undef, ·) := Eq.trans rfl rfl
@[go_sem] theorem st_nilChk (x) : step1 rec e H (.nilChk x) = bif cur H (ev e x) then (nilChk1 (ev e x)).map (·, H) else none := Eq.trans rfl rfl
@[go_sem] theorem st_bin (op x y) : step1 rec e H (.bin op x y) = (sbin op (ev e x) (ev e y)).map (·, H) := Eq.trans rfl rfl
@[go_sem] theorem st_binB (op x y) : step1 rec e H (.binB op x y) = (sbinB op (ev e x) (ev e y)).map (·, H) := Eq.trans rfl rfl
def eqAgg1 (neg : Bool) (sh : List LK) (H : Heap) : SV → SV → Option (SV × Heap)
  | .agg a, .agg b => (eqCells sh a b).map fun r => (.bool (neg ^^ r), H)
  | _, _ => none
@[go_sem] theorem st_eqAgg (neg sh x y) : step1 rec e H (.eqAgg neg sh x y) = eqAgg1 neg sh H (ev e x) (ev e y) := by
  simp only [step1, sop, eqAgg1]
  split <;> simp_all
@[go_sem] theorem eqAgg1_agg (neg sh a b) : eqAgg1 neg sh H (.agg a) (.agg b) = (eqCells sh a b).map fun r => (.bool (neg ^^ r), H) := Eq.trans rfl rfl
def notB1 (H : Heap) : SV → Option (SV × Heap)
  | .bool b => some (.bool (!b), H)
  | _ => none
@[go_sem] theorem st_notB (x) : step1 rec e H (.notB x) = notB1 H (ev e x) := by simp only [step1, sop, notB1]; split <;> simp_all
@[go_sem] theorem notB1_bool (b) : notB1 H (.bool b) = some (.bool (!b), H) := Eq.trans rfl rfl
def negI1 (H : Heap) : SV → Option (SV × Heap)
  | .int k n => some (.int k (k.wrap (0 - n)), H)
  | _ => none
@[go_sem] theorem st_negI (x) : step1 rec e H (.negI x) = negI1 H (ev e x) := by simp only [step1, sop, negI1]; split <;> simp_all
@[go_sem] theorem negI1_int (k n) : negI1 H (.int k n) = some (.int k (k.wrap (0 - n)), H) := Eq.trans rfl rfl
def convI1 (k : IntKind) (H : Heap) : SV → Option (SV × Heap)
  | .int _ n => some (.int k (k.wrap n), H)
  | _ => none
@[go_sem] theorem st_convI (k x) : step1 rec e H (.convI k x) = convI1 k H (ev e x) := by simp only [step1, sop, convI1]; split <;> simp_all
@[go_sem] theorem convI1_int (k k2 n) : convI1 k H (.int k2 n) = some (.int k (k.wrap n), H) := Eq.trans rfl rfl
@[go_sem] theorem st_mkfn (f cs) : step1 rec e H (.mkfn f cs) = some (.fn f (cs.map (ev e)), H) := Eq.trans rfl rfl
@[go_sem] theorem st_mkslice (esz z bytes l c) : step1 rec e H (.mkslice esz z bytes l c) = smake esz z bytes H (ev e l) (ev e c) := Eq.trans rfl rfl
@[go_sem] theorem st_sliceL (esz x lo hi mx) : step1 rec e H (.sliceL esz x lo hi mx) = bif curZ H esz (ev e x) then ((sslice (ev e x) (lo.map (ev e)) (hi.map (ev e)) (mx.map (ev e))).orElse fun _ => ssliceX H (ev e x) (lo.map (ev e)) (hi.map (ev e)) (mx.map (ev e))).map (·, H) else none := Eq.trans rfl rfl
@[go_sem] theorem st_faddr (off x) : step1 rec e H (.faddr off x) = bif cur H (ev e x) then (faddr1 off (ev e x)).map (·, H) else none := Eq.trans rfl rfl
@[go_sem] theorem st_iaddrS (esz x ix) : step1 rec e H (.iaddrS esz x ix) = bif curZ H esz (ev e x) then (siaddr (ev e x) (ev e ix)).map (·, H) else none := Eq.trans rfl rfl
@[go_sem] theorem st_iaddrA (len esz x ix) : step1 rec e H (.iaddrA len esz x ix) = bif cur H (ev e x) then (sidx len (ev e ix)).bind fun i => (faddr1 (i * esz) (ev e x)).map (·, H) else none := Eq.trans rfl rfl
def extr1 (i : Nat) (H : Heap) : SV → Option (SV × Heap)
  | .tup vs => (vs[i]?).map (·, H)
  | _ => none
@[go_sem] theorem st_extract (x i) : step1 rec e H (.extract x i) = extr1 i H (ev e x) := by simp only [step1, sop, extr1]; split <;> simp_all
@[go_sem] theorem extr1_tup (i vs) : extr1 i H (.tup vs) = (vs[i]?).map (·, H) := Eq.trans rfl rfl
@[go_sem] theorem st_len (x) : step1 rec e H (.len x) = bif cur H (ev e x) then (lenL (ev e x)).map fun (n : Nat) => (.int .i64 n, H) else none := Eq.trans rfl rfl
def indexS1 (H : Heap) (ix : SV) : SV → Option (SV × Heap)
  | .str s => (sidx s.size ix).bind fun i => (s.data[i]?).map fun b => (.int .u8 b.toNat, H)
  | _ => none
@[go_sem] theorem st_indexS (x ix) : step1 rec e H (.indexS x ix) = indexS1 H (ev e ix) (ev e x) := by simp only [step1, sop, indexS1]; split <;> simp_all
@[go_sem] theorem indexS1_str (ix s) : indexS1 H ix (.str s) = (sidx s.size ix).bind fun i => (s.data[i]?).map fun b => (.int .u8 b.toNat, H) := Eq.trans rfl rfl
@[go_sem] theorem st_convBS (x) : step1 rec e H (.convBS x) = (rdL 1 H (ev e x)).bind fun L => (toBytes L).map fun l => (.str ⟨l.toArray⟩, H) := Eq.trans rfl rfl
def lenS1 (H : Heap) : SV → Option (SV × Heap)
  | .str s => some (.int .i64 s.size, H)
  | _ => none
@[go_sem] theorem st_lenS (x) : step1 rec e H (.lenS x) = lenS1 H (ev e x) := by simp only [step1, sop, lenS1]; split <;> simp_all
@[go_sem] theorem lenS1_str (s) : lenS1 H (.str s) = some (.int .i64 s.size, H) := Eq.trans rfl rfl
theorem max_fn : (fun a b : Int => if b > a then b else a) = max := by funext a b; simp only [Int.max_def]; split <;> split <;> omega
theorem min_fn : (fun a b : Int => if b < a then b else a) = min := by funext a b; simp only [Int.min_def]; split <;> split <;> omega
@[go_sem] theorem st_maxI (xs) : step1 rec e H (.maxI xs) = (fold1 max (xs.map (ev e))).map (·, H) := by rw [← max_fn]; rfl
@[go_sem] theorem st_minI (xs) : step1 rec e H (.minI xs) = (fold1 min (xs.map (ev e))).map (·, H) := by rw [← min_fn]; rfl
@[go_sem] theorem st_callK (f n xs) : step1 rec e H (.callK f n xs) = rec (.kfn f) (xs.map (ev e)) H := Eq.trans rfl rfl
@[go_sem] theorem or_some {A : Type} (x : A) (f : Unit → Option A) : (some x).orElse f = some x := Eq.trans rfl rfl
@[go_sem] theorem sl_lst2 (z L f lo hi) : sslice (.lst z L f) lo hi none = (obnd L.length L.length hi).bind fun h => (obnd h 0 lo).map fun l => .lst z ((L.take h).drop l) (f && h == L.length) := Eq.trans rfl rfl
@[go_sem] theorem ob_none (y d) : obnd y d none = some d := Eq.trans rfl rfl
@[go_sem] theorem ob_int (y d k i) : obnd y d (some (.int k i)) = bif decide (0 ≤ i) && decide (i ≤ (y : Int)) then some i.toNat else none := Eq.trans rfl rfl
@[go_sem] theorem st_isNil (k neg x) : step1 rec e H (.isNil k neg x) = (isNil1 H k (ev e x)).map fun b => (.bool (neg ^^ b), H) := Eq.trans rfl rfl
@[go_sem] theorem in_ptr (b v i o) : isNil1 H .p (.ptr b v i o) = bif cur H (.ptr b v i o) then some false else none := Eq.trans rfl rfl
@[go_sem] theorem st_append (esz bytes s x) : step1 rec e H (.append esz bytes s x) = (rdL esz H (ev e x)).bind (sappend esz bytes H (ev e s)) := Eq.trans rfl rfl
@[go_sem] theorem st_call (f xs) : step1 rec e H (.call f xs) = scall rec (ev e f) (xs.map (ev e)) H := Eq.trans rfl rfl
@[go_sem] theorem sc_fn (f cs xs) : scall rec (.fn f cs) xs H = rec (.fn f) (xs ++ cs) H := Eq.trans rfl rfl
@[go_sem] theorem sc_yld (b xs) : scall rec (.yld b) xs H = rec (.yld b) xs H := Eq.trans rfl rfl
@[go_sem] theorem fc_fn (f cs xs) : fcall rec (.fn f cs) xs H = rec (.fn f) (xs ++ cs) H := Eq.trans rfl rfl
end
section
variable (k : IntKind) (a b : Int)
@[go_sem] theorem sb_add : sbin .add (.int k a) (.int k b) = some (.int k (k.wrap (a + b))) := by simp [sbin]
@[go_sem] theorem sb_sub : sbin .sub (.int k a) (.int k b) = some (.int k (k.wrap (a - b))) := by simp [sbin]
@[go_sem] theorem sb_mul : sbin .mul (.int k a) (.int k b) = some (.int k (k.wrap (a * b))) := by simp [sbin]
@[go_sem] theorem sb_quo : sbin .quo (.int k a) (.int k b) = bif !decide (b = 0) then some (.int k (k.wrap (a.tdiv b))) else none := by simp [sbin]
@[go_sem] theorem sb_rem : sbin .rem (.int k a) (.int k b) = bif !decide (b = 0) then some (.int k (a.tmod b)) else none := by simp [sbin]
@[go_sem] theorem sb_lss : sbin .lss (.int k a) (.int k b) = some (.bool (decide (a < b))) := by simp [sbin]
@[go_sem] theorem sb_leq : sbin .leq (.int k a) (.int k b) = some (.bool (decide (a ≤ b))) := by simp [sbin]
@[go_sem] theorem sb_gtr : sbin .gtr (.int k a) (.int k b) = some (.bool (decide (b < a))) := by simp [sbin]
@[go_sem] theorem sb_geq : sbin .geq (.int k a) (.int k b) = some (.bool (decide (b ≤ a))) := by simp [sbin]
@[go_sem] theorem sb_eql : sbin .eql (.int k a) (.int k b) = some (.bool (decide (a = b))) := by simp [sbin]
@[go_sem] theorem sb_neq : sbin .neq (.int k a) (.int k b) = some (.bool (!decide (a = b))) := by simp [sbin]
@[go_sem] theorem sb_and : sbin .and (.int k a) (.int k b) = some (.int k (k.wrap ((BitVec.ofInt k.bits a &&& BitVec.ofInt k.bits b).toNat))) := by simp [sbin]
@[go_sem] theorem sb_or : sbin .or (.int k a) (.int k b) = some (.int k (k.wrap ((BitVec.ofInt k.bits a ||| BitVec.ofInt k.bits b).toNat))) := by simp [sbin]
@[go_sem] theorem sb_shl (k2) : sbin .shl (.int k a) (.int k2 b) = bif decide (0 ≤ b) then some (.int k (k.wrap (a * 2 ^ (min b.toNat k.bits)))) else none := by simp [sbin]
@[go_sem] theorem sb_shr (k2) : sbin .shr (.int k a) (.int k2 b) = bif decide (0 ≤ b) then some (.int k (a.fdiv (2 ^ (min b.toNat k.bits)))) else none := by simp [sbin]
@[go_sem] theorem sbB_eql (a b : Bool) : sbinB .eql (.bool a) (.bool b) = some (.bool (a == b)) := by simp [sbinB]
@[go_sem] theorem pick_bool (c a b : Bool) : spick (.bool c) (.bool a) (.bool b) = some (.bool (bif c then a else b)) := by simp [spick]
@[go_sem] theorem pick_skp (x) : spick (.bool false) .skp x = some x := by cases x <;> simp [spick]
@[go_sem] theorem pick_skp' (x) : spick (.bool true) x .skp = some x := by cases x <;> simp [spick]
@[go_sem] theorem ce_nil : eqCells [] [] [] = some true := by simp [eqCells]
@[go_sem] theorem ce_i (sh x y) : eqCells (.i :: sh) (.int k a :: x) (.int k b :: y) = (eqCells sh x y).map (fun r => decide (a = b) && r) := by simp [eqCells]
@[go_sem] theorem ce_b (sh x y) (a b : Bool) : eqCells (.b :: sh) (.bool a :: x) (.bool b :: y) = (eqCells sh x y).map (fun r => (a == b) && r) := by simp [eqCells]
@[go_sem] theorem ce_s (sh x y) (a b : ByteArray) : eqCells (.s :: sh) (.str a :: x) (.str b :: y) = (eqCells sh x y).map (fun r => decide (a = b) && r) := by simp [eqCells]
@[go_sem] theorem c1_agg (cs) : cells1 (.agg cs) = some cs := by simp [cells1]
@[go_sem] theorem c1_int : cells1 (.int k a) = some [.int k a] := by simp [cells1, SV.ok1]
@[go_sem] theorem c1_bool (b) : cells1 (.bool b) = some [.bool b] := by simp [cells1, SV.ok1]
@[go_sem] theorem c1_str (b) : cells1 (.str b) = some [.str b] := by simp [cells1, SV.ok1]
@[go_sem] theorem c1_lst (z L f) : cells1 (.lst z L f) = some [.lst z L f] := by simp [cells1, SV.ok1]
@[go_sem] theorem c1_slc (b v o n) : cells1 (.slc b v o n) = some [.slc b v o n] := by simp [cells1, SV.ok1]
@[go_sem] theorem c1_ptr (b v o n) : cells1 (.ptr b v o n) = some [.ptr b v o n] := by simp [cells1, SV.ok1]
@[go_sem] theorem c1_fn (f cs) : cells1 (.fn f cs) = some [.fn f cs] := by simp [cells1, SV.ok1]
@[go_sem] theorem p1_one (n cs o) : part1 false n cs o = cs[o]? := by simp [part1]
@[go_sem] theorem p1_agg (n cs o) : part1 true n cs o = bif decide (o + n ≤ cs.length) then some (.agg ((cs.drop o).take n)) else none := by simp [part1]
@[go_sem] theorem fp_nil (ev z) : fillP ev z [] = some z := by simp [fillP]
@[go_sem] theorem fp_cons (ev z off n x ps) : fillP ev z ((off, n, x) :: ps) = (cells1 (ev x)).bind fun cs => bif cs.length == n && decide (off + n ≤ z.length) then fillP ev (put1 z off n cs) ps else none := by simp [fillP]
@[go_sem] theorem fs_nil (ev esz z) : fillS ev esz z [] = some z := by simp [fillS]
@[go_sem] theorem fs_cons (ev esz z i x ps) : fillS ev esz z ((i, x) :: ps) = (cells1 (ev x)).bind fun cs => bif cs.length == esz && decide (i < z.length) then fillS ev esz (z.set i cs) ps else none := by simp [fillS]
attribute [go_sem] put1
@[go_sem] theorem f1_cons (f : Int → Int → Int) (r) : fold1 f (.int k a :: r) = foldI f a k r := by simp [fold1]
@[go_sem] theorem fI_nil (f : Int → Int → Int) : foldI f a k [] = some (.int k a) := by simp [foldI]
@[go_sem] theorem fI_cons (f : Int → Int → Int) (r) : foldI f a k (.int k b :: r) = foldI f (f a b) k r := by simp [foldI]
@[go_sem] theorem ln_lst (z L f) : lenL (.lst z L f) = some L.length := by simp [lenL]
@[go_sem] theorem ln_slc (b v o n) : lenL (.slc b v o n) = some n := by simp [lenL]
@[go_sem] theorem cu_lst (H z L f) : cur H (.lst z L f) = true := by simp [cur]
@[go_sem] theorem cu_eptr (H L) : cur H (.eptr L) = true := by simp [cur]
@[go_sem] theorem cz_lst (H z L f) : curZ H z (.lst z L f) = true := by simp [curZ]
@[go_sem] theorem fa_ptr (off b v i o) : faddr1 off (.ptr b v i o) = some (.ptr b v i (o + off)) := by simp [faddr1]
@[go_sem] theorem fa_eptr (off cs) : faddr1 off (.eptr cs) = some (.eptr (cs.drop off)) := by simp [faddr1]
@[go_sem] theorem sl_eptr (ag n H cs) : sload ag n H (.eptr cs) = part1 ag n cs 0 := by simp [sload]
@[go_sem] theorem nc_ptr (b v i o) : nilChk1 (.ptr b v i o) = some (.ptr b v i o) := by simp [nilChk1]
end
def cur1 (v : Nat) : Option SBlk → Bool
  | some (.box _) => true
  | some (.arr v' _ _ _) => v == v'
  | _ => false
@[go_sem] theorem cu_ptr (H b v i o) : cur H (.ptr b v i o) = cur1 v (hget H b) := by
  simp only [cur, cur1]
  cases hget H b with
  | none => rfl
  | some x => cases x <;> rfl
@[go_sem] theorem cur1_box (v cs) : cur1 v (some (.box cs)) = true := Eq.trans rfl rfl
def cur2 (v : Nat) : Option SBlk → Bool
  | some (.arr v' _ _ _) => v == v'
  | _ => false
@[go_sem] theorem cu_slc (H b v i o) : cur H (.slc b v i o) = cur2 v (hget H b) := by
  simp only [cur, cur2]
  cases hget H b with
  | none => rfl
  | some x => cases x <;> rfl
@[go_sem] theorem cur2_arr (v v' z L x) : cur2 v (some (.arr v' z L x)) = (v == v') := Eq.trans rfl rfl
def curZ1 (v z : Nat) : Option SBlk → Bool
  | some (.arr v' z' _ _) => v == v' && z' == z
  | _ => false
@[go_sem] theorem cz_slc (H z b v i o) : curZ H z (.slc b v i o) = curZ1 v z (hget H b) := by
  simp only [curZ, curZ1]
  cases hget H b with
  | none => rfl
  | some x => cases x <;> rfl
@[go_sem] theorem curZ1_arr (v z v' z' L x) : curZ1 v z (some (.arr v' z' L x)) = (v == v' && z' == z) := Eq.trans rfl rfl
def ldB (ag : Bool) (n v i o : Nat) : Option SBlk → Option SV
  | some (.box cs) => bif i == 0 then part1 ag n cs o else none
  | some (.arr v' _ L _) => bif v == v' then (L[i]?).bind fun cs => part1 ag n cs o else none
  | _ => none
@[go_sem] theorem sl_ptr (ag n H b v i o) : sload ag n H (.ptr b v i o) = ldB ag n v i o (hget H b) := by
  simp only [sload, ldB]
  cases hget H b with
  | none => rfl
  | some x =>
    cases x with
    | arr v' z L ex =>
      cases hv : (v == v') with
      | true => simp only [hv, cond_true]; cases L[i]? <;> rfl
      | false => simp only [hv, cond_false]
    | _ => rfl
@[go_sem] theorem ldB_box (ag n v o cs) : ldB ag n v 0 o (some (.box cs)) = part1 ag n cs o := by simp [ldB]
@[go_sem] theorem ldB_arr (ag n v i o z L x) : ldB ag n v i o (some (.arr v z L x)) = (L[i]?).bind fun cs => part1 ag n cs o := by simp [ldB]
def rdB (z v off n : Nat) : Option SBlk → Option (List (List SV))
  | some (.arr v' z' L _) => bif v == v' && z' == z && decide (off + n ≤ L.length) then some ((L.drop off).take n) else none
  | _ => none
@[go_sem] theorem rd_slc (z H b v off n) : rdL z H (.slc b v off n) = rdB z v off n (hget H b) := by
  simp only [rdL, rdB]
  cases hget H b with
  | none => rfl
  | some x => cases x <;> rfl
@[go_sem] theorem rdB_arr (z v off n L x) : rdB z v off n (some (.arr v z L x)) = bif decide (off + n ≤ L.length) then some ((L.drop off).take n) else none := by simp [rdB]
@[go_sem] theorem rd_lst (z H L f) : rdL z H (.lst z L f) = some L := by simp [rdL]
attribute [go_sem] hget hnew
def stB (n v i o : Nat) (b : Nat) (H : Heap) (xs : List SV) (refs : Nat) : Option SBlk → Option Heap
  | some (.box cs) => bif i == 0 && decide (o + n ≤ cs.length) then hset H b (.box (put1 cs o n xs)) refs else none
  | some (.arr v' z L e) => bif v == v' then (L[i]?).bind fun cs => bif decide (o + n ≤ cs.length) then hset H b (.arr v z (L.set i (put1 cs o n xs)) e) refs else none else none
  | _ => none
@[go_sem] theorem ss_ptr (n H x b v i o) : sstore n H x (.ptr b v i o) = (cells1 x).bind fun xs => bif xs.length == n then stB n v i o b H xs x.refs (hget H b) else none := by
  simp only [sstore, stB]
  congr 1
  funext xs
  cases (xs.length == n) with
  | false => rfl
  | true =>
    simp only [cond_true]
    cases hget H b with
    | none => rfl
    | some y =>
      cases y with
      | arr v' z L ex =>
        cases hv : (v == v') with
        | true => simp only [hv, cond_true]; cases L[i]? <;> rfl
        | false => simp only [hv, cond_false]
      | _ => rfl
@[go_sem] theorem stB_box (n v o b H xs r cs) : stB n v 0 o b H xs r (some (.box cs)) = bif decide (o + n ≤ cs.length) then hset H b (.box (put1 cs o n xs)) r else none := by simp [stB]
@[go_sem] theorem stB_arr (n v i o b H xs r z L e) : stB n v i o b H xs r (some (.arr v z L e)) = (L[i]?).bind fun cs => bif decide (o + n ≤ cs.length) then hset H b (.arr v z (L.set i (put1 cs o n xs)) e) r else none := by simp [stB]
@[go_sem] theorem hset_eq (bl esc ro b x r) : hset ⟨bl, esc, ro⟩ b x r = bif decide (ro ≤ b) && decide (b < bl.length) then some ⟨bl.set b x, bif decide (r ≤ b + 1) then esc else (b, r) :: esc, ro⟩ else none := by simp [hset]
@[go_sem] theorem refs_int (k n) : (SV.int k n).refs = 0 := by simp [SV.refs]
@[go_sem] theorem refs_str (n) : (SV.str n).refs = 0 := by simp [SV.refs]
@[go_sem] theorem refs_lst (z L f) : (SV.lst z L f).refs = 0 := by simp [SV.refs]
@[go_sem] theorem refs_ptr (b v i o) : (SV.ptr b v i o).refs = b + 1 := by simp [SV.refs]
@[go_sem] theorem refs_slc (b v i o) : (SV.slc b v i o).refs = b + 1 := by simp [SV.refs]
@[go_sem] theorem refs_yld (b) : (SV.yld b).refs = b + 1 := by simp [SV.refs]
@[go_sem] theorem refs_agg (cs) : (SV.agg cs).refs = SV.refs.refsL cs := by simp [SV.refs]
@[go_sem] theorem refs_fn (f cs) : (SV.fn f cs).refs = SV.refs.refsL cs := by simp [SV.refs]
@[go_sem] theorem refsL_nil : SV.refs.refsL [] = 0 := by simp [SV.refs.refsL]
@[go_sem] theorem refsL_cons (v vs) : SV.refs.refsL (v :: vs) = max v.refs (SV.refs.refsL vs) := by simp [SV.refs.refsL]
section
variable {T : FuncId → Option Fun1} {f : FuncId} {F : Fun1} {xs : List SV} {n : Nat} {H : Heap}
def fin1 {R : Type} (rs : List Res1) (k : SV → Heap → Option R) : SEx → Env → Heap → Option R
  | .exit _, _, _ => none
  | _, e, H => (results1 e H rs).bind fun v => k v H
@[go_sem] theorem fin1_ret {R : Type} (rs) (k : SV → Heap → Option R) (e H) : fin1 rs k .ret e H = onSome (results1 e H rs) (fun v => k v H) () := by
  show (results1 e H rs).bind _ = _
  cases results1 e H rs <;> rfl
@[go_sem] theorem fin1_normal {R : Type} (rs) (k : SV → Heap → Option R) (e H) : fin1 rs k .normal e H = onSome (results1 e H rs) (fun v => k v H) () := by
  show (results1 e H rs).bind _ = _
  cases results1 e H rs <;> rfl
theorem call_pure {v : SV} (hT : T f = some F) (hp : pure0 F xs = true) (h : runK (call1 T n) (fin1 F.res (fun v H' => frz 0 H' depth1 v)) F.body [] (env0 xs) heap0 () = some v) : call1 T (n + 1) (.fn f) xs H = some (v, H) := by
  have hk : ∀ k : SEx → Env → Heap → Option SV, k = fin1 F.res (fun v H' => frz 0 H' depth1 v) → run (call1 T n) F.body (env0 xs) heap0 k () = some v := by
    intro k hk
    rw [hk, run_runK]
    exact h
  simp only [call1, hT, hp, cond_true]
  rw [hk _ (by funext x e H'; cases x <;> rfl)]
  rfl
end
@[go_sem] theorem res_one (e H r) : results1 e H [r] = resOf e H r := by
  unfold results1
  cases h : resOf e H r <;> simp [allS, h]
@[go_sem] theorem res_two (e H r s) : results1 e H [r, s] = (resOf e H r).bind fun a => (resOf e H s).map fun b => .tup [a, b] := by
  unfold results1
  cases h : resOf e H r <;> cases h' : resOf e H s <;> simp [allS, h, h']
@[go_sem] theorem res_three (e H r s q) : results1 e H [r, s, q] = (resOf e H r).bind fun a => (resOf e H s).bind fun b => (resOf e H q).map fun c => .tup [a, b, c] := by
  unfold results1
  cases h1 : resOf e H r <;> cases h2 : resOf e H s <;> cases h3 : resOf e H q <;> simp [allS, h1, h2, h3]
@[go_sem] theorem res_nil (e H) : results1 e H [] = some (.tup []) := by simp [results1, allS]
@[go_sem] theorem ro_tmp (e H t) : resOf e H (.tmp t) = some (get e t) := Eq.trans rfl rfl
@[go_sem] theorem ro_cell (e H t ag n) : resOf e H (.cell t ag n) = sload ag n H (get e t) := Eq.trans rfl rfl
@[go_sem] theorem fz_int (N H d k n) : frz N H (d + 1) (.int k n) = some (.int k n) := by simp [frz]
@[go_sem] theorem fz_bool (N H d b) : frz N H (d + 1) (.bool b) = some (.bool b) := by simp [frz]
@[go_sem] theorem fz_lst (N H d z L f) : frz N H (d + 1) (.lst z L f) = some (.lst z L f) := by simp [frz]
@[go_sem] theorem fz_str (N H d s) : frz N H (d + 1) (.str s) = some (.str s) := by simp [frz, SV.refs]
@[go_sem] theorem fz_agg (N H d cs) : frz N H (d + 1) (.agg cs) = (allS (cs.map (frz N H d))).map .agg := by simp [frz]
@[go_sem] theorem fz_tup (N H d cs) : frz N H (d + 1) (.tup cs) = (allS (cs.map (frz N H d))).map .tup := by simp [frz]
@[go_sem] theorem as_nil {A : Type} : allS ([] : List (Option A)) = some [] := Eq.trans rfl rfl
@[go_sem] theorem as_some {A : Type} (a : A) (r) : allS (some a :: r) = (allS r).map (a :: ·) := Eq.trans rfl rfl
attribute [go_sem] depth1
theorem iter1_more {f : Env × Heap → Option Out} : ∀ (n m : Nat) (s : Env × Heap) (o : Out), iter1 f n s = some o → n ≤ m → iter1 f m s = some o
  | 0, _, s, o, h, _ => by cases h
  | n + 1, 0, s, o, h, hm => by omega
  | n + 1, m + 1, s, o, h, hm => by
    have e : ∀ n, iter1 f (n + 1) s = match f s with | some (.normal, s') => iter1 f n s' | r => r := fun n => rfl
    rw [e] at h ⊢
    cases hf : f s with
    | none => rw [hf] at h; exact h
    | some r =>
      obtain ⟨x, s'⟩ := r
      rw [hf] at h
      cases x with
      | normal => exact iter1_more n m s' o h (by omega)
      | exit id => exact h
      | ret => exact h
theorem loop1_of {f : Env × Heap → Option Out} {s : Env × Heap} {o : Out} {n : Nat} (h : iter1 f n s = some o) : loop1 f s = some o := by
  unfold loop1
  have hex : ∃ n, (iter1 f n s).isSome := ⟨n, by simp [h]⟩
  rw [dif_pos hex]
  have h1 := Classical.choose_spec hex
  generalize Classical.choose hex = m at h1
  obtain ⟨o', ho'⟩ := Option.isSome_iff_exists.1 h1
  have h2 := iter1_more _ (max n m) _ _ h (Nat.le_max_left _ _)
  have h3 := iter1_more _ (max n m) _ _ ho' (Nat.le_max_right _ _)
  rw [h2] at h3
  rw [ho', h3]
theorem loop_in {R : Type} {f : Env × Heap → Option Out} {s : Env × Heap} {k : Out → Option R} {t : Tok k} {r : Option R} (o : Out) (h : loop1 f s = some o) (hk : k o = r) : onSome (loop1 f s) k t = r := by
  rw [h]; exact hk
theorem roundF_eq (p N H0 rec a e H) : roundF p N H0 rec a (e, H) = onSome (head1 p N H0 (e, H)) (fun s => runK rec (fun x e H => some (x, e, H)) a [] s.1 s.2 ()) () := by
  unfold roundF
  cases head1 p N H0 (e, H) <;> rfl
attribute [go_sem] List.length_nil List.length_cons List.nil_append List.cons_append List.append_nil List.map_cons List.map_nil List.getElem?_cons_zero List.getElem?_cons_succ List.set_cons_zero List.set_cons_succ
  List.take_succ_cons List.take_zero List.take_nil List.drop_succ_cons List.drop_zero List.drop_nil List.replicate_succ List.replicate_zero List.flatten_cons List.flatten_nil List.isEmpty_nil List.isEmpty_cons
  Option.map_some Option.map_none Option.bind_some Option.bind_none decide_true decide_false Bool.and_true Bool.true_and Bool.and_false Bool.false_and Bool.or_true Bool.true_or Bool.or_false Bool.false_or Bool.not_true Bool.not_false Bool.not_not
  beq_self_eq_true beq_true beq_false Nat.add_zero Nat.zero_add Nat.max_self Nat.le_refl Nat.zero_le Nat.sub_zero Int.toNat_natCast List.drop_length List.reverse_cons List.reverse_nil List.zip_cons_cons List.zip_nil_right
@[go_sem] theorem fork_not {R : Type} (b : Bool) (x y : R) (t : Tok (x, y)) : fork (!b) x y t = fork b y x () := by cases b <;> rfl
@[go_sem] theorem min_zero (n : Nat) : min 0 n = 0 := Nat.zero_min n
@[go_sem] theorem onSome_none {A R : Type} (f : A → Option R) (t : Tok f) : onSome none f t = none := Eq.trans rfl rfl
@[go_sem] theorem hide1_nil (N l) : hide1 N [] l = l := Eq.trans rfl rfl
def w64 (n : Int) : Int := IntKind.wrap .i64 n
@[go_sem] theorem w64_fold (n : Int) : IntKind.wrap .i64 n = w64 n := rfl
theorem w64_id {n : Int} (h1 : -9223372036854775808 ≤ n) (h2 : n ≤ 9223372036854775807) : w64 n = n := by
  unfold w64
  simp only [IntKind.wrap, IntKind.bits, IntKind.signed, Bool.true_and, ge_iff_le, decide_eq_true_eq]
  split <;> omega
@[go_sem] theorem sb_nes (a b) : sbin .neq (.str a) (.str b) = some (.bool (!decide (a = b))) := Eq.trans rfl rfl
@[go_sem] theorem sb_adds (a b) : sbin .add (.str a) (.str b) = bif decide (a.size + b.size ≤ 4611686018427387904) then some (.str (a ++ b)) else none := Eq.trans rfl rfl
attribute [go_sem] List.map_cons List.map_nil
section
variable (rec : Rec) (e : Env) (H : Heap)
@[go_sem] theorem st_mkmap : step1 rec e H .mkmap = some (.mp H.bl.length, hnew H (.map [])) := Eq.trans rfl rfl
@[go_sem] theorem st_mupd (t x k v) : step1 rec e H (.mupd t x k v) = smupd t H (ev e k) (ev e v) (ev e x) := Eq.trans rfl rfl
@[go_sem] theorem st_mlook (t ok z x k) : step1 rec e H (.mlook t ok z x k) = smlook t ok z H (ev e k) (ev e x) := Eq.trans rfl rfl
def mupdB (t : LK) (H : Heap) (b : Nat) (k v : SV) : Option SBlk → Option (SV × Heap)
  | some (.map es) => bif isKey k && v.ok1 then (mfind t k es 0).bind fun r => (hset H b (.map (mput k v es r)) v.refs).map (.undef, ·) else none
  | _ => none
def mlookB (t : LK) (ok : Bool) (z : SV) (H : Heap) (k : SV) : Option SBlk → Option (SV × Heap)
  | some (.map es) => bif isKey k then (mfind t k es 0).map fun r => (mlookR ok z r, H) else none
  | _ => none
where mlookR (ok : Bool) (z : SV) : Option (Nat × SV) → SV
  | some (_, v) => bif ok then .tup [v, .bool true] else v
  | none => bif ok then .tup [z, .bool false] else z
@[go_sem] theorem smupd_mp (t k v b) : smupd t H k v (.mp b) = mupdB t H b k v (hget H b) := by
  simp only [smupd]
  generalize hget H b = o
  cases o with
  | none => rfl
  | some x => cases x <;> rfl
@[go_sem] theorem smlook_mp (t ok z k b) : smlook t ok z H k (.mp b) = mlookB t ok z H k (hget H b) := by
  simp only [smlook]
  generalize hget H b = o
  cases o with
  | none => rfl
  | some x =>
    cases x with
    | map es =>
      simp only [mlookB]
      cases isKey k
      · rfl
      · simp only [cond_true]
        congr 1
    | _ => rfl
@[go_sem] theorem mupdB_map (t b k v es) : mupdB t H b k v (some (.map es)) = bif isKey k && v.ok1 then (mfind t k es 0).bind fun r => (hset H b (.map (mput k v es r)) v.refs).map (.undef, ·) else none := Eq.trans rfl rfl
@[go_sem] theorem mlookB_map (t ok z k es) : mlookB t ok z H k (some (.map es)) = bif isKey k then (mfind t k es 0).map fun r => (mlookB.mlookR ok z r, H) else none := Eq.trans rfl rfl
@[go_sem] theorem mlookR_some (ok z i v) : mlookB.mlookR ok z (some (i, v)) = bif ok then .tup [v, .bool true] else v := Eq.trans rfl rfl
@[go_sem] theorem mfind_nil (t k i) : mfind t k [] i = some none := Eq.trans rfl rfl
@[go_sem] theorem mfind_cons (t k q v es i) : mfind t k ((q, v) :: es) i = (sameK t k q).bind fun b => bif b then some (some (i, v)) else mfind t k es (i + 1) := Eq.trans rfl rfl
@[go_sem] theorem sameK_int (k a b) : sameK .i (.int k a) (.int k b) = some (decide (a = b)) := by
  simp only [sameK, beq_self_eq_true, cond_true]; rfl
@[go_sem] theorem isKey_int (k n) : isKey (.int k n) = true := Eq.trans rfl rfl
@[go_sem] theorem mput_none (k v es) : mput k v es none = es ++ [(k, v)] := Eq.trans rfl rfl
@[go_sem] theorem ok1_fn (f cs) : SV.ok1 (.fn f cs) = true := Eq.trans rfl rfl
end
end Go.Sh
