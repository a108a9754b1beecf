/-
  THE SHADOW MACHINE, PART U: regions that are carried out from front to back.
-/
import Derived.Test.YteohbocjhfcbdaaShTa
namespace Go.Sh
set_option linter.unusedSectionVars false
set_option linter.unusedVariables false
set_option linter.unusedSimpArgs false
set_option linter.unnecessarySimpa false
/-- The deferred calls of an activation: only marks, of blocks that nobody owns. -/
def MarkAt (ρ : Map) (F : Nat → Prop) (H : Heap) (w : World) (lo D : Nat) : Prop := lo ≤ D ∧ w.heap[D]? = some (.deferred (some [])) ∧ ¬ F D ∧ ∀ b l, Own ρ H b l → l.blk ≠ D
def Marks (ρ : Map) (F : Nat → Prop) (H : Heap) (w : World) (lo : Nat) (ds : List Deferred) : Prop := lo ≤ w.heap.size ∧ ∃ Ds : List Nat, ds.map (·.target) = Ds.map Target.collected ∧ Ds.Nodup ∧
  ∀ D ∈ Ds, MarkAt ρ F H w lo D
/-- Where an activation began. -/
structure Base where
  ρ : Map
  F : Nat → Prop
  H : Heap
  w : World
  lo : Nat
/-- A shadow state stands for an activation's. -/
def Rel (C : Ctx) (nt : Nat) (B : Base) (e : Env) (H : Heap) (a : Act) (w : World) : Prop :=
  ∃ ρ F, HR C ρ F H w ∧ ER w F ρ e a.tmps ∧ Ext C B.ρ B.F B.H B.w ρ F H w ∧ nt ≤ a.tmps.size ∧ Marks ρ F H w B.lo a.defers
section
variable {C : Ctx} {ρ ρ' : Map} {F F' : Nat → Prop} {H H' : Heap} {w w' : World} {e : Env} {a : Act} {s c d : SV} {B : Base} {nt : Nat}
theorem MarkAt.ext {lo D : Nat} (hx : Ext0 C ρ F H w ρ' F' H' w') (h : MarkAt ρ F H w lo D) : MarkAt ρ' F' H' w' lo D := by
  obtain ⟨k1, k2, k3, k4⟩ := h
  have hlt : D < w.heap.size := (Array.getElem?_eq_some_iff.1 k2).1
  refine ⟨k1, (hx.frame D hlt (fun b l ho _ => k4 b l ho)).trans k2, fun hF => ?_, fun b l ho => ?_⟩
  · rcases hx.new D hF with h | h | ⟨b, l, ho, _, e⟩
    · exact k3 h
    · omega
    · exact k4 b l ho e
  · rcases hx.old b l ho with h4 | ⟨l0, h4, h5⟩
    · omega
    · rw [← h5]; exact k4 b l0 h4
theorem Marks.ext {lo : Nat} (hx : Ext0 C ρ F H w ρ' F' H' w') {ds : List Deferred} (h : Marks ρ F H w lo ds) : Marks ρ' F' H' w' lo ds := by
  obtain ⟨h0, Ds, h1, h2, h3⟩ := h
  exact ⟨Nat.le_trans h0 hx.size, Ds, h1, h2, fun D hD => (h3 D hD).ext hx⟩
theorem Marks.less {lo : Nat} (h : ∀ b l, Own ρ' H' b l → Own ρ H b l) {ds : List Deferred} (hm : Marks ρ F H w lo ds) : Marks ρ' F H' w lo ds := by
  obtain ⟨h0, Ds, h1, h2, h3⟩ := hm
  exact ⟨h0, Ds, h1, h2, fun D hD => let ⟨k1, k2, k3, k4⟩ := h3 D hD; ⟨k1, k2, k3, fun b l ho => k4 b l (h b l ho)⟩⟩
theorem er_put (he : ER w F ρ e a.tmps) {d : Nat} {val : Value} (hd : d < a.tmps.size) (hv : VR w F ρ s val) : ER w F ρ ((d, s) :: e) (a.tmps.setIfInBounds d val) := by
  intro t
  simp only [get]
  by_cases h : t = d
  · subst h
    simp [hd, hv]
  · have h1 : (t == d) = false := by simp [h]
    rw [h1]
    simp only [cond_false]
    have : (a.tmps.setIfInBounds d val).getD t undef = a.tmps.getD t undef := by
      simp only [Array.getD_eq_getD_getElem?, Array.getElem?_setIfInBounds_ne (Ne.symm h)]
    rw [this]
    exact he t
theorem Rel.step (h : Rel C nt B e H a w) {P : Map → (Nat → Prop) → Prop} : ∃ ρ F, HR C ρ F H w ∧ ER w F ρ e a.tmps ∧ ∀ (dst : Option Nat) s H' val w', (∀ d, dst = some d → d < nt) → Done C ρ F H w s H' val w' → Rel C nt B (bind1 e dst s) H' (a.put dst val) w' := by
  obtain ⟨ρ, F, h1, h2, h3, h4, h5⟩ := h
  refine ⟨ρ, F, h1, h2, fun dst s H' val w' hd ⟨ρ', F', k1, k2, k3⟩ => ⟨ρ', F', k2, ?_, h3.trans k3, ?_, ?_⟩⟩
  · cases dst with
    | none => exact k3.er h1 h2
    | some d => exact er_put (k3.er h1 h2) (Nat.lt_of_lt_of_le (hd d rfl) h4) k1
  · cases dst with
    | none => exact h4
    | some d => simpa [Act.put] using h4
  · have : (a.put dst val).defers = a.defers := by cases dst <;> rfl
    rw [this]
    exact h5.ext k3.toExt0
theorem vr_skp {v : Value} (h : VR w F ρ .skp v) : v = undef := by cases h; rfl
theorem getD_bool {t : Array Value} {i : Nat} {b : Bool} (h : t.getD i undef = .bool b) : t[i]? = some (.bool b) := by
  rw [Array.getD_eq_getD_getElem?] at h
  cases hi : t[i]? with
  | none => rw [hi] at h; cases h
  | some v => rw [hi] at h; simp at h; rw [h]
theorem yielded_und {ops : Array Oper} {t : Array Value} {j i : Nat} (ht : ops[j]?.bind (·.dst) = some i) (htv : t.getD i undef = undef) : yielded ops t j = none := by
  rw [Array.getD_eq_getD_getElem?] at htv
  simp only [yielded, ht, Option.bind_some]
  cases hi : t[i]? with
  | none => rfl
  | some v => rw [hi] at htv; simp only [Option.getD_some] at htv; rw [htv]; rfl
theorem runOps_ok {f : FuncId} {rec : Rec} (hrec : RecOK C rec) {ops : Array Oper} {ro : Option Nat} {n : Nat} {Q : Exit → Act → World → Prop} {R : Type} {k : Env → Heap → Option R} {r : R}
    (hk : ∀ e' H' a' w', k e' H' = some r → Rel C nt B e' H' a' w' → Q .normal a' w') :
    ∀ (j i : Nat) (l : List Oper1), i + j = ops.size → allS ((ops.toList.drop i).map (coper C.P C.pol f nt ops)) = some l → ∀ e H a w, runOps rec l e H k () = some r → Rel C nt B e H a w → wpOpsIn (WF ro) n C.P ops Q (List.range' i j) a w := by
  intro j
  induction j with
  | zero =>
    intro i l hi hl e H a w h hrel
    rw [List.drop_of_length_le (by simp; omega)] at hl
    simp [allS] at hl
    subst hl
    exact hk e H a w h hrel
  | succ j ih =>
    intro i l hi hl e H a w h hrel
    have hlt : i < ops.size := by omega
    rw [List.drop_eq_getElem_cons (by simpa using hlt), List.map_cons] at hl
    cases hco : coper C.P C.pol f nt ops ops.toList[i] with
    | none => rw [hco] at hl; simp [allS] at hl
    | some o1 =>
      rw [hco] at hl
      simp only [allS, Option.map_eq_some_iff] at hl
      obtain ⟨l', hl', rfl⟩ := hl
      have ih' := ih (i + 1) l' (by omega) hl'
      have hoi : ops[i]? = some ops.toList[i] := by simp [hlt]
      generalize ops.toList[i] = o at *
      simp only [List.range'_succ, wpOpsIn, hoi]
      unfold coper at hco
      replace hco := bif_none hco
      obtain ⟨hdst, hco⟩ := hco
      have hd : ∀ d, o.dst = some d → d < nt := fun d hd => by
        rw [hd] at hdst; simpa using hdst
      obtain ⟨ρ, F, hr, he, hput⟩ := hrel.step (P := fun _ _ => True)
      have hgo : ∀ op1, op1 = lit1 (match o.dst with | some d => C.pol.lit f d | none => false) ((cop C.P o.op).getD .bad) → onSome (step1 rec e H op1) (fun r => runOps rec l' (bind1 e o.dst r.1) r.2 k ()) () = some r → o.wpIn (WF ro) n C.P a w (wpOpsIn (WF ro) n C.P ops Q (List.range' (i + 1) j)) Q := by
        intro op1 hop h
        cases hs : step1 rec e H op1 with
        | none => rw [hs] at h; cases h
        | some p =>
          rw [hs] at h
          obtain ⟨s, H'⟩ := p
          simp only [onSome] at h
          exact step1_lit hrec hop hs hr he (fun val w' hdn => ih' _ _ _ _ h (hput o.dst s H' val w' hd hdn))
      split at hco
      · rename_i hg
        cases hco
        simp only [runOps] at h
        have hw : Region.wanted o (yielded ops a.tmps) = true := by simp [Region.wanted, hg]
        rw [hw, if_pos rfl]
        exact hgo _ rfl h
      · rename_i j' want hg
        split at hco
        · rename_i t ht
          cases hco
          simp only [runOps] at h
          unfold onGuard at h
          split at h
          · rename_i b hb
            have htv : a.tmps.getD t undef = .bool b := by
              have := he t
              rw [hb] at this
              exact vr_bool this
            have hy : yielded ops a.tmps j' = some b := by
              simp only [yielded, ht, Option.bind_some, getD_bool htv]
            unfold fork at h
            dsimp only at h
            cases hbw : (b == want) with
            | true =>
              rw [hbw] at h
              have hw : Region.wanted o (yielded ops a.tmps) = true := by
                simp only [Region.wanted, hg, hy]; simpa using hbw
              rw [hw, if_pos rfl]
              exact hgo _ rfl h
            | false =>
              rw [hbw] at h
              have hw : ¬ Region.wanted o (yielded ops a.tmps) = true := by
                simp only [Region.wanted, hg, hy]; simpa using hbw
              rw [if_neg hw]
              exact ⟨fun _ _ => trivial, ih' _ _ _ _ h (hput o.dst .skp H undef w hd (Done.same hr .skp))⟩
          · rename_i hb
            have htv : a.tmps.getD t undef = undef := by
              have := he t
              rw [hb] at this
              exact vr_skp this
            have hy : yielded ops a.tmps j' = none := by
              rw [Array.getD_eq_getD_getElem?] at htv
              simp only [yielded, ht, Option.bind_some]
              cases hi : a.tmps[t]? with
              | none => rfl
              | some v => rw [hi] at htv; simp only [Option.getD_some] at htv; rw [htv]; rfl
            have hw : ¬ Region.wanted o (yielded ops a.tmps) = true := by
              simp only [Region.wanted, hg, hy]; simp
            rw [if_neg hw]
            exact ⟨fun _ _ => trivial, ih' _ _ _ _ h (hput o.dst .skp H undef w hd (Done.same hr .skp))⟩
          · cases h
        · cases hco
end
end Go.Sh
