/-
  THE SHADOW MACHINE, PART E: the operations that call nothing: what the shadow machine says, the model does.
-/
import Derived.Test.YteohbocjhfcbdaaShD
import Derived.Laws.Sem
import Derived.Laws.Cells
import Derived.Laws.Entries
import Derived.ChangeKeysEq
namespace Go.Sh
set_option linter.unusedSectionVars false
set_option linter.unnecessarySimpa false
set_option linter.unusedVariables false
set_option linter.unusedSimpArgs false
section
variable {C : Ctx} {ρ : Map} {F : Nat → Prop} {H H' : Heap} {w w' : World} {e : Env} {a : Act}
theorem bif_some {A : Type} {c : Bool} {x : Option A} {y : A} (h : (bif c then x else none) = some y) : c = true ∧ x = some y := by
  cases c with
  | true => exact ⟨rfl, h⟩
  | false => cases h
theorem allS_some {A : Type} {l : List (Option A)} {r : List A} (h : allS l = some r) : l = r.map some := by
  induction l generalizing r with
  | nil => simp [allS] at h; subst h; rfl
  | cons x l ih =>
    cases x with
    | none => simp [allS] at h
    | some x =>
      simp only [allS, Option.map_eq_some_iff] at h
      obtain ⟨r', h1, rfl⟩ := h
      rw [ih h1]; rfl
theorem allS_map {A B : Type} {f : A → Option B} {l : List A} {r : List B} (h : allS (l.map f) = some r) :
    r.length = l.length ∧ ∀ (j : Nat) x y, l[j]? = some x → r[j]? = some y → f x = some y := by
  have h1 := allS_some h
  have hl : r.length = l.length := by have := congrArg List.length h1; simpa using this.symm
  refine ⟨hl, fun j x y hx hy => ?_⟩
  have h2 := congrArg (·[j]?) h1
  simp [hx, hy] at h2
  exact h2
/-! ### Operands -/
theorem cval_vr : ∀ (d : Nat) {v : Value} {s : SV}, cval d v = some s → VR w F ρ s v := by
  intro d
  induction d with
  | zero => intro v s h; simp [cval] at h
  | succ d ih =>
    intro v s h
    unfold cval at h
    split at h
    · cases h; exact .bool _
    · cases h; exact .int _ _
    · cases h; exact .str _
    · cases h; exact .nilPtr
    · cases h
      exact VR.lst (L := []) (fun _ _ => undef) (Nat.le_refl _) (fun _ => rfl) (by simp) (.inl rfl) (by simp) (by simp)
    · cases h; exact .nilFn
    · rename_i cs
      simp only [Option.bind_eq_some_iff] at h
      obtain ⟨r, h1, h2⟩ := h
      by_cases hok : r.all SV.ok1 = true
      · rw [hok] at h2
        simp only [cond_true, Option.some.injEq] at h2
        subst h2
        obtain ⟨hl, hp⟩ := allS_map h1
        refine .agg (by simpa using hl) (fun j c hj => ?_) (fun j c v hj hv => ih (hp j v c (by simpa using hv) hj))
        exact List.all_eq_true.1 hok c (List.mem_of_getElem? hj)
      · rw [Bool.not_eq_true] at hok; rw [hok] at h2; simp at h2
    · cases h
theorem copd_vr {x : Operand} {y : Opd} (h : copd x = some y) (he : ER w F ρ e a.tmps) : VR w F ρ (ev e y) (a.eval x) := by
  unfold copd at h
  split at h
  · cases h; exact he _
  · simp only [Option.map_eq_some_iff] at h
    obtain ⟨s, h1, rfl⟩ := h
    exact cval_vr 2 h1
  · cases h
    exact .fn rfl (by simp)
  · cases h
theorem copds_vr {xs : Array Operand} {ys : List Opd} (h : copds xs = some ys) (he : ER w F ρ e a.tmps) :
    (ys.map (ev e)).length = xs.size ∧ ∀ (j : Nat) c v, (ys.map (ev e))[j]? = some c → (xs.map a.eval)[j]? = some v → VR w F ρ c v := by
  obtain ⟨hl, hp⟩ := allS_map h
  refine ⟨by simpa using hl, fun j c v hc hv => ?_⟩
  simp at hc hv
  obtain ⟨y, hy, rfl⟩ := hc
  obtain ⟨x, hx, rfl⟩ := hv
  exact copd_vr (hp j x y (by simpa using hx) hy) he
/-! ### What an operation leaves -/
def Done (C : Ctx) (ρ : Map) (F : Nat → Prop) (H : Heap) (w : World) (v : SV) (H' : Heap) (val : Value) (w' : World) : Prop :=
  ∃ ρ' F', VR w' F' ρ' v val ∧ HR C ρ' F' H' w' ∧ Ext C ρ F H w ρ' F' H' w'
theorem Done.same (hr : HR C ρ F H w) {v : SV} {val : Value} (hv : VR w F ρ v val) : Done C ρ F H w v H val w := ⟨ρ, F, hv, hr, Ext.refl _ _ _ _⟩
/-- The operation runs, and yields this. -/
def Yields1 (P : Program) (w : World) (s : Sem Next) (val : Value) (w' : World) : Prop := s.run P w = .ok (.value val) w' ∨ (s.run P w = .ok .skip w' ∧ val = undef)
def OpOK (C : Ctx) (s : Sem Next) (ρ : Map) (F : Nat → Prop) (H : Heap) (w : World) (v : SV) (H' : Heap) : Prop :=
  ∃ val w', Yields1 C.P w s val w' ∧ Done C ρ F H w v H' val w'
theorem OpOK.val {s : Sem Value} (hr : HR C ρ F H w) {v : SV} {val : Value} (hs : s.run C.P w = .ok val w) (hv : VR w F ρ v val) :
    OpOK C (do pure (.value (← s))) ρ F H w v H :=
  ⟨val, w, .inl (by simp [hs, pure, Sem.run]), Done.same hr hv⟩
theorem OpOK.valD {s : Sem Value} {v : SV} {val : Value} (hs : s.run C.P w = .ok val w') (hd : Done C ρ F H w v H' val w') :
    OpOK C (do pure (.value (← s))) ρ F H w v H' :=
  ⟨val, w', .inl (by simp [hs, pure, Sem.run]), hd⟩
/-! ### Cells -/
theorem vr_agg_cells {cs : List SV} {v : Value} (h : VR w F ρ (.agg cs) v) : ∃ vs, v = .agg vs ∧ cs.length = vs.size ∧ CellsR w F ρ vs 0 cs := by
  cases h with
  | agg hn h1 hv =>
    rename_i vs
    refine ⟨vs, rfl, hn, fun j c hj => ?_⟩
    have hlt := (List.getElem?_eq_some_iff.1 hj).1
    have hv' : vs[j]? = some vs[j] := Array.getElem?_eq_getElem (by omega)
    exact ⟨vs[j], by simpa using hv', hv j c _ hj hv', h1 j c hj⟩
theorem cells1_vr {c : SV} {cs : List SV} {v : Value} (h : cells1 c = some cs) (hv : VR w F ρ c v) : cs.length = v.cells.size ∧ CellsR w F ρ v.cells 0 cs ∧ c.refs = SV.refs.refsL cs := by
  unfold cells1 at h
  split at h
  · cases h
    obtain ⟨vs, rfl, h1, h2⟩ := vr_agg_cells hv
    exact ⟨h1, h2, rfl⟩
  · rename_i hna
    by_cases hok : c.ok1 = true
    · rw [hok] at h
      simp only [cond_true, Option.some.injEq] at h
      subst h
      have h1 := hv.one hok
      have hc : v.cells = #[v] := by cases v <;> simp_all [Value.cells, one1]
      rw [hc]
      refine ⟨rfl, fun j d hj => ?_, by simp [SV.refs.refsL]⟩
      cases j with
      | zero => simp at hj; subst hj; exact ⟨v, rfl, hv, hok⟩
      | succ j => simp at hj
    · rw [Bool.not_eq_true] at hok; rw [hok] at h; simp at h
theorem part1_vr {ag : Bool} {n o at_ : Nat} {cs : List SV} {s : SV} {vs : Array Value} (h : part1 ag n cs o = some s) (hc : CellsR w F ρ vs at_ cs)
    (hsz : at_ + cs.length ≤ vs.size) : (ag = true → VR w F ρ s (.agg (vs.extract (at_ + o) (at_ + o + n)))) ∧ (ag = false → ∃ v, vs[at_ + o]? = some v ∧ VR w F ρ s v) := by
  unfold part1 at h
  cases ag with
  | false =>
    refine ⟨by simp, fun _ => ?_⟩
    simp only [cond_false] at h
    obtain ⟨v, h1, h2, _⟩ := hc o s h
    exact ⟨v, h1, h2⟩
  | true =>
    refine ⟨fun _ => ?_, by simp⟩
    by_cases hle : o + n ≤ cs.length
    · simp [hle] at h
      subst h
      have hj : ∀ j c, ((cs.drop o).take n)[j]? = some c → j < n ∧ cs[o + j]? = some c := by
        intro j c hj
        rw [List.getElem?_take] at hj
        split at hj
        · rw [List.getElem?_drop] at hj; exact ⟨by assumption, hj⟩
        · cases hj
      refine .agg (by simp; omega) (fun j c h => ?_) (fun j c v h hv => ?_)
      · obtain ⟨_, h2⟩ := hj j c h
        obtain ⟨_, _, _, h3⟩ := hc _ c h2
        exact h3
      · obtain ⟨hlt, h2⟩ := hj j c h
        obtain ⟨v', h3, h4, _⟩ := hc _ c h2
        rw [Array.getElem?_extract] at hv
        have : v' = v := by
          split at hv
          · rw [← Nat.add_assoc] at h3; rw [h3] at hv; exact Option.some.inj hv
          · cases hv
        exact this ▸ h4
    · simp [hle] at h
end
end Go.Sh
