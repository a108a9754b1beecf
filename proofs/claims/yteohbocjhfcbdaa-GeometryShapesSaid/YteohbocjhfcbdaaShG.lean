/-
  THE SHADOW MACHINE, PART G: each operation that calls nothing.
-/
import Derived.Test.YteohbocjhfcbdaaShF
namespace Go.Sh
set_option linter.unusedSectionVars false
set_option linter.unusedVariables false
set_option linter.unusedSimpArgs false
set_option linter.unnecessarySimpa false
section
variable {C : Ctx} {ρ : Map} {F : Nat → Prop} {H H' : Heap} {w : World} {e : Env} {a : Act} {s : SV}
theorem cells_one {v : Value} {cs : List SV} (h : CellsR w F ρ v.cells 0 cs) (hn : cs.length = v.cells.size) : ∀ x ∈ v.cells.toList, one1 x = true := by
  intro x hx
  obtain ⟨j, hj, rfl⟩ := List.mem_iff_getElem.1 hx
  simp at hj
  obtain ⟨v', h1, h2, h3⟩ := h j _ (List.getElem?_eq_getElem (by omega))
  have h4 : v' = v.cells.toList[j] := by
    rw [Nat.zero_add, Array.getElem?_eq_getElem hj] at h1
    simpa using (Option.some.inj h1).symm
  rw [← h4]
  exact h2.one h3
/-- Pushing one block of cells. -/
theorem push_box (hr : HR C ρ F H w) {cs : List SV} {vs : Array Value} {ty : TypeId} (hn : cs.length = vs.size) (hc : CellsR w F ρ vs 0 cs) :
    Done C ρ F H w (.ptr H.bl.length 0 0 0) (hnew H (.box cs)) (.pointer (some ⟨w.heap.size, 0, none⟩)) { w with heap := w.heap.push (.cells vs ty) } := by
  let l : Loc := { blk := w.heap.size, base := 0, cap := 0, esz := cs.length, ver := 0, virt := false, arr := false }
  have hh : ∀ B, B < w.heap.size → ({ w with heap := w.heap.push (.cells vs ty) } : World).heap[B]? = w.heap[B]? := fun B hB => by
    simp [Array.getElem?_push, Nat.ne_of_lt hB]
  have hk : Keeps F w ({ w with heap := w.heap.push (.cells vs ty) } : World) := fun B hB => hh B (hr.fro B hB)
  have hle : ρ.le (ρ.put H.bl.length l) := fun b l' h => ⟨l', by rw [Map.put_other _ _ (Nat.ne_of_lt (hr.dom b l' h))]; exact h, .inl rfl⟩
  have hp := hr.push (w' := { w with heap := w.heap.push (.cells vs ty) }) (by simp) hh (.box cs) l (fun _ => ⟨Nat.le_refl _, by simp [l]⟩)
    ⟨rfl, rfl, rfl, rfl, rfl, vs, ty, (0, 0), by simp [l], fun o ho => by simp, hn.symm, hc.mono hk (fun _ h => h) hle⟩
  exact ⟨_, F, .ptr (l := l) (Map.put_same _ _ _) (Nat.le_refl _) rfl (fun _ => ⟨rfl, by simp [l]⟩), hp.1, hp.2⟩
theorem ok_mov {x : Operand} {y : Opd} (hx : copd x = some y) (hr : HR C ρ F H w) (he : ER w F ρ e a.tmps) : OpOK C (pure (.value (a.eval x))) ρ F H w (ev e y) H :=
  ⟨a.eval x, w, .inl rfl, Done.same hr (copd_vr hx he)⟩
theorem vr_bool {b : Bool} {v : Value} (h : VR w F ρ (.bool b) v) : v = .bool b := by cases h; rfl
theorem vr_int {k : IntKind} {n : Int} {v : Value} (h : VR w F ρ (.int k n) v) : v = .int k n := by cases h; rfl
theorem vr_str {t : ByteArray} {v : Value} (h : VR w F ρ (.str t) v) : v = .string t := by cases h; rfl
theorem ok_pick {c x y : Operand} {c' x' y' : Opd} (hc : copd c = some c') (hx : copd x = some x') (hy : copd y = some y') (hr : HR C ρ F H w) (he : ER w F ρ e a.tmps)
    (h : spick (ev e c') (ev e x') (ev e y') = some s) : OpOK C (do pure (.value (if ← asBool (a.eval c) then a.eval x else a.eval y))) ρ F H w s H := by
  have h1 := copd_vr hc he
  have h2 := copd_vr hx he
  have h3 := copd_vr hy he
  generalize ev e c' = c1, ev e x' = x1, ev e y' = y1 at *
  have key : ∀ t, c1 = .bool t → VR w F ρ s (if t then a.eval x else a.eval y) → OpOK C (do pure (.value (if ← asBool (a.eval c) then a.eval x else a.eval y))) ρ F H w s H := by
    intro t ht hv
    subst ht
    rw [vr_bool h1]
    exact ⟨_, w, .inl rfl, Done.same hr hv⟩
  have ht : ∃ t, c1 = .bool t := by
    unfold spick at h
    split at h
    · exact ⟨_, rfl⟩
    · exact ⟨_, rfl⟩
    · cases h
  obtain ⟨t, rfl⟩ := ht
  refine key t rfl ?_
  unfold spick at h
  split at h
  · rename_i h0 
    cases h
    cases h0
    rw [vr_bool h2, vr_bool h3]
    cases t <;> exact .bool _
  · rename_i t' heq _
    cases heq
    cases t <;> simp at h <;> subst h <;> assumption
  · cases h
theorem ok_box {t : TypeId} {x : Operand} {y : Opd} (hx : copd x = some y) (hr : HR C ρ F H w) (he : ER w F ρ e a.tmps) {cs : List SV} (h : cells1 (ev e y) = some cs) :
    OpOK C (do pure (.value (← Instr.box t (a.eval x)))) ρ F H w (.ptr H.bl.length 0 0 0) (hnew H (.box cs)) := by
  obtain ⟨h1, h2, _⟩ := cells1_vr h (copd_vr hx he)
  refine OpOK.valD (w' := { w with heap := w.heap.push (.cells (a.eval x).cells t) }) ?_ (push_box hr h1 h2)
  simp [Instr.box, newVar, newRow, newObj, Sem.run]
theorem czero_vr {t : TypeId} {z : List SV} (h : czero C.P t = some z) : ∃ i v, C.P.info? t = some i ∧ i.zero = some v ∧ z.length = v.cells.size ∧ CellsR w F ρ v.cells 0 z := by
  unfold czero at h
  split at h
  · rename_i i hi
    split at h
    · rename_i v hv
      simp only [Option.bind_eq_some_iff] at h
      obtain ⟨r, h1, h2⟩ := h
      by_cases hok : r.all SV.ok1 = true
      · rw [hok] at h2
        simp only [cond_true, Option.some.injEq] at h2
        subst h2
        obtain ⟨hl, hp⟩ := allS_map h1
        refine ⟨i, v, hi, hv, by simpa using hl, fun j c hj => ?_⟩
        have hlt := (List.getElem?_eq_some_iff.1 hj).1
        have hlt' : j < v.cells.size := by simp at hl; omega
        have hv' : v.cells[j]? = some v.cells[j] := Array.getElem?_eq_getElem hlt'
        exact ⟨v.cells[j], by simpa using hv', cval_vr 1 (hp j _ c (by simpa using hv') hj), List.all_eq_true.1 hok c (List.mem_of_getElem? hj)⟩
      · rw [Bool.not_eq_true] at hok; rw [hok] at h2; simp at h2
    · cases h
  · cases h
theorem run_zeroValue' {t : TypeId} {i : TypeInfo} {v : Value} (hi : C.P.info? t = some i) (hz : i.zero = some v) : (zeroValue t).run C.P w = .ok v w := by
  unfold zeroValue
  simp only [Sem.run_bind, run_typeInfo w hi, Result.andThen, hz]
  rfl
theorem ok_alloc {t : TypeId} {z : List SV} (hz : czero C.P t = some z) (hr : HR C ρ F H w) :
    OpOK C (do pure (.value (← Instr.alloc t true (.tuple #[])))) ρ F H w (.ptr H.bl.length 0 0 0) (hnew H (.box z)) := by
  obtain ⟨i, v, hi, hv, h1, h2⟩ := czero_vr (w := w) (F := F) (ρ := ρ) hz
  refine OpOK.valD (w' := { w with heap := w.heap.push (.cells v.cells t) }) ?_ (push_box hr h1 h2)
  simp [Instr.alloc, run_zeroValue' hi hv, newVar, newRow, newObj, Sem.run]
end
end Go.Sh
