/-
  THE SHADOW MACHINE, PART F: the model's readings and writings of rows of cells.
-/
import Derived.Test.YteohbocjhfcbdaaShE
namespace Go.Sh
set_option linter.unusedSectionVars false
set_option linter.unusedVariables false
set_option linter.unusedSimpArgs false
set_option linter.unnecessarySimpa false
section
variable {P : Program} {w : World}
theorem run_isAgg' {t : TypeId} {ag : Bool} (h : cag P t = some ag) : (isAgg t).run P w = .ok ag w := by
  unfold cag at h
  cases hu : P.underlying t with
  | none => rw [hu] at h; cases h
  | some d =>
    rw [hu] at h
    unfold isAgg
    simp only [Sem.run_bind, run_underlying hu, Result.andThen]
    cases d <;> simp at h <;> subst h <;> rfl
theorem run_sizeOf' {t : TypeId} {n : Nat} (h : csz P t = some n) : (sizeOf t).run P w = .ok n w := by
  unfold csz at h
  simp only [Option.map_eq_some_iff] at h
  obtain ⟨i, hi, rfl⟩ := h
  unfold sizeOf
  simp only [Sem.run_bind, run_typeInfo w hi, Result.andThen]
  rfl
theorem add_none (B o j : Nat) : (⟨B, o, none⟩ : Addr).add j = ⟨B, o + j, none⟩ := by unfold Addr.add; split <;> simp_all
theorem cell_at {B o : Nat} {vs : Array Value} {ty : TypeId} {fz : Nat × Nat} (h : w.heap[B]? = some (.cells vs ty fz)) : w.cell? ⟨B, o, none⟩ = vs[o]? := by
  simp [World.cell?, h]
/-- A variable read, its cells given by a function. -/
theorem run_loadVar_fn {t : TypeId} {ag : Bool} {n : Nat} (hag : cag P t = some ag) (hsz : csz P t = some n) {B o : Nat} (f : Nat → Value)
    (hc : ∀ j, j < (if ag then n else 1) → w.cell? ⟨B, o + j, none⟩ = some (f j)) :
    (loadVar t ⟨B, o, none⟩).run P w = .ok (if ag then .agg ((List.range n).map f).toArray else f 0) w := by
  unfold loadVar
  simp only [Sem.run_bind, run_isAgg' hag, Result.andThen]
  cases ag with
  | true =>
    simp only [if_true] at hc ⊢
    simp only [Sem.run_bind, run_sizeOf' hsz, Result.andThen, run_loadCells w ⟨B, o, none⟩ n f (fun j hj => by rw [add_none]; exact hc j hj)]
    rfl
  | false =>
    have := hc 0 (by simp)
    simp only [Nat.add_zero] at this
    simp only [Bool.false_eq_true, if_false, run_load, this]
theorem run_loadVar_at {t : TypeId} {ag : Bool} {n : Nat} (hag : cag P t = some ag) (hsz : csz P t = some n) {B o : Nat} {vs : Array Value} {ty : TypeId} {fz : Nat × Nat}
    (hb : w.heap[B]? = some (.cells vs ty fz)) (hle : o + (if ag then n else 1) ≤ vs.size) :
    (ag = true → (loadVar t ⟨B, o, none⟩).run P w = .ok (.agg (vs.extract o (o + n))) w) ∧ (ag = false → ∀ v, vs[o]? = some v → (loadVar t ⟨B, o, none⟩).run P w = .ok v w) := by
  have h := run_loadVar_fn (w := w) hag hsz (B := B) (o := o) (fun j => vs.getD (o + j) undef) (fun j hj => by
    rw [cell_at hb]
    have : o + j < vs.size := by omega
    simp [this])
  constructor
  · rintro rfl
    rw [h]
    simp only [if_true] at hle ⊢
    congr 2
    apply Array.ext
    · simp; omega
    · intro i h1 h2
      simp at h1
      have : o + i < vs.size := by omega
      simp [this]
  · rintro rfl v hv
    rw [h]
    simp [hv]
/-- A row of cells after a store. -/
def spl (vs : Array Value) (k : Nat) (xs : List Value) : Array Value := (vs.toList.take k ++ xs ++ vs.toList.drop (k + xs.length)).toArray
def setB (w : World) (B : Nat) (vs : Array Value) (ty : TypeId) (fz : Nat × Nat) : World := { w with heap := w.heap.setIfInBounds B (.cells vs ty fz) }
theorem setB_other {B B' : Nat} {vs : Array Value} {ty : TypeId} {fz : Nat × Nat} (h : B' ≠ B) : (setB w B vs ty fz).heap[B']? = w.heap[B']? := by
  simp [setB, Array.getElem?_setIfInBounds_ne (Ne.symm h)]
theorem setB_size {B : Nat} {vs : Array Value} {ty : TypeId} {fz : Nat × Nat} : (setB w B vs ty fz).heap.size = w.heap.size := by simp [setB]
theorem setB_same {B : Nat} {vs : Array Value} {ty : TypeId} {fz : Nat × Nat} (h : B < w.heap.size) : (setB w B vs ty fz).heap[B]? = some (.cells vs ty fz) := by
  simp [setB, h]
theorem spl_size {vs : Array Value} {k : Nat} {xs : List Value} (h : k + xs.length ≤ vs.size) : (spl vs k xs).size = vs.size := by
  simp [spl]; omega
theorem spl_get {vs : Array Value} {k : Nat} {xs : List Value} (h : k + xs.length ≤ vs.size) (j : Nat) :
    (spl vs k xs)[j]? = if j < k then vs[j]? else if j < k + xs.length then xs[j - k]? else vs[j]? := by
  unfold spl
  simp only [List.getElem?_toArray]
  rw [List.append_assoc, List.getElem?_append]
  have hl : (vs.toList.take k).length = k := by simp; omega
  rw [hl]
  split
  · rw [List.getElem?_take]; simp [*]
  · rw [List.getElem?_append]
    split
    · rw [if_pos (by omega)]
    · rw [if_neg (by omega), List.getElem?_drop]
      simp only [Array.getElem?_toList]
      congr 1; omega
theorem one_eq (v : Value) : one1 v = v.oneCell' := by cases v <;> rfl
theorem run_storeCells_spl (B o : Nat) (ty : TypeId) (fz : Nat × Nat) : ∀ (xs : List Value) (i : Nat) (vs : Array Value) (w : World), w.heap[B]? = some (.cells vs ty fz) → Thawed fz vs.size →
    o + i + xs.length ≤ vs.size → (∀ v ∈ xs, one1 v = true) → (storeCells ⟨B, o, none⟩ xs i).run P w = .ok () (setB w B (spl vs (o + i) xs) ty fz)
  | [], i, vs, w, hb, ht, hle, h1 => by
    have hB : B < w.heap.size := (Array.getElem?_eq_some_iff.1 hb).1
    have : spl vs (o + i) [] = vs := by simp [spl]
    rw [this]
    simp only [storeCells]
    have : setB w B vs ty fz = w := by
      unfold setB
      have : w.heap.setIfInBounds B (.cells vs ty fz) = w.heap := by
        apply Array.ext_getElem?
        intro j
        by_cases e : B = j
        · subst e; rw [hb]; simp [hB]
        · rw [Array.getElem?_setIfInBounds_ne e]
      rw [this]
    rw [this]; rfl
  | v :: r, i, vs, w, hb, ht, hle, h1 => by
    have hB : B < w.heap.size := (Array.getElem?_eq_some_iff.1 hb).1
    simp only [List.length_cons] at hle
    have hlt : o + i < vs.size := by omega
    have hcell : w.cell? ⟨B, o + i, none⟩ = some vs[o + i] := by rw [cell_at hb]; simp [hlt]
    have hfz : w.frozen? ⟨B, o + i, none⟩ = false := by simp only [World.frozen?, hb]; exact ht _ hlt
    have hset : w.setCell ⟨B, o + i, none⟩ v = setB w B (vs.setIfInBounds (o + i) v) ty fz := by
      unfold World.setCell setB
      congr 1
      apply Array.ext_getElem?
      intro j
      by_cases e : B = j
      · subst e
        have hb' := (Array.getElem?_eq_some_iff.1 hb).2
        rw [Array.getElem?_modify]
        simp [hb, hB]
        rw [hb']
      · rw [Array.getElem?_setIfInBounds_ne e]
        simp [Array.getElem?_modify, e]
    have hst : (store ((⟨B, o, none⟩ : Addr).add i) v).run P w = .ok () (setB w B (vs.setIfInBounds (o + i) v) ty fz) := by
      rw [add_none, run_store P w _ v _ (by rw [← one_eq]; exact h1 v (by simp)), hcell]
      simp only [hfz, hset]
      rfl
    have ih := run_storeCells_spl B o ty fz r (i + 1) (vs.setIfInBounds (o + i) v) (setB w B (vs.setIfInBounds (o + i) v) ty fz) (setB_same hB) (by simpa using ht) (by simp; omega) (fun x hx => h1 x (by simp [hx]))
    simp only [storeCells, Sem.run_bind, hst, Result.andThen_ok, ih]
    congr 1
    unfold setB
    congr 1
    rw [Array.setIfInBounds_setIfInBounds]
    congr 2
    apply Array.ext_getElem?
    intro j
    rw [spl_get (by simp; omega), spl_get (by simp; omega)]
    simp only [List.length_cons]
    by_cases e1 : j < o + i
    · rw [if_pos (by omega), if_pos e1, Array.getElem?_setIfInBounds_ne (by omega)]
    · by_cases e2 : j = o + i
      · subst e2
        rw [if_pos (by omega), if_neg (by omega), if_pos (by omega)]
        simp [hlt]
      · have a1 : ¬ j < o + (i + 1) := by omega
        simp only [a1, e1, if_false]
        by_cases e3 : j < o + (i + 1) + r.length
        · have e4 : j < o + i + (r.length + 1) := by omega
          simp only [e3, e4, if_true]
          rw [show j - (o + i) = (j - (o + (i + 1))) + 1 by omega]
          simp
        · have e4 : ¬ j < o + i + (r.length + 1) := by omega
          simp only [e3, e4, if_false]
          rw [Array.getElem?_setIfInBounds_ne (by omega)]
theorem run_storeVar_at {t : TypeId} {n : Nat} (hsz : csz P t = some n) {B o : Nat} {vs : Array Value} {ty : TypeId} {fz : Nat × Nat} {v : Value}
    (hb : w.heap[B]? = some (.cells vs ty fz)) (ht : Thawed fz vs.size) (hn : v.cells.size = n) (hle : o + n ≤ vs.size) (h1 : ∀ x ∈ v.cells.toList, one1 x = true) :
    (storeVar t ⟨B, o, none⟩ v).run P w = .ok () (setB w B (spl vs o v.cells.toList) ty fz) := by
  unfold storeVar
  simp only [Sem.run_bind, run_sizeOf' hsz, Result.andThen, hn, ne_eq, not_true, if_false]
  have := run_storeCells_spl (P := P) B o ty fz v.cells.toList 0 vs w hb ht (by simp; omega) h1
  simp only [Nat.add_zero] at this
  simpa [Sem.run_bind] using this
end
end Go.Sh
