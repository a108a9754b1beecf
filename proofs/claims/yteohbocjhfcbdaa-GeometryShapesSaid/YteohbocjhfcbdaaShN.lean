/-
  THE SHADOW MACHINE, PART N: slice literals; append.
-/
import Derived.Test.YteohbocjhfcbdaaShM
namespace Go.Sh
set_option linter.unusedSectionVars false
set_option linter.unusedVariables false
set_option linter.unusedSimpArgs false
set_option linter.unnecessarySimpa false
section
variable {C : Ctx} {ρ : Map} {F : Nat → Prop} {H H' : Heap} {w : World} {e : Env} {a : Act} {s c d : SV}
/-- The cells of a row of elements. -/
def RowsR (w : World) (F : Nat → Prop) (ρ : Map) (vs : Array Value) (at_ z : Nat) (L : List (List SV)) : Prop :=
  (∀ (i : Nat) cs, L[i]? = some cs → cs.length = z) ∧ ∀ (i : Nat) cs, L[i]? = some cs → CellsR w F ρ vs (at_ + i * z) cs
/-- Pushing one block that a new slice owns. -/
theorem push_arr (hr : HR C ρ F H w) {L : List (List SV)} {z cap : Nat} {ex : Bool} {vs : Array Value} {ty : TypeId} {w' : World} (hw : w'.heap = w.heap.push (.cells vs ty)) (hcap : L.length ≤ cap) (hex : ex = true → cap = L.length)
    (hsz : cap * z ≤ vs.size) (hc : RowsR w F ρ vs 0 z L) (n : Nat) (hn : n ≤ L.length) (hout : w'.os = w.os ∧ w'.output = w.output := by exact ⟨rfl, rfl⟩) :
    Done C ρ F H w (.slc H.bl.length 0 0 n) (hnew H (.arr 0 z L ex)) (.slice (some ⟨w.heap.size, 0, none⟩) n cap) w' := by
  let l : Loc := { blk := w.heap.size, base := 0, cap := cap, esz := z, ver := 0, virt := false, arr := true }
  have hh : ∀ B, B < w.heap.size → w'.heap[B]? = w.heap[B]? := fun B hB => by
    rw [hw]; simp [Array.getElem?_push, Nat.ne_of_lt hB]
  have hk : Keeps F w w' := fun B hB => hh B (hr.fro B hB)
  have hle : ρ.le (ρ.put H.bl.length l) := fun b l' h => ⟨l', by rw [Map.put_other _ _ (Nat.ne_of_lt (hr.dom b l' h))]; exact h, .inl rfl⟩
  have hp := hr.push (w' := w') (by rw [hw]; simp) hh (.arr 0 z L ex) l (fun _ => ⟨Nat.le_refl _, by rw [hw]; simp [l]⟩)
    ⟨rfl, rfl, rfl, hc.1, hcap, hex, (fun h => by cases h), fun _ => ⟨vs, ty, (0, 0), by rw [hw]; simp [l], fun o ho => by simp, by simpa [l] using hsz, fun i cs hi => by
      have := hc.2 i cs hi
      exact this.mono hk (fun _ h => h) hle⟩⟩ hout
  exact ⟨_, F, .slc (l := l) (Map.put_same _ _ _) (Nat.le_refl _) rfl (fun _ => ⟨(fun h => by cases h), fun _ => ⟨by simp [l]; omega, _, rfl, fun _ => by simp [l]⟩⟩), hp.1, hp.2⟩
/-- Elements put into a row. -/
theorem fillS_run {z : Nat} : ∀ (qs : List (Nat × Operand)) (ps : List (Nat × Opd)) (L r : List (List SV)) (cells : Array Value),
    ps.length = qs.length → (∀ (j : Nat) p q, qs[j]? = some q → ps[j]? = some p → q.1 = p.1 ∧ copd q.2 = some p.2) → ER w F ρ e a.tmps → L.length * z ≤ cells.size → RowsR w F ρ cells 0 z L → fillS (ev e) z L ps = some r →
    ∃ out, Instr.fill (fun i => some (i * z, z)) cells (qs.map fun q => (q.1, a.eval q.2)) = some out ∧ r.length = L.length ∧ out.size = cells.size ∧ RowsR w F ρ out 0 z r
  | [], [], L, r, cells, _, _, _, hz, hc, h => by
    simp [fillS] at h; subst h
    exact ⟨cells, rfl, rfl, rfl, hc⟩
  | [], _ :: _, _, _, _, hl, _, _, _, _, _ => by simp at hl
  | _ :: _, [], _, _, _, hl, _, _, _, _, _ => by simp at hl
  | q :: qs, (i, x) :: ps, L, r, cells, hl, hp, he, hz, hc, h => by
    obtain ⟨h1, h2⟩ := hp 0 _ _ rfl rfl
    simp only [fillS, Option.bind_eq_some_iff] at h
    obtain ⟨cs, hcs, h⟩ := h
    replace h := bif_some h
    obtain ⟨hb, h⟩ := h
    simp at hb
    obtain ⟨hn, hlt⟩ := hb
    simp only at h1 h2
    obtain ⟨k1, k2, _⟩ := cells1_vr hcs (copd_vr h2 he)
    have hm : (i + 1) * z ≤ L.length * z := Nat.mul_le_mul_right z hlt
    rw [Nat.add_mul, Nat.one_mul] at hm
    have hle : i * z + (a.eval q.2).cells.size ≤ cells.size := by omega
    have hsz : (spl cells (i * z) (a.eval q.2).cells.toList).size = cells.size := spl_size (by simp; omega)
    have hrow : RowsR w F ρ (spl cells (i * z) (a.eval q.2).cells.toList) 0 z (L.set i cs) := by
      refine ⟨fun j ds hj => ?_, fun j ds hj => ?_⟩
      · by_cases e1 : j = i
        · subst e1; simp [hlt] at hj; subst hj; exact hn
        · rw [List.getElem?_set_ne (Ne.symm e1)] at hj; exact hc.1 j ds hj
      · by_cases e1 : j = i
        · subst e1
          simp [hlt] at hj
          subst hj
          obtain ⟨old, hold⟩ : ∃ o, L[j]? = some o := ⟨L[j], List.getElem?_eq_getElem hlt⟩
          have := spl_cells (at_ := 0 + j * z) (o := 0) (n := z) (hc.2 j old hold) k2 hn k1 (by rw [hc.1 j old hold]; omega) (by rw [hc.1 j old hold]; omega)
          rw [Nat.add_zero, Nat.zero_add] at this
          rw [Nat.zero_add]
          intro q' c' hq'
          refine this q' c' ?_
          have hlen := (List.getElem?_eq_some_iff.1 hq').1
          unfold put1
          rw [List.take_zero, List.nil_append, List.getElem?_append_left hlen]
          exact hq'
        · rw [List.getElem?_set_ne (Ne.symm e1)] at hj
          refine cells_keep (n := 0) (hc.2 j ds hj) (by simp; omega) ?_
          have hd := hc.1 j ds hj
          simp only [Array.length_toList]
          rcases Nat.lt_or_gt_of_ne e1 with hlt' | hlt'
          · left
            have : (j + 1) * z ≤ i * z := Nat.mul_le_mul_right z hlt'
            rw [Nat.add_mul, Nat.one_mul] at this
            omega
          · right
            have : (i + 1) * z ≤ j * z := Nat.mul_le_mul_right z hlt'
            rw [Nat.add_mul, Nat.one_mul] at this
            omega
    obtain ⟨out, o1, o2, o3, o4⟩ := fillS_run qs ps _ r (spl cells (i * z) (a.eval q.2).cells.toList) (by simpa using hl) (fun j p q hq hp' => hp (j + 1) p q (by simpa using hq) (by simpa using hp')) he
      (by rw [hsz]; simpa using hz) hrow h
    refine ⟨out, ?_, by simpa using o2, o3.trans hsz, o4⟩
    simp only [List.map_cons]
    rw [h1, fill_step (by rw [← k1, hn]) hle]
    exact o1
/-- A row of n zero elements. -/
def zeroRow (zs : Array Value) (n : Nat) : Array Value := (Array.range n).map fun i => zs[i % zs.size]!
theorem zeroRow_rows {z n : Nat} {zs : Array Value} {zl : List SV} (hz : zl.length = z) (hzs : zl.length = zs.size) (hc : CellsR w F ρ zs 0 zl) (h0 : 0 < z) : RowsR w F ρ (zeroRow zs (n * z)) 0 z (List.replicate n zl) := by
  refine ⟨fun i cs hi => ?_, fun i cs hi => ?_⟩ <;> rw [List.getElem?_replicate] at hi <;> split at hi <;> (try (cases hi; done)) <;> cases hi
  · exact hz
  · rename_i hlt
    intro j c hj
    have hjl := (List.getElem?_eq_some_iff.1 hj).1
    obtain ⟨v, h1, h2, h3⟩ := hc j c hj
    have hm : (i + 1) * z ≤ n * z := Nat.mul_le_mul_right z hlt
    rw [Nat.add_mul, Nat.one_mul] at hm
    refine ⟨v, ?_, h2, h3⟩
    rw [Nat.zero_add] at h1 ⊢
    unfold zeroRow
    have hmod : (i * z + j) % zs.size = j := by
      rw [← hzs, hz, Nat.add_comm, Nat.add_mul_mod_self_right, Nat.mod_eq_of_lt (by omega)]
    simp only [Array.getElem?_map, Array.getElem?_range, show i * z + j < n * z by omega, if_true, Option.map_some, hmod]
    congr 1
    have hj' : j < zs.size := by omega
    rw [getElem!_pos zs j hj']
    rw [Array.getElem?_eq_getElem hj'] at h1
    exact Option.some.inj h1
theorem ok_bslice {t el : TypeId} {n z : Nat} {qs : Array (Nat × Operand)} {zl : List SV} {ps : List (Nat × Opd)} {L : List (List SV)} (he0 : celem C.P t = some el) (hsz : csz C.P el = some (z + 1)) (hz : czero C.P el = some zl)
    (hp : allS (qs.toList.map fun p => (copd p.2).map fun x => (p.1, x)) = some ps) (hlim : n * (z + 1) ≤ 16777216) (hzl : zl.length = z + 1) (hr : HR C ρ F H w) (he : ER w F ρ e a.tmps)
    (h : fillS (ev e) (z + 1) (List.replicate n zl) ps = some L) : OpOK C (do pure (.value (← Instr.buildSlice t n (qs.map fun (i, x) => (i, a.eval x))))) ρ F H w (.slc H.bl.length 0 0 n) (hnew H (.arr 0 (z + 1) L true)) := by
  obtain ⟨i, v, hi, hv, h1, h2⟩ := czero_vr (w := w) (F := F) (ρ := ρ) hz
  have hu : C.P.underlying t = some (.slice el) := by
    unfold celem at he0
    split at he0
    · cases he0; assumption
    · cases he0
  have hlist : (qs.map fun (i, x) => (i, a.eval x)).toList = qs.toList.map fun q => (q.1, a.eval q.2) := by simp
  obtain ⟨p1, p2⟩ := allS_map hp
  have hzr : (zeroRow v.cells (n * (z + 1))).size = n * (z + 1) := by simp [zeroRow]
  obtain ⟨out, o1, o2, o3, o4⟩ := fillS_run qs.toList ps (List.replicate n zl) L (zeroRow v.cells (n * (z + 1))) p1 (fun j p q hq hp' => by
    have := p2 j q p hq hp'
    simp only [Option.map_eq_some_iff] at this
    obtain ⟨x, hx, rfl⟩ := this
    exact ⟨rfl, hx⟩) he (by rw [hzr]; simp) (zeroRow_rows hzl h1 h2 (Nat.succ_pos z)) h
  have hlen : L.length = n := by simpa using o2
  refine OpOK.valD (w' := { w with heap := w.heap.push (.cells out el) }) ?_ (push_arr hr rfl (Nat.le_refl L.length) (fun _ => rfl) (by rw [o3, hzr, hlen]; exact Nat.le_refl _) o4 n (by omega))
  have hlim' : ¬ n * (z + 1) > 2 ^ 24 := by omega
  unfold Instr.buildSlice
  simp only [Sem.run_bind, run_underlying hu, Result.andThen, run_sizeOf' hsz, if_neg hlim']
  by_cases h0 : n * (z + 1) = 0
  · have hzz : (Array.range (n * (z + 1))).map (fun x => (#[] : Array Value)[x % (#[] : Array Value).size]!) = zeroRow v.cells (n * (z + 1)) := by
      unfold zeroRow; rw [h0]; simp
    simp only [h0, if_true, pure, Sem.run, Result.andThen, Sem.run_bind]
    rw [h0] at hzz
    rw [h0] at o1
    simp only [hzz, hlist, o1]
    simp [newRow, newObj, Sem.run, hlen]
  · simp only [h0, if_false, Sem.run_bind, run_zeroValue' hi hv, Result.andThen, pure, Sem.run]
    have hzz : (Array.range (n * (z + 1))).map (fun x => v.cells[x % v.cells.size]!) = zeroRow v.cells (n * (z + 1)) := rfl
    simp only [hzz, hlist, o1]
    simp [newRow, newObj, Sem.run, hlen]
end
end Go.Sh
