/-
  THE SHADOW MACHINE, PART M: composite literals; structs compared.
-/
import Derived.Test.YteohbocjhfcbdaaShL
import Derived.Laws.StructEq
import Derived.Laws.Append
namespace Go.Sh
set_option linter.unusedSectionVars false
set_option linter.unusedVariables false
set_option linter.unusedSimpArgs false
set_option linter.unnecessarySimpa false
section
variable {C : Ctx} {ρ : Map} {F : Nat → Prop} {H H' : Heap} {w : World} {e : Env} {a : Act} {s c d : SV}
theorem fill_spl (off : Nat) : ∀ (l : List Value) (k : Nat) (cells : Array Value), off + k + l.length ≤ cells.size →
    (l.zipIdx k).foldl (fun (cs : Array Value) (p : Value × Nat) => cs.setIfInBounds (off + p.2) p.1) cells = spl cells (off + k) l
  | [], k, cells, _ => by simp [spl]
  | v :: r, k, cells, h => by
    simp only [List.length_cons] at h
    rw [List.zipIdx_cons, List.foldl_cons, fill_spl off r (k + 1) _ (by simp; omega)]
    apply Array.ext_getElem?
    intro j
    rw [spl_get (by simp; omega), spl_get (by simp; omega)]
    simp only [List.length_cons]
    by_cases e1 : j < off + k
    · have e2 : j < off + (k + 1) := by omega
      simp only [e1, e2, if_true]
      rw [Array.getElem?_setIfInBounds_ne (by omega)]
    · by_cases e2 : j = off + k
      · subst e2
        have e3 : off + k < off + (k + 1) := by omega
        have e4 : ¬ off + k < off + k := by omega
        have e5 : off + k < off + k + (r.length + 1) := by omega
        simp only [e3, e4, e5, if_true, if_false]
        have : off + k < cells.size := by omega
        simp [this]
      · have a1 : ¬ j < off + (k + 1) := by omega
        simp only [a1, e1, if_false]
        by_cases e3 : j < off + (k + 1) + r.length
        · have e4 : j < off + k + (r.length + 1) := by omega
          simp only [e3, e4, if_true]
          rw [show j - (off + k) = (j - (off + (k + 1))) + 1 by omega]
          simp
        · have e4 : ¬ j < off + k + (r.length + 1) := by omega
          simp only [e3, e4, if_false]
          rw [Array.getElem?_setIfInBounds_ne (by omega)]
theorem fill_step {place : Nat → Option (Nat × Nat)} {cells : Array Value} {i off : Nat} {v : Value} {rest : List (Nat × Value)} (hp : place i = some (off, v.cells.size)) (hle : off + v.cells.size ≤ cells.size) :
    Instr.fill place cells ((i, v) :: rest) = Instr.fill place (spl cells off v.cells.toList) rest := by
  have : (v.cells.zipIdx.foldl (fun cs (c, j) => cs.setIfInBounds (off + j) c) cells) = spl cells off v.cells.toList := by
    have := fill_spl off v.cells.toList 0 cells (by simpa using hle)
    rw [Nat.add_zero] at this
    rw [← this, ← Array.foldl_toList, Array.toList_zipIdx]
  simp only [Instr.fill, hp]
  rw [if_neg (by simp; omega), this]
/-- A struct or an array filled in part by part. -/
theorem fillP_run {place : Nat → Option (Nat × Nat)} : ∀ (qs : List (Nat × Operand)) (ps : List (Nat × Nat × Opd)) (z r : List SV) (cells : Array Value),
    ps.length = qs.length → (∀ (j : Nat) p q, qs[j]? = some q → ps[j]? = some p → place q.1 = some (p.1, p.2.1) ∧ copd q.2 = some p.2.2) → ER w F ρ e a.tmps → z.length = cells.size → CellsR w F ρ cells 0 z → fillP (ev e) z ps = some r →
    ∃ out, Instr.fill place cells (qs.map fun q => (q.1, a.eval q.2)) = some out ∧ r.length = out.size ∧ CellsR w F ρ out 0 r
  | [], [], z, r, cells, _, _, _, hz, hc, h => by
    simp [fillP] at h; subst h
    exact ⟨cells, rfl, hz, hc⟩
  | [], _ :: _, _, _, _, hl, _, _, _, _, _ => by simp at hl
  | _ :: _, [], _, _, _, hl, _, _, _, _, _ => by simp at hl
  | q :: qs, (off, n, x) :: ps, z, r, cells, hl, hp, he, hz, hc, h => by
    obtain ⟨h1, h2⟩ := hp 0 _ _ rfl rfl
    simp only [fillP, Option.bind_eq_some_iff] at h
    obtain ⟨cs, hcs, h⟩ := h
    replace h := bif_some h
    obtain ⟨hb, h⟩ := h
    simp at hb
    obtain ⟨hn, hle⟩ := hb
    obtain ⟨k1, k2, _⟩ := cells1_vr hcs (copd_vr h2 he)
    have hsz : (spl cells off (a.eval q.2).cells.toList).size = cells.size := spl_size (by simp; omega)
    have hnew := spl_cells (at_ := 0) hc k2 hn k1 hle (by omega)
    rw [Nat.zero_add] at hnew
    obtain ⟨out, o1, o2, o3⟩ := fillP_run qs ps _ r (spl cells off (a.eval q.2).cells.toList) (by simpa using hl) (fun j p q hq hp' => hp (j + 1) p q (by simpa using hq) (by simpa using hp')) he
      (by rw [put1_length hn hle, hsz]; exact hz) hnew h
    refine ⟨out, ?_, o2, o3⟩
    simp only [List.map_cons]
    rw [fill_step (by rw [h1, ← k1, hn]) (by omega)]
    exact o1
theorem run_places {P : Program} {w : World} : ∀ (fs : List Field), (∀ f ∈ fs, (csz P f.type).isSome = true) → Sem.run P (fs.mapM (fun (f : Field) => (do pure (f.offset, ← sizeOf f.type) : Sem (Nat × Nat)))) w = .ok (fs.map fun (f : Field) => (f.offset, (csz P f.type).getD 0)) w
  | [], _ => rfl
  | f :: fs, h => by
    obtain ⟨n, hn⟩ := Option.isSome_iff_exists.1 (h f (by simp))
    have ih := run_places (P := P) (w := w) fs (fun g hg => h g (by simp [hg]))
    simp only [List.mapM_cons, Sem.run_bind, run_sizeOf' hn, Result.andThen, List.map_cons, hn, Option.getD_some]
    simp only [pure, Sem.run, Result.andThen, Sem.run_bind] at ih ⊢
    rw [ih]
theorem ok_build {t : TypeId} {qs : Array (Nat × Operand)} {z r : List SV} {ps : List (Nat × Nat × Opd)} (hz : czero C.P t = some z) (hp : cbuild C.P t qs.toList = some ps) (hr : HR C ρ F H w) (he : ER w F ρ e a.tmps)
    (h : fillP (ev e) z ps = some r) : OpOK C (do pure (.value (← Instr.build t (qs.map fun (i, x) => (i, a.eval x))))) ρ F H w (.agg r) H := by
  obtain ⟨i, v, hi, hv, h1, h2⟩ := czero_vr (w := w) (F := F) (ρ := ρ) hz
  have fin : ∀ out : Array Value, r.length = out.size → CellsR w F ρ out 0 r → VR w F ρ (.agg r) (.agg out) := fun out o1 o2 =>
    .agg o1 (fun j c hj => let ⟨_, _, _, h⟩ := o2 j c hj; h) (fun j c v hj hv => by
      obtain ⟨v', h3, h4, _⟩ := o2 j c hj
      rw [Nat.zero_add] at h3
      rw [h3] at hv; cases hv; exact h4)
  have hlist : (qs.map fun (i, x) => (i, a.eval x)).toList = qs.toList.map fun q => (q.1, a.eval q.2) := by simp
  unfold cbuild at hp
  split at hp
  · rename_i fs hu
    cases hall : fs.toList.all (fun f => (csz C.P f.type).isSome) with
    | false => rw [hall] at hp; simp at hp
    | true =>
      rw [hall] at hp
      simp only [Bool.not_true, cond_false] at hp
      obtain ⟨p1, p2⟩ := allS_map hp
      have hpl := run_places (P := C.P) (w := w) fs.toList (fun f hf => List.all_eq_true.1 hall f hf)
      obtain ⟨out, o1, o2, o3⟩ := fillP_run (place := ((fs.toList.map fun f => (f.offset, (csz C.P f.type).getD 0)).toArray[·]?)) qs.toList ps z r v.cells p1 (fun j p q hq hp' => by
        have := p2 j q p hq hp'
        split at this
        · rename_i f hf
          split at this
          · rename_i n x hn hx
            cases this
            refine ⟨?_, hx⟩
            simp [hf, hn]
          · cases this
        · cases this) he h1 h2 h
      refine OpOK.val hr ?_ (fin out o2 o3)
      unfold Instr.build
      simp only [Sem.run_bind, run_zeroValue' hi hv, Result.andThen, run_underlying hu, Array.mapM_eq_mapM_toList]
      rw [Sem.run_map, hpl]
      simp only [Result.andThen, hlist, o1]
      rfl
  · rename_i n el hu
    split at hp
    · rename_i m hm
      obtain ⟨p1, p2⟩ := allS_map hp
      obtain ⟨out, o1, o2, o3⟩ := fillP_run (place := fun i => some (i * m, m)) qs.toList ps z r v.cells p1 (fun j p q hq hp' => by
        have := p2 j q p hq hp'
        simp only [Option.map_eq_some_iff] at this
        obtain ⟨x, hx, rfl⟩ := this
        exact ⟨rfl, hx⟩) he h1 h2 h
      refine OpOK.val hr ?_ (fin out o2 o3)
      unfold Instr.build
      simp only [Sem.run_bind, run_zeroValue' hi hv, Result.andThen, run_underlying hu, run_sizeOf' hm, hlist, o1]
      rfl
    · cases hp
  · cases hp
end
end Go.Sh
