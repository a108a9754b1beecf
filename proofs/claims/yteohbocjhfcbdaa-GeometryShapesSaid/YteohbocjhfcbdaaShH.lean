/-
  THE SHADOW MACHINE, PART H: loads and stores.
-/
import Derived.Test.YteohbocjhfcbdaaShG
namespace Go.Sh
set_option linter.unusedSectionVars false
set_option linter.unusedVariables false
set_option linter.unusedSimpArgs false
set_option linter.unnecessarySimpa false
section
variable {C : Ctx} {ρ : Map} {F : Nat → Prop} {H H' : Heap} {w : World} {e : Env} {a : Act} {s : SV}
theorem part1_le {ag : Bool} {n o : Nat} {cs : List SV} (h : part1 ag n cs o = some s) : o + (if ag then n else 1) ≤ cs.length := by
  unfold part1 at h
  cases ag with
  | false => simp only [cond_false] at h; have := (List.getElem?_eq_some_iff.1 h).1; simp; omega
  | true =>
    by_cases hle : o + n ≤ cs.length
    · simpa using hle
    · simp [hle] at h
theorem load_cells {P : Program} {t : TypeId} {ag : Bool} {n o at_ B : Nat} {cs : List SV} {vs : Array Value} {ty : TypeId} {fz : Nat × Nat} (hag : cag P t = some ag) (hsz : csz P t = some n)
    (hb : w.heap[B]? = some (.cells vs ty fz)) (hc : CellsR w F ρ vs at_ cs) (hle : at_ + cs.length ≤ vs.size) (h : part1 ag n cs o = some s) :
    ∃ val, (loadVar t ⟨B, at_ + o, none⟩).run P w = .ok val w ∧ VR w F ρ s val := by
  have h1 := part1_le h
  obtain ⟨h2, h3⟩ := part1_vr h hc hle
  obtain ⟨r1, r2⟩ := run_loadVar_at (o := at_ + o) hag hsz hb (by omega)
  cases ag with
  | true => exact ⟨_, r1 rfl, h2 rfl⟩
  | false => obtain ⟨v, hv, hr⟩ := h3 rfl; exact ⟨v, r2 rfl v hv, hr⟩
/-- Where a pointer into a live block leads. -/
theorem ptr_box (hr : HR C ρ F H w) {b ver i o : Nat} {v : Value} {cs : List SV} (hv : VR w F ρ (.ptr b ver i o) v) (hb : hget H b = some (.box cs)) (hi : i = 0) :
    ∃ l vs ty fz, ρ b = some l ∧ l.virt = false ∧ l.arr = false ∧ l.ver = 0 ∧ v = .pointer (some ⟨l.blk, o, none⟩) ∧ w.heap[l.blk]? = some (.cells vs ty fz) ∧ Thawed fz vs.size ∧ vs.size = cs.length ∧ CellsR w F ρ vs 0 cs ∧
      BR C w F ρ l (.box cs) := by
  obtain ⟨l, hl, hbr⟩ := hr.live b _ hb rfl
  have hbr' := hbr
  obtain ⟨h1, h2, h3, h4, h5, vs, ty, fz, h6, h7, h8, h9⟩ := hbr
  cases hv with
  | ptr h hv hc ha =>
    rw [hl] at h; cases h
    obtain ⟨_, rfl⟩ := ha (by omega)
    subst hi
    exact ⟨l, vs, ty, fz, hl, h1, h2, h4, by simp [h3], h6, h7, h8, h9, hbr'⟩
theorem ptr_arr (hr : HR C ρ F H w) {b ver i o z : Nat} {v : Value} {L : List (List SV)} {ex : Bool} (hv : VR w F ρ (.ptr b ver i o) v) (hb : hget H b = some (.arr ver z L ex)) :
    ∃ l vs ty fz, ρ b = some l ∧ l.virt = false ∧ l.ver = ver ∧ l.arr = true ∧ l.esz = z ∧ v = .pointer (some ⟨l.blk, l.base + i * z + o, none⟩) ∧ w.heap[l.blk]? = some (.cells vs ty fz) ∧ Thawed fz vs.size ∧
      l.base + l.cap * z ≤ vs.size ∧ L.length ≤ l.cap ∧ (∀ (i : Nat) cs, L[i]? = some cs → cs.length = z) ∧ (∀ (i : Nat) cs, L[i]? = some cs → CellsR w F ρ vs (l.base + i * z) cs) ∧ BR C w F ρ l (.arr ver z L ex) := by
  obtain ⟨l, hl, hbr⟩ := hr.live b _ hb rfl
  have hbr' := hbr
  obtain ⟨h1, h2, h3, h4, h5, h6, h7, h8⟩ := hbr
  cases hv with
  | ptr h hv hc ha =>
    rw [hl] at h; cases h
    obtain ⟨hvi, rfl⟩ := ha h2.symm
    obtain ⟨vs, ty, fz, k1, k2, k3, k4⟩ := h8 hvi
    exact ⟨l, vs, ty, fz, hl, hvi, h2, h1, h3, by rw [h3], k1, k2, k3, h5, h4, k4, hbr'⟩
theorem elem_le {L : List (List SV)} {i z cap base n : Nat} {cs : List SV} (hi : L[i]? = some cs) (hz : cs.length = z) (hL : L.length ≤ cap) (hn : base + cap * z ≤ n) : base + i * z + cs.length ≤ n := by
  have h1 := (List.getElem?_eq_some_iff.1 hi).1
  have h2 : (i + 1) * z ≤ cap * z := Nat.mul_le_mul_right z (by omega)
  rw [Nat.add_mul, Nat.one_mul] at h2
  omega
theorem load_vr {c : SV} {t : TypeId} {ag : Bool} {n : Nat} {u : Value} (hag : cag C.P t = some ag) (hsz : csz C.P t = some n) (hr : HR C ρ F H w) (hv : VR w F ρ c u)
    (h : sload ag n H c = some s) : ∃ q val, u = .pointer (some q) ∧ (loadVar t q).run C.P w = .ok val w ∧ VR w F ρ s val := by
  unfold sload at h
  split at h
  · rename_i b ver i o
    split at h
    · rename_i cs hb
      replace h := bif_some h
      obtain ⟨hi, h⟩ := h
      obtain ⟨l, vs, ty, fz, hl, k1, k1a, k2, k3, k4, k5, k6, k7, _⟩ := ptr_box hr hv hb (by simpa using hi)
      subst k3
      obtain ⟨val, r1, r2⟩ := load_cells hag hsz k4 k7 (by omega) h
      rw [Nat.zero_add] at r1
      exact ⟨_, val, rfl, r1, r2⟩
    · rename_i ver' z L ex hb
      replace h := bif_some h
      obtain ⟨hve, h⟩ := h
      have hve : ver = ver' := by simpa using hve
      subst hve
      split at h
      · rename_i cs hcs
        obtain ⟨l, vs, ty, fz, hl, k1, k2, k2a, k3, k4, k5, k6, k7, k8, k9, k10, _⟩ := ptr_arr hr hv hb
        subst k4
        obtain ⟨val, r1, r2⟩ := load_cells hag hsz k5 (k10 i cs hcs) (elem_le hcs (k9 i cs hcs) k8 k7) h
        exact ⟨_, val, rfl, r1, r2⟩
      · cases h
    · cases h
  · rename_i cs
    cases hv with
    | eptr V hF hc h1 hv =>
      rename_i B o
      have hle := part1_le h
      have r := run_loadVar_fn (w := w) hag hsz (B := B) (o := o) V (fun j hj => hc j _ (List.getElem?_eq_getElem (by omega)))
      refine ⟨_, _, rfl, r, ?_⟩
      unfold part1 at h
      cases ag with
      | false =>
        simp only [cond_false] at h
        exact (hv 0 s h).mono (fun _ _ => rfl) (fun _ h => h) (noMap_le _)
      | true =>
        simp at hle
        simp [hle] at h
        subst h
        refine .agg (by simp; omega) (fun j c hj => ?_) (fun j c v hj hv' => ?_)
        · rw [List.getElem?_take] at hj
          split at hj
          · exact h1 j c hj
          · cases hj
        · rw [List.getElem?_take] at hj
          split at hj
          · rename_i hlt
            simp [hlt] at hv'
            subst hv'
            exact (hv j c hj).mono (fun _ _ => rfl) (fun _ h => h) (noMap_le _)
          · cases hj
  · cases h
theorem ok_load {t : TypeId} {ag : Bool} {n : Nat} {x : Operand} {y : Opd} (hag : cag C.P t = some ag) (hsz : csz C.P t = some n) (hx : copd x = some y) (hr : HR C ρ F H w) (he : ER w F ρ e a.tmps)
    (h : sload ag n H (ev e y) = some s) : OpOK C (do pure (.value (← Instr.loadAt t (a.eval x)))) ρ F H w s H := by
  obtain ⟨q, val, hu, h1, h2⟩ := load_vr hag hsz hr (copd_vr hx he) h
  refine OpOK.val hr (val := val) ?_ h2
  unfold Instr.loadAt
  rw [hu]
  simpa [Instr.sureAddr, Sem.run] using h1
/-! ### Stores -/
theorem spl_cells {vs : Array Value} {at_ o n : Nat} {cs xs : List SV} {v : Value} (hc : CellsR w F ρ vs at_ cs) (hx : CellsR w F ρ v.cells 0 xs) (hn : xs.length = n) (hxn : xs.length = v.cells.size) (hle : o + n ≤ cs.length)
    (hsz : at_ + cs.length ≤ vs.size) : CellsR w F ρ (spl vs (at_ + o) v.cells.toList) at_ (put1 cs o n xs) := by
  intro j c hj
  have hl : v.cells.toList.length = n := by simp; omega
  rw [spl_get (by omega), hl]
  unfold put1 at hj
  rw [List.append_assoc, List.getElem?_append] at hj
  have ht : (cs.take o).length = o := by simp; omega
  rw [ht] at hj
  split at hj
  · rename_i hlt
    rw [List.getElem?_take, if_pos hlt] at hj
    rw [if_pos (by omega)]
    exact hc j c hj
  · rename_i hge
    rw [List.getElem?_append] at hj
    split at hj
    · rename_i hlt
      rw [if_neg (by omega), if_pos (by omega)]
      obtain ⟨v', h1, h2, h3⟩ := hx _ c hj
      refine ⟨v', ?_, h2, h3⟩
      rw [Array.getElem?_toList, show at_ + j - (at_ + o) = 0 + (j - o) by omega]
      exact h1
    · rename_i hge2
      rw [List.getElem?_drop] at hj
      rw [if_neg (by omega), if_neg (by omega)]
      have : o + n + (j - o - xs.length) = j := by omega
      rw [this] at hj
      exact hc j c hj
theorem put1_length {cs xs : List SV} {o n : Nat} (hn : xs.length = n) (hle : o + n ≤ cs.length) : (put1 cs o n xs).length = cs.length := by
  unfold put1; simp; omega
theorem cells_keep {vs : Array Value} {k n at_ : Nat} {xs : List Value} {cs : List SV} (hc : CellsR w F ρ vs at_ cs) (hle : k + xs.length ≤ vs.size) (hap : at_ + cs.length ≤ k ∨ k + xs.length ≤ at_) :
    CellsR w F ρ (spl vs k xs) at_ cs := by
  intro j c hj
  have hlt := (List.getElem?_eq_some_iff.1 hj).1
  obtain ⟨v, h1, h2⟩ := hc j c hj
  refine ⟨v, ?_, h2⟩
  rw [spl_get hle]
  rcases hap with h | h
  · rw [if_pos (by omega)]; exact h1
  · rw [if_neg (by omega), if_neg (by omega)]; exact h1
theorem put_self {b : Nat} {l : Loc} (h : ρ b = some l) : ρ.put b l = ρ := by
  funext b'
  by_cases e : b' = b
  · subst e; rw [Map.put_same, h]
  · rw [Map.put_other _ _ e]
/-- A block of cells written where it lies. -/
theorem set_cells (hr : HR C ρ F H w) {b : Nat} {x y : SBlk} {l : Loc} {refs : Nat} {vs' : Array Value} {ty : TypeId} {fz : Nat × Nat} (hH : hset H b y refs = some H') (hb : H.bl[b]? = some x) (hx : x.live = true)
    (hl : ρ b = some l) (hv : l.virt = false) (hy : y.live = true → ∀ ρ1 : Map, (ρ1 = ρ ∨ ∃ N, refs ≤ N ∧ ρ1 = ρ.cut N) → BR C w F ρ1 l x → BR C (setB w l.blk vs' ty fz) F ρ1 l y)
    (hlk : (∃ r st p, x = .loop r st p) → ∃ r st p, y = .loop r st p := by (rintro ⟨_, _, _, h⟩; cases h)) :
    HR C ρ F H' (setB w l.blk vs' ty fz) ∧ Ext C ρ F H w ρ F H' (setB w l.blk vs' ty fz) := by
  have := hr.set (w' := setB w l.blk vs' ty fz) (l' := l) hH hb hx hl (by rw [setB_size]; exact Nat.le_refl _) (fun B hB hne => setB_other (hne hv)) (fun _ => .inl ⟨hv, rfl⟩) (.inl rfl) (fun hyl => by
    rw [put_self hl]
    obtain ⟨l2, h2, hbr⟩ := hr.live b x hb hx
    rw [hl] at h2; cases h2
    exact hy hyl ρ (.inl rfl) hbr) (fun hyl N hN hbN hbr => by rw [put_self hl]; exact hy hyl _ (.inr ⟨N, hN, rfl⟩) hbr) hlk
  rwa [put_self hl] at this
theorem setB_keeps (hr : HR C ρ F H w) {b : Nat} {x : SBlk} {l : Loc} (hb : H.bl[b]? = some x) (hx : x.live = true) (hl : ρ b = some l) (hv : l.virt = false) {vs : Array Value} {ty : TypeId} {fz : Nat × Nat} :
    Keeps F w (setB w l.blk vs ty fz) := fun B hB => setB_other (fun h => (hr.own b l ⟨⟨x, hb, hx⟩, hl, hv⟩).1 (h ▸ hB))
theorem ok_store {t : TypeId} {n : Nat} {x y : Operand} {x' y' : Opd} (hsz : csz C.P t = some n) (hx : copd x = some x') (hy : copd y = some y') (hr : HR C ρ F H w) (he : ER w F ρ e a.tmps)
    (h : sstore n H (ev e y') (ev e x') = some H') : OpOK C (do Instr.storeAt t (a.eval x) (a.eval y); pure .skip) ρ F H w .undef H' := by
  have hp := copd_vr hx he
  have hv := copd_vr hy he
  generalize ev e x' = p at *
  generalize ev e y' = c at *
  suffices hs : ∃ w', (Instr.storeAt t (a.eval x) (a.eval y)).run C.P w = .ok () w' ∧ HR C ρ F H' w' ∧ Ext C ρ F H w ρ F H' w' by
    obtain ⟨w', h1, h2, h3⟩ := hs
    exact ⟨undef, w', .inr ⟨by simp [h1, pure, Sem.run], rfl⟩, ρ, F, .undef _, h2, h3⟩
  have hv1 : ∀ ρ1 : Map, (ρ1 = ρ ∨ ∃ N, c.refs ≤ N ∧ ρ1 = ρ.cut N) → VR w F ρ1 c (a.eval y) := fun ρ1 h => by
    rcases h with rfl | ⟨N, hN, rfl⟩
    · exact hv
    · exact hv.cut N hN
  unfold Instr.storeAt
  unfold sstore at h
  split at h
  · rename_i b ver i o
    simp only [Option.bind_eq_some_iff] at h
    obtain ⟨xs, hxs, h⟩ := h
    obtain ⟨q1, q2, _⟩ := cells1_vr hxs hv
    have q3 := cells_one q2 q1
    replace h := bif_some h
    obtain ⟨hn, h⟩ := h
    have hn : xs.length = n := by simpa using hn
    · split at h
      · rename_i cs hb
        replace h := bif_some h
        obtain ⟨hi, h⟩ := h
        simp only [Bool.and_eq_true, beq_iff_eq, decide_eq_true_eq] at hi
        · obtain ⟨hi, hle⟩ := hi
          obtain ⟨l, vs, ty, fz, hl, k1, k1a, k2, k3, k4, k5, k6, k7, kb⟩ := ptr_box hr hp hb hi
          rw [k3]
          have r := run_storeVar_at (o := o) hsz k4 k5 (by omega) (by omega) q3
          have hk : Keeps F w (setB w l.blk (spl vs o (a.eval y).cells.toList) ty fz) := setB_keeps hr hb rfl hl k1
          have hsz' : (spl vs o (a.eval y).cells.toList).size = vs.size := spl_size (by simp; omega)
          have hlt : l.blk < w.heap.size := (Array.getElem?_eq_some_iff.1 k4).1
          refine ⟨_, by simpa [Instr.sureAddr, Sem.run] using r, set_cells hr h hb rfl hl k1 (fun _ ρ1 hρ kb1 => ?_)⟩
          obtain ⟨g1, g2, g3, g4, g5, vs2, ty2, fz2, j1, j2, j3, j4⟩ := kb1
          rw [k4] at j1; cases j1
          obtain ⟨_, q2', _⟩ := cells1_vr hxs (hv1 ρ1 hρ)
          refine ⟨g1, g2, g3, g4, by rw [put1_length hn hle]; exact g5, _, ty, fz, setB_same hlt, by rw [hsz']; exact k5, by rw [hsz', put1_length hn hle]; exact k6, ?_⟩
          have := spl_cells (at_ := 0) j4 q2' hn q1 hle (by omega)
          rw [Nat.zero_add] at this
          exact this.mono hk (fun _ h => h) (Map.le_refl _)
      · rename_i ver' z L ex hb
        replace h := bif_some h
        obtain ⟨hve, h⟩ := h
        have hve : ver = ver' := by simpa using hve
        · subst hve
          split at h
          · rename_i cs hcs
            replace h := bif_some h
            obtain ⟨hle, h⟩ := h
            have hle : o + n ≤ cs.length := by simpa using hle
            · skip
              obtain ⟨l, vs, ty, fz, hl, k1, k2, k2a, k3, k4, k5, k6, k7, k8, k9, k10, kb⟩ := ptr_arr hr hp hb
              rw [k4]
              have hel := elem_le hcs (k9 i cs hcs) k8 k7
              have r := run_storeVar_at (o := l.base + i * z + o) hsz k5 k6 (by omega) (by omega) q3
              have hk : Keeps F w (setB w l.blk (spl vs (l.base + i * z + o) (a.eval y).cells.toList) ty fz) := setB_keeps hr hb rfl hl k1
              have hsz' : (spl vs (l.base + i * z + o) (a.eval y).cells.toList).size = vs.size := spl_size (by simp; omega)
              have hlt : l.blk < w.heap.size := (Array.getElem?_eq_some_iff.1 k5).1
              have hli := (List.getElem?_eq_some_iff.1 hcs).1
              refine ⟨_, by simpa [Instr.sureAddr, Sem.run] using r, set_cells hr h hb rfl hl k1 (fun _ ρ1 hρ kb1 => ?_)⟩
              obtain ⟨g1, g2, g3, g4, g5, g6, g7, g8⟩ := kb1
              obtain ⟨vs2, ty2, fz2, j1, j2, j3, j4⟩ := g8 k1
              rw [k5] at j1; cases j1
              obtain ⟨_, q2', _⟩ := cells1_vr hxs (hv1 ρ1 hρ)
              refine ⟨g1, g2, g3, fun j ds hj => ?_, by simpa using g5, by simpa using g6, g7, fun _ => ⟨_, ty, fz, setB_same hlt, by rw [hsz']; exact k6, by rw [hsz']; exact k7, fun j ds hj => ?_⟩⟩
              · by_cases e1 : j = i
                · subst e1
                  simp [hli] at hj
                  subst hj
                  rw [put1_length hn hle]; exact k9 j cs hcs
                · rw [List.getElem?_set_ne (Ne.symm e1)] at hj
                  exact g4 j ds hj
              · by_cases e1 : j = i
                · subst e1
                  simp [hli] at hj
                  subst hj
                  exact (spl_cells (j4 j cs hcs) q2' hn q1 hle hel).mono hk (fun _ h => h) (Map.le_refl _)
                · rw [List.getElem?_set_ne (Ne.symm e1)] at hj
                  have hd := k9 j ds hj
                  have hz := k9 i cs hcs
                  refine (cells_keep (n := 0) (j4 j ds hj) (by simp; omega) ?_).mono hk (fun _ h => h) (Map.le_refl _)
                  simp only [Array.length_toList]
                  rcases Nat.lt_or_gt_of_ne e1 with hlt' | hlt'
                  · left
                    have : (j + 1) * z ≤ i * z := Nat.mul_le_mul_right z hlt'
                    rw [Nat.add_mul, Nat.one_mul] at this
                    omega
                  · right
                    have : (i + 1) * z ≤ j * z := Nat.mul_le_mul_right z hlt'
                    rw [Nat.add_mul, Nat.one_mul] at this
                    omega
          · cases h
      · cases h
  · cases h
end
end Go.Sh
