/-
  THE SHADOW MACHINE, PART Q: append, its law.
-/
import Derived.Test.YteohbocjhfcbdaaShP
namespace Go.Sh
set_option linter.unusedSectionVars false
set_option linter.unusedVariables false
set_option linter.unusedSimpArgs false
set_option linter.unnecessarySimpa false
section
variable {C : Ctx} {ρ : Map} {F : Nat → Prop} {H H' : Heap} {w : World} {e : Env} {a : Act} {s c d : SV}
theorem cells_left {vs ws : Array Value} {at_ : Nat} {cs : List SV} (hc : CellsR w F ρ vs at_ cs) : CellsR w F ρ (vs ++ ws) at_ cs := by
  intro j c hj
  obtain ⟨v, h1, h2⟩ := hc j c hj
  have := (Array.getElem?_eq_some_iff.1 h1).1
  exact ⟨v, by rw [Array.getElem?_append_left this]; exact h1, h2⟩
theorem cells_right {vs ws : Array Value} {at_ : Nat} {cs : List SV} (hc : CellsR w F ρ ws at_ cs) : CellsR w F ρ (vs ++ ws) (vs.size + at_) cs := by
  intro j c hj
  obtain ⟨v, h1, h2⟩ := hc j c hj
  refine ⟨v, ?_, h2⟩
  rw [Array.getElem?_append_right (by omega), show vs.size + at_ + j - vs.size = at_ + j by omega]
  exact h1
theorem rows_append {vs ws rest : Array Value} {z : Nat} {Y X : List (List SV)} (hy : RowsR w F ρ vs 0 z Y) (hs : vs.size = Y.length * z) (hx : RowsR w F ρ ws 0 z X) : RowsR w F ρ (vs ++ ws ++ rest) 0 z (Y ++ X) := by
  refine ⟨fun i cs hi => ?_, fun i cs hi => ?_⟩ <;> rw [List.getElem?_append] at hi <;> split at hi
  · exact hy.1 i cs hi
  · exact hx.1 _ cs hi
  · exact cells_left (cells_left (hy.2 i cs hi))
  · rename_i hge
    have := cells_left (ws := rest) (cells_right (vs := vs) (hx.2 _ cs hi))
    rw [hs, Nat.zero_add, ← Nat.add_mul, show Y.length + (i - Y.length) = i by omega] at this
    rwa [Nat.zero_add]
/-- A row written into a row of cells. -/
theorem rows_spl {vs xs : Array Value} {z base off cap : Nat} {L X : List (List SV)} (hL : ∀ (i : Nat) cs, L[i]? = some cs → cs.length = z) (hc : ∀ (i : Nat) cs, L[i]? = some cs → CellsR w F ρ vs (base + i * z) cs) (hx : RowsR w F ρ xs 0 z X) (hn : xs.size = X.length * z)
    (ho : off ≤ L.length) (hfit : off + X.length ≤ cap) (hLc : L.length ≤ cap) (hsz : base + cap * z ≤ vs.size) :
    RowsR w F ρ (spl vs (base + off * z) xs.toList) base z (L.take off ++ X ++ L.drop (off + X.length)) := by
  have hm : (off + X.length) * z ≤ cap * z := Nat.mul_le_mul_right z hfit
  rw [Nat.add_mul] at hm
  have hle : base + off * z + xs.toList.length ≤ vs.size := by simp; omega
  have ht : (L.take off).length = off := by simp; omega
  have key : ∀ (i : Nat) cs, (L.take off ++ X ++ L.drop (off + X.length))[i]? = some cs → (off ≤ i ∧ i < off + X.length ∧ X[i - off]? = some cs) ∨ ((i < off ∨ off + X.length ≤ i) ∧ L[i]? = some cs) := by
    intro i cs hi
    rw [List.append_assoc, List.getElem?_append, ht] at hi
    split at hi
    · rename_i hlt
      rw [List.getElem?_take, if_pos hlt] at hi
      exact .inr ⟨.inl hlt, hi⟩
    · rename_i hge
      rw [List.getElem?_append] at hi
      split at hi
      · exact .inl ⟨by omega, by omega, hi⟩
      · rename_i h2
        rw [List.getElem?_drop, show off + X.length + (i - off - X.length) = i by omega] at hi
        exact .inr ⟨.inr (by omega), hi⟩
  refine ⟨fun i cs hi => ?_, fun i cs hi => ?_⟩
  · rcases key i cs hi with ⟨_, _, h⟩ | ⟨_, h⟩
    · exact hx.1 _ cs h
    · exact hL i cs h
  · rcases key i cs hi with ⟨h1, h2, h⟩ | ⟨h1, h⟩
    · intro j c hj
      have hjl := (List.getElem?_eq_some_iff.1 hj).1
      rw [hx.1 _ cs h] at hjl
      obtain ⟨v, p1, p2⟩ := hx.2 _ cs h j c hj
      refine ⟨v, ?_, p2⟩
      have hp := (Array.getElem?_eq_some_iff.1 p1).1
      have e1 : i * z = off * z + (i - off) * z := by rw [← Nat.add_mul]; congr 1; omega
      rw [spl_get hle, if_neg (by omega), if_pos (by simp; omega), Array.getElem?_toList]
      rw [show base + i * z + j - (base + off * z) = 0 + (i - off) * z + j by omega]
      exact p1
    · refine cells_keep (n := 0) (hc i cs h) hle ?_
      rw [hL i cs h]
      simp only [Array.length_toList, hn]
      rcases h1 with h1 | h1
      · left
        have : (i + 1) * z ≤ off * z := Nat.mul_le_mul_right z h1
        rw [Nat.add_mul, Nat.one_mul] at this
        omega
      · right
        have : (off + X.length) * z ≤ i * z := Nat.mul_le_mul_right z h1
        rw [Nat.add_mul] at this
        omega
theorem rows_cut {vs : Array Value} {z at_ N : Nat} {X : List (List SV)} (h : RowsR w F ρ vs at_ z X) (hN : SV.refs.refsL X.flatten ≤ N) : RowsR w F (ρ.cut N) vs at_ z X := by
  refine ⟨h.1, fun i cs hi j c hj => ?_⟩
  obtain ⟨v, h1, h2, h3⟩ := h.2 i cs hi j c hj
  have hm : c ∈ X.flatten := List.mem_flatten.2 ⟨cs, List.mem_of_getElem? hi, List.mem_of_getElem? hj⟩
  obtain ⟨m, hm⟩ := List.getElem?_of_mem hm
  exact ⟨v, h1, h2.cut N (refsL_le hN m c hm), h3⟩
def Cutd (ρ ρ1 : Map) (r : Nat) : Prop := ρ1 = ρ ∨ ∃ N, r ≤ N ∧ ρ1 = ρ.cut N
theorem rows_cutd {vs : Array Value} {z at_ : Nat} {X : List (List SV)} {ρ1 : Map} (h : RowsR w F ρ vs at_ z X) (hN : Cutd ρ ρ1 (SV.refs.refsL X.flatten)) : RowsR w F ρ1 vs at_ z X := by
  rcases hN with rfl | ⟨N, hN, rfl⟩
  · exact h
  · exact rows_cut h hN
/-- A new row for an append that grows. -/
theorem append_new {ats : Array TypeId} {el : TypeId} {z : Nat} {i : TypeInfo} {zv : Value} (hT : ApT C.P ats el z i zv) {ty : TypeId} (hr : HR C ρ F H w) {Y X : List (List SV)} {sv xv : Value} {base : Option Addr} {sc : Nat} (hsv : VR w F ρ s sv) (hxv : VR w F ρ c xv)
    (hY : rdL z H s = some Y) (hX : rdL z H c = some X) (he : sv = .slice base Y.length sc) (hg : ¬ Y.length + X.length ≤ sc) (hb : (Y.length + X.length) * i.bytes ≤ mostLen) :
    ∃ nc w' vs ty', Y.length + X.length ≤ nc ∧ (w'.heap = w.heap.push (.cells vs ty') ∧ w'.os = w.os ∧ w'.output = w.output) ∧ nc * z ≤ vs.size ∧ (∀ ρ1 : Map, SrcR C w F H ρ ρ1 s → Cutd ρ ρ1 (SV.refs.refsL X.flatten) → RowsR w F ρ1 vs 0 z (Y ++ X)) ∧
      (Builtin.append_ ats ty #[sv, xv]).run C.P w = .ok (.slice (some ⟨w.heap.size, 0, none⟩) (Y.length + X.length) nc) w' := by
  obtain ⟨q, mc, cells, rfl, k1, k2, k3⟩ := rd_run hr hT.zpos hxv hX
  obtain ⟨q', mc', old, h1, j1, j2, j3⟩ := rd_run hr hT.zpos hsv hY
  subst he
  cases h1
  obtain ⟨nc, w', vs, ty', g1, g2, ⟨rest, g3, g4⟩, g5⟩ := run_append_grows hT (ty := ty) k1 j1 hg hb
  refine ⟨nc, w', vs, ty', g1, g2, ?_, ?_, g5⟩
  · rw [g3]
    simp only [Array.size_append, j2, k2, g4]
    rw [← Nat.add_mul, ← Nat.add_mul]
    exact Nat.mul_le_mul_right z (by omega)
  · intro ρ1 h1 h2
    rw [g3]; exact rows_append (j3 ρ1 h1) j2 (rows_cutd (k3 ρ (srcR_self hr)) h2)
/-- A block that a grown slice owns takes the place of the old one. -/
theorem set_arr (hr : HR C ρ F H w) {b ver z : Nat} {L L' : List (List SV)} {ex : Bool} {l : Loc} {refs : Nat} (hb : hget H b = some (.arr ver z L ex)) (hl : ρ b = some l) (hbr : BR C w F ρ l (.arr ver z L ex))
    (hH : hset H b (.arr (ver + 1) z L' false) refs = some H') {w' : World} {l' : Loc} (hv' : l'.ver = ver + 1) (ha : l'.arr = true) (hs : w.heap.size ≤ w'.heap.size) (hh : ∀ B, B < w.heap.size → (l.virt = false → B ≠ l.blk) → w'.heap[B]? = w.heap[B]?)
    (hl' : l'.virt = false → (l.virt = false ∧ l'.blk = l.blk) ∨ (w.heap.size ≤ l'.blk ∧ l'.blk < w'.heap.size))
    (hy : ∀ ρ1 : Map, Cutd ρ ρ1 refs → BR C w F ρ1 l (.arr ver z L ex) → BR C w' F (ρ1.put b l') l' (.arr (ver + 1) z L' false)) {off n : Nat} {val : Value} (hone : one1 val = true)
    (hval : (l'.virt = true → ∃ a, val = .slice a 0 0 ∧ off = 0 ∧ n = 0) ∧
        (l'.virt = false → off + n ≤ l'.cap ∧ ∃ a, val = .slice a n (l'.cap - off) ∧ (off < l'.cap → a = some ⟨l'.blk, l'.base + off * l'.esz, none⟩))) (hout : w'.os = w.os ∧ w'.output = w.output := by exact ⟨rfl, rfl⟩) :
    Done C ρ F H w (.slc b (ver + 1) off n) H' val w' := by
  obtain ⟨p1, p2⟩ := hr.set (w' := w') hH hb rfl hl hs hh hl' (.inr ⟨hbr.1, by have := hbr.2.1; omega⟩) (fun _ => hy ρ (.inl rfl) hbr) (fun _ N hN hbN h => by
    have := hy (ρ.cut N) (.inr ⟨N, hN, rfl⟩) h
    have e : (ρ.put b l').cut N = (ρ.cut N).put b l' := by
      funext b'
      unfold Map.cut Map.put
      by_cases e : b' = b
      · subst e; simp [hbN]
      · simp [e]
    rw [e]; exact this) (hout := hout)
  exact ⟨_, F, .slc (Map.put_same _ _ _) (by omega) hone (fun _ => hval), p1, p2⟩
/-- Nothing appended, or nothing to append to. -/
theorem append_none {ats : Array TypeId} {el : TypeId} {z : Nat} {i : TypeInfo} {zv : Value} (hT : ApT C.P ats el z i zv) {ty : TypeId} (hr : HR C ρ F H w) {xv : Value} {base : Option Addr} {sl sc : Nat} (hxv : VR w F ρ c xv)
    (hX : rdL z H c = some []) (hg : sl ≤ sc) : (Builtin.append_ ats ty #[.slice base sl sc, xv]).run C.P w = .ok (.slice base sl sc) w := by
  obtain ⟨q, mc, cells, rfl, k1, k2, k3⟩ := rd_run hr hT.zpos hxv hX
  have h0 : cells = #[] := Array.eq_empty_of_size_eq_zero (by simpa using k2)
  subst h0
  have := run_append_fits hT (ty := ty) (base := base) (k1 w rfl) (by simpa using hg) (w' := w) (fun ad _ => rfl) (fun _ => rfl)
  simpa using this
/-- Elements appended where there is room. -/
theorem append_store {ats : Array TypeId} {el : TypeId} {z : Nat} {i : TypeInfo} {zv : Value} (hT : ApT C.P ats el z i zv) {ty : TypeId} (hr : HR C ρ F H w) {X : List (List SV)} {xv : Value} {b v off n : Nat} {L : List (List SV)} {ex : Bool} {l : Loc}
    (hxv : VR w F ρ c xv) (hX : rdL z H c = some X) (hb : hget H b = some (.arr v z L ex)) (hl : ρ b = some l) (hbr : BR C w F ρ l (.arr v z L ex)) (hvi : l.virt = false) (hle : off + n ≤ L.length) (hfit : off + n + X.length ≤ l.cap) :
    ∃ vs' ty' fz, (Builtin.append_ ats ty #[.slice (some ⟨l.blk, l.base + off * z, none⟩) n (l.cap - off), xv]).run C.P w = .ok (.slice (some ⟨l.blk, l.base + off * z, none⟩) (n + X.length) (l.cap - off)) (setB w l.blk vs' ty' fz) ∧
      Thawed fz vs'.size ∧ l.base + l.cap * z ≤ vs'.size ∧ (∀ ρ1 : Map, BR C w F ρ1 l (.arr v z L ex) → Cutd ρ ρ1 (SV.refs.refsL X.flatten) → RowsR (setB w l.blk vs' ty' fz) F ρ1 vs' l.base z (L.take (off + n) ++ X ++ L.drop (off + n + X.length))) ∧ (setB w l.blk vs' ty' fz).heap[l.blk]? = some (.cells vs' ty' fz) := by
  obtain ⟨q, mc, cells, rfl, k1, k2, k3⟩ := rd_run hr hT.zpos hxv hX
  obtain ⟨h1, h2, h3, h4, h5, h6, h7, h8⟩ := hbr
  obtain ⟨vs, ty', fz, g1, g2, g3, g4⟩ := h8 hvi
  have hm : (off + n + X.length) * z ≤ l.cap * z := Nat.mul_le_mul_right z hfit
  rw [Nat.add_mul] at hm
  have hsz : (spl vs (l.base + (off + n) * z) cells.toList).size = vs.size := spl_size (by simp; omega)
  have hlt : l.blk < w.heap.size := (Array.getElem?_eq_some_iff.1 g1).1
  have hst := run_storeCells_spl (P := C.P) l.blk (l.base + (off + n) * z) ty' fz cells.toList 0 vs w g1 g2 (by simp; omega) (fun x hx => rows_ok (k3 ρ (srcR_self hr)) k2 x hx)
  refine ⟨spl vs (l.base + (off + n) * z) cells.toList, ty', fz, ?_, by rw [hsz]; exact g2, by rw [hsz]; exact g3, ?_, setB_same hlt⟩
  · refine run_append_fits hT (k1 w rfl) (by omega) (fun ad hd => ?_) (fun h => by cases h)
    cases hd
    rw [add_none, show l.base + off * z + n * z = l.base + (off + n) * z by rw [Nat.add_mul]; omega]
    exact hst
  · intro ρ1 hb1 hc1
    obtain ⟨_, _, _, _, _, _, _, q8⟩ := hb1
    obtain ⟨vs2, ty2, fz2, m1, m2, m3, m4⟩ := q8 hvi
    rw [g1] at m1; cases m1
    have := rows_spl (xs := cells) h4 m4 (rows_cutd (k3 ρ (srcR_self hr)) hc1) k2 hle hfit h5 g3
    have hk : Keeps F w (setB w l.blk (spl vs (l.base + (off + n) * z) cells.toList) ty' fz) := setB_keeps hr hb rfl hl hvi
    exact ⟨this.1, fun j cs hj => (this.2 j cs hj).mono hk (fun _ h => h) (Map.le_refl _)⟩
theorem ok_append {ats : Array TypeId} {el : TypeId} {z : Nat} {i : TypeInfo} {zv : Value} (hT : ApT C.P ats el z i zv) {ty : TypeId} (hr : HR C ρ F H w) {X : List (List SV)} {sv xv : Value} (hsv : VR w F ρ s sv) (hxv : VR w F ρ c xv)
    (hX : rdL z H c = some X) (h : sappend z i.bytes H s X = some (d, H')) : ∃ val w', (Builtin.append_ ats ty #[sv, xv]).run C.P w = .ok val w' ∧ Done C ρ F H w d H' val w' := by
  have hz := hT.zpos
  unfold sappend at h
  split at h
  · rename_i z0 L f
    replace h := bif_some h
    obtain ⟨hb, h⟩ := h
    replace hb := of_decide_eq_true hb
    cases hsv with
    | lst V hcap hfull hz' hat h1 hv =>
      rename_i q cap
      split at h
      · replace h := bif_some h
        obtain ⟨hf, h⟩ := h
        simp only [Option.some.injEq, Prod.mk.injEq] at h
        obtain ⟨rfl, rfl⟩ := h
        have hc0 : cap = 0 := hfull hf
        subst hc0
        cases X with
        | nil =>
          refine ⟨_, w, append_none hT hr hxv hX (Nat.le_refl _), ?_⟩
          let l : Loc := { blk := 0, base := 0, cap := 0, esz := z, ver := 0, virt := true, arr := true }
          have hp := hr.push (w' := w) (Nat.le_refl _) (fun _ _ => rfl) (.arr 0 z [] false) l (fun h => by cases h) ⟨rfl, rfl, rfl, by simp, Nat.le_refl _, (fun h => by cases h), fun _ => rfl, fun h => by cases h⟩
          exact ⟨_, F, .slc (l := l) (Map.put_same _ _ _) (Nat.le_refl _) rfl (fun _ => ⟨fun _ => ⟨q, rfl, rfl, rfl⟩, fun h => by cases h⟩), hp.1, hp.2⟩
        | cons x X =>
          obtain ⟨nc, w', vs, ty', g1, g2, g3, g4, g5⟩ := append_new hT (ty := ty) hr (.lst V hcap hfull hz' hat h1 hv) hxv (Y := []) (by simp [rdL]) hX rfl (by simp) hb
          refine ⟨_, w', g5, ?_⟩
          have := push_arr hr (ex := false) (hout := g2.2) g2.1 (by simpa using g1) (fun h => by cases h) g3 (g4 ρ (srcR_self hr) (.inl rfl)) (x :: X).length (by simp)
          simpa using this
      · simp only [Option.some.injEq, Prod.mk.injEq] at h
        obtain ⟨rfl, rfl⟩ := h
        exact ⟨_, w, append_none hT hr hxv hX hcap, Done.same hr (.lst V hcap hfull hz' hat h1 hv)⟩
      · rename_i hne1 hne2
        replace h := bif_some h
        obtain ⟨hf, h⟩ := h
        simp only [Bool.and_eq_true, beq_iff_eq] at hf
        obtain ⟨hf, rfl⟩ := hf
        simp only [Option.some.injEq, Prod.mk.injEq] at h
        obtain ⟨rfl, rfl⟩ := h
        have hc0 := hfull hf
        have hX0 : 0 < X.length := by
          cases X with
          | nil => exact absurd rfl hne2
          | cons _ _ => simp
        obtain ⟨nc, w', vs, ty', g1, g2, g3, g4, g5⟩ := append_new hT (ty := ty) hr (.lst V hcap hfull hz' hat h1 hv) hxv (Y := L) (by simp [rdL]) hX rfl (by omega) hb
        refine ⟨_, w', g5, ?_⟩
        have := push_arr hr (ex := false) (hout := g2.2) g2.1 (by simpa using g1) (fun h => by cases h) g3 (g4 ρ (srcR_self hr) (.inl rfl)) (L.length + X.length) (by simp)
        simpa using this
  · rename_i b v off n
    replace h := bif_some h
    obtain ⟨hb, h⟩ := h
    replace hb := of_decide_eq_true hb
    split at h
    · rename_i v' z' L ex hg
      replace h := bif_some h
      obtain ⟨hc, h⟩ := h
      simp only [Bool.and_eq_true, beq_iff_eq, decide_eq_true_eq] at hc
      obtain ⟨⟨rfl, rfl⟩, hle⟩ := hc
      have hY : rdL z' H (.slc b v off n) = some ((L.drop off).take n) := by
        simp [rdL, hg, hle]
      have hYl : ((L.drop off).take n).length = n := by simp; omega
      obtain ⟨l, z2, L2, ex2, hl, hb2, hbr, g1, g2⟩ := cur_slc hr (by unfold cur; simp [hg]) hsv
      rw [hg] at hb2; cases hb2
      have hbr' := hbr
      obtain ⟨b1, b2, b3, b4, b5, b6, b7, b8⟩ := hbr'
      obtain ⟨base, sc, hse, hsc⟩ : ∃ base sc, sv = .slice base n sc ∧ n ≤ sc := by
        cases hvi : l.virt with
        | true => obtain ⟨q, p1, p2, p3⟩ := g1 hvi; exact ⟨q, 0, by rw [p1, p3], by omega⟩
        | false => obtain ⟨p1, q, p2, p3⟩ := g2 hvi; exact ⟨q, _, p2, by omega⟩
      cases hi : (!ex && off == 0 && n == L.length) with
      | true =>
        rw [hi] at h
        simp only [Bool.and_eq_true, beq_iff_eq, Bool.not_eq_true'] at hi
        obtain ⟨⟨he0, rfl⟩, hn⟩ := hi
        simp only [cond_true, Option.map_eq_some_iff, Prod.mk.injEq] at h
        obtain ⟨H1, hH, rfl, rfl⟩ := h
        have hY' : (L.drop 0).take n = L := by rw [hn]; simp
        rw [hY'] at hY hYl
        have hLX : ∀ (j : Nat) cs, (L ++ X)[j]? = some cs → cs.length = z' := fun j cs hj => by
          rw [List.getElem?_append] at hj
          obtain ⟨q, mc, cells, _, _, _, k3⟩ := rd_run hr hz hxv hX
          split at hj
          · exact b4 j cs hj
          · exact (k3 ρ (srcR_self hr)).1 _ cs hj
        have hle' : ∀ (ρ1 : Map) (l' : Loc), Cutd ρ ρ1 (SV.refs.refsL X.flatten) → l'.ver = v + 1 → ρ1.le (ρ1.put b l') := fun ρ1 l' hc hv' b' l1 h1 => by
          have h2 : ρ b' = some l1 := by
            rcases hc with rfl | ⟨N, _, rfl⟩
            · exact h1
            · unfold Map.cut at h1
              split at h1
              · exact h1
              · cases h1
          by_cases e : b' = b
          · subst e; rw [hl] at h2; cases h2; exact ⟨_, Map.put_same _ _ _, .inr ⟨b1, by omega⟩⟩
          · exact ⟨l1, by rw [Map.put_other _ _ e]; exact h1, .inl rfl⟩
        by_cases hX0 : X = []
        · subst hX0
          subst hse
          refine ⟨_, w, append_none hT hr hxv hX hsc, ?_⟩
          rw [List.append_nil] at hH
          refine set_arr hr hg hl hbr hH (w' := w) (l' := { l with ver := v + 1 }) rfl b1 (Nat.le_refl _) (fun _ _ _ => rfl) (fun h => .inl ⟨h, rfl⟩) (fun ρ1 hρ1 hbr1 => ⟨b1, rfl, b3, b4, b5, (fun h => by cases h), b7, fun h => ?_⟩) rfl ⟨fun h => ?_, fun h => ?_⟩
          · obtain ⟨vs, ty', fz, e1, e2, e3, e4⟩ := hbr1.2.2.2.2.2.2.2 h
            exact ⟨vs, ty', fz, e1, e2, e3, fun j cs hj => (e4 j cs hj).mono (fun _ _ => rfl) (fun _ h => h) (hle' ρ1 _ hρ1 rfl)⟩
          · obtain ⟨q, p1, p2, p3⟩ := g1 h
            exact ⟨q, by rw [p1], p2, by simpa using p3⟩
          · obtain ⟨p1, q, p2, p3⟩ := g2 h
            exact ⟨by simpa using p1, q, by simpa using p2, by simpa using p3⟩
        · have hXp : 0 < X.length := by
            cases X with
            | nil => exact absurd rfl hX0
            | cons _ _ => simp
          by_cases hfit : l.virt = false ∧ n + X.length ≤ l.cap
          · obtain ⟨hvi, hfit⟩ := hfit
            obtain ⟨p1, q, p2, p3⟩ := g2 hvi
            have := p3 (by omega)
            subst this
            rw [p2, b3]
            obtain ⟨vs', ty', fz, e1, e2, e3, e4, e5⟩ := append_store hT (ty := ty) hr hxv hX hg hl hbr hvi hle (by omega)
            refine ⟨_, _, e1, ?_⟩
            have hc : L.take (0 + n) ++ X ++ L.drop (0 + n + X.length) = L ++ X := by
              rw [Nat.zero_add, hn, List.take_length, List.drop_of_length_le (by omega), List.append_nil]
            refine set_arr hr hg hl hbr hH (l' := { l with ver := v + 1 }) rfl b1 (by rw [setB_size]; exact Nat.le_refl _) (fun B _ hB => setB_other (hB hvi)) (fun h => .inl ⟨h, rfl⟩) (fun ρ1 hρ1 hbr1 => ⟨b1, rfl, b3, hLX, by simp; omega, (fun h => by cases h), b7, fun h => ?_⟩) rfl ⟨fun h => ?_, fun h => ?_⟩
            · have e6 := e4 ρ1 hbr1 hρ1
              rw [hc] at e6
              exact ⟨vs', ty', fz, e5, e2, e3, fun j cs hj => (e6.2 j cs hj).mono (fun _ _ => rfl) (fun _ h => h) (hle' ρ1 _ hρ1 rfl)⟩
            · simp [hvi] at h
            · exact ⟨by simpa using hfit, _, rfl, fun _ => by simp [b3]⟩
          · have hg' : ¬ L.length + X.length ≤ sc := by
              cases hvi : l.virt with
              | true => obtain ⟨q, p1, p2, p3⟩ := g1 hvi; rw [p1] at hse; cases hse; omega
              | false => obtain ⟨p1, q, p2, p3⟩ := g2 hvi; rw [p2] at hse; cases hse; have : ¬ n + X.length ≤ l.cap := fun h => hfit ⟨hvi, h⟩; omega
            obtain ⟨nc, w', vs, ty', e1, e2, e3, e4, e5⟩ := append_new hT (ty := ty) hr hsv hxv hY hX (by rw [hse, hn]) hg' (by rw [← hn]; exact hb)
            refine ⟨_, w', e5, ?_⟩
            have hkeep : ∀ B, B < w.heap.size → w'.heap[B]? = w.heap[B]? := fun B hB => by
              rw [e2.1]; simp [Array.getElem?_push, Nat.ne_of_lt hB]
            rw [hn]
            refine set_arr hr hg hl hbr hH (hout := e2.2) (l' := { blk := w.heap.size, base := 0, cap := nc, esz := z', ver := v + 1, virt := false, arr := true }) rfl rfl (by rw [e2.1]; simp) (fun B hB _ => hkeep B hB) (fun _ => .inr ⟨Nat.le_refl _, by rw [e2.1]; simp⟩)
              (fun ρ1 hρ1 hbr1 => ⟨rfl, rfl, rfl, hLX, by simpa using e1, (fun h => by cases h), (fun h => by cases h), fun _ => ?_⟩) rfl ⟨fun h => (by cases h), fun _ => ⟨by simpa using e1, _, rfl, fun _ => by simp⟩⟩
            have e6 := e4 ρ1 (fun b' _ _ _ l2 x hs h1 h2 _ => by cases hs; rw [hl] at h1; cases h1; rw [hg] at h2; cases h2; exact hbr1) hρ1
            exact ⟨vs, ty', (0, 0), by rw [e2.1]; simp, fun o ho => by simp, by simpa using e3, fun j cs hj => (e6.2 j cs hj).mono (fun B hB => hkeep B (hr.fro B hB)) (fun _ h => h) (hle' ρ1 _ hρ1 rfl)⟩
      | false =>
        rw [hi] at h
        simp only [cond_false] at h
        cases hfit : decide (off + n + X.length ≤ L.length) with
        | true =>
          rw [hfit] at h
          replace hfit := of_decide_eq_true hfit
          simp only [cond_true, Option.map_eq_some_iff, Prod.mk.injEq] at h
          obtain ⟨H1, hH, rfl, rfl⟩ := h
          by_cases hX0 : X = []
          · subst hX0
            subst hse
            refine ⟨_, w, append_none hT hr hxv hX hsc, ?_⟩
            rw [List.append_nil, List.length_nil, Nat.add_zero, List.take_append_drop] at hH
            obtain ⟨p1, p2⟩ := hr.set (w' := w) (l' := l) hH hg rfl hl (Nat.le_refl _) (fun _ _ _ => rfl) (fun h => .inl ⟨h, rfl⟩) (.inl rfl) (fun _ => by rw [put_self hl]; exact hbr) (fun _ N _ _ h => by rw [put_self hl]; exact h)
            rw [put_self hl] at p1 p2
            exact ⟨ρ, F, hsv, p1, p2⟩
          · have hXp : 0 < X.length := by
              cases X with
              | nil => exact absurd rfl hX0
              | cons _ _ => simp
            have hvi : l.virt = false := by
              cases hvi : l.virt with
              | true => have := b7 hvi; omega
              | false => rfl
            obtain ⟨p1, q, p2, p3⟩ := g2 hvi
            have := p3 (by omega)
            subst this
            rw [p2, b3]
            obtain ⟨vs', ty', fz, e1, e2, e3, e4, e5⟩ := append_store hT (ty := ty) hr hxv hX hg hl hbr hvi hle (by omega)
            refine ⟨_, _, e1, ?_⟩
            have hlen : (L.take (off + n) ++ X ++ L.drop (off + n + X.length)).length = L.length := by simp; omega
            obtain ⟨r1, r2⟩ := set_cells (vs' := vs') (ty := ty') (fz := fz) hr hH hg rfl hl hvi (fun _ ρ1 hρ1 hbr1 => ⟨b1, b2, b3, (e4 ρ1 hbr1 hρ1).1, by rw [hlen]; exact b5, by rw [hlen]; exact b6, b7, fun _ => ⟨vs', ty', fz, e5, e2, e3, (e4 ρ1 hbr1 hρ1).2⟩⟩)
            exact ⟨ρ, F, .slc hl (by omega) rfl (fun _ => ⟨fun h => (by rw [hvi] at h; cases h), fun _ => ⟨by omega, _, rfl, fun _ => by rw [b3]⟩⟩), r1, r2⟩
        | false =>
          rw [hfit] at h
          replace hfit := of_decide_eq_false hfit
          simp only [cond_false] at h
          replace h := bif_some h
          obtain ⟨hex, h⟩ := h
          simp only [Option.some.injEq, Prod.mk.injEq] at h
          obtain ⟨rfl, rfl⟩ := h
          have hcap := b6 hex
          have hg' : ¬ ((L.drop off).take n).length + X.length ≤ sc := by
            rw [hYl]
            cases hvi : l.virt with
            | true => obtain ⟨q, p1, p2, p3⟩ := g1 hvi; rw [p1] at hse; cases hse; have := b7 hvi; omega
            | false => obtain ⟨p1, q, p2, p3⟩ := g2 hvi; rw [p2] at hse; cases hse; omega
          obtain ⟨nc, w', vs, ty', e1, e2, e3, e4, e5⟩ := append_new hT (ty := ty) hr hsv hxv hY hX (by rw [hse, hYl]) hg' (by rw [hYl]; exact hb)
          refine ⟨_, w', e5, ?_⟩
          rw [hYl]
          exact push_arr hr (ex := false) (hout := e2.2) e2.1 (by simpa using e1) (fun h => by cases h) e3 (e4 ρ (srcR_self hr) (.inl rfl)) _ (by rw [List.length_append, hYl]; exact Nat.le_refl _)
    · cases h
  · cases h
end
end Go.Sh
