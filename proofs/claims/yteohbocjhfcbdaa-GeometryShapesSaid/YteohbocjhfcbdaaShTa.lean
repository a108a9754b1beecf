/-
  THE SHADOW MACHINE, PART TA: blocks let go, blocks frozen; slices that are lists from the first.
-/
import Derived.Test.YteohbocjhfcbdaaShT
namespace Go.Sh
set_option linter.unusedSectionVars false
set_option linter.unusedVariables false
set_option linter.unusedSimpArgs false
set_option linter.unnecessarySimpa false
section
variable {C : Ctx}
/-- A block of elements that refer to nothing is let go, and what it holds is frozen. -/
theorem HR.thaw {ρ : Map} {F : Nat → Prop} {H H1 : Heap} {w : World} (hr : HR C ρ F H w) {b : Nat} {x : SBlk} {l : Loc} {refs : Nat} (hH : hset H b .dead refs = some H1) (hb : H.bl[b]? = some x) (hx : x.live = true) (hl : ρ b = some l) (hnl : ∀ r st p, x ≠ .loop r st p) :
    HR C ρ (fun B => F B ∨ (l.virt = false ∧ B = l.blk)) H1 w ∧ Ext C ρ F H w ρ (fun B => F B ∨ (l.virt = false ∧ B = l.blk)) H1 w := by
  obtain ⟨p1, p2⟩ := hr.set (w' := w) (l' := l) (y := .dead) hH hb hx hl (Nat.le_refl _) (fun _ _ _ => rfl) (fun h => .inl ⟨h, rfl⟩) (.inl rfl) (fun h => by cases h) (fun h => by cases h) (fun ⟨r, st, p, h⟩ => absurd h (hnl r st p))
  rw [put_self hl] at p1 p2
  have hro : H.ro ≤ b ∧ b < H.bl.length ∧ H1.bl = H.bl.set b .dead := by
    unfold hset at hH
    replace hH := bif_some hH
    obtain ⟨h1, h2⟩ := hH
    simp at h1
    cases h2
    exact ⟨h1.1, h1.2, rfl⟩
  have hown : ∀ b' l1, Own ρ H1 b' l1 → b' ≠ b ∧ Own ρ H b' l1 := by
    intro b' l1 ⟨⟨y, hy, hyl⟩, hm, hv⟩
    have hne : b' ≠ b := by
      intro e
      subst e
      rw [hro.2.2] at hy
      simp [hro.2.1] at hy
      subst hy; cases hyl
    rw [hro.2.2, List.getElem?_set_ne (Ne.symm hne)] at hy
    exact ⟨hne, ⟨y, hy, hyl⟩, hm, hv⟩
  refine ⟨⟨p1.dom, fun b' y hy hyl => ?_, p1.apart, fun b' l1 ho => ⟨fun h => ?_, (p1.own b' l1 ho).2⟩, fun B hB => ?_⟩, ?_⟩
  · obtain ⟨l1, h1, h2⟩ := p1.live b' y hy hyl
    exact ⟨l1, h1, h2.mono (fun _ _ => rfl) (fun _ h => .inl h) (Map.le_refl _) (fun _ => rfl)⟩
  · rcases h with h | ⟨hv, h⟩
    · exact (p1.own b' l1 ho).1 h
    · obtain ⟨h1, h2⟩ := hown b' l1 ho
      exact h1 (hr.apart b' b l1 l h2 ⟨⟨x, hb, hx⟩, hl, hv⟩ h)
  · rcases hB with h | ⟨hv, h⟩
    · exact p1.fro B h
    · rw [h]; exact (hr.own b l ⟨⟨x, hb, hx⟩, hl, hv⟩).2
  · refine ⟨⟨p2.map, fun _ h => .inl h, fun B hB => ?_, p2.frame, p2.size, p2.old, p2.ro, p2.esc, fun N hN hc h0 b' y l1 hb1 hy hyl hm => (p2.inv N hN hc h0 b' y l1 hb1 hy hyl hm).mono (fun _ _ => rfl) (fun _ h => .inl h) (Map.le_refl _) (fun _ => rfl), p2.lp, p2.ln, p2.out⟩, p2.nd⟩
    rcases hB with h | ⟨hv, h⟩
    · exact .inl h
    · exact .inr (.inr ⟨b, l, ⟨⟨x, hb, hx⟩, hl, hv⟩, hro.1, h.symm⟩)
/-- A slice whose block is frozen, as a list. -/
theorem vr_frozen {ρ ρ' : Map} {F F' : Nat → Prop} {H : Heap} {w : World} (hr : HR C ρ F H w) {b ver off n z : Nat} {L : List (List SV)} {ex : Bool} {val : Value} {l : Loc} (hv : VR w F ρ (.slc b ver off n) val) (hb : hget H b = some (.arr ver z L ex)) (hle : off + n ≤ L.length)
    (h0 : SV.refs.refsL ((L.drop off).take n).flatten = 0) (hl : ρ b = some l) (hFF : ∀ B, F B → F' B) (hF : l.virt = false → F' l.blk) : VR w F' ρ' (.lst z ((L.drop off).take n) false) val := by
  obtain ⟨l', z', L', ex', hl', hb', hbr, g1, g2⟩ := cur_slc hr (by unfold cur; simp [hb]) hv
  rw [hb] at hb'; cases hb'
  rw [hl] at hl'; cases hl'
  obtain ⟨b1, b2, b3, b4, b5, b6, b7, b8⟩ := hbr
  have hlen : ((L.drop off).take n).length = n := by simp; omega
  have hget : ∀ (i : Nat) cs, ((L.drop off).take n)[i]? = some cs → i < n ∧ L[off + i]? = some cs := by
    intro i cs hi
    rw [List.getElem?_take] at hi
    split at hi
    · rw [List.getElem?_drop] at hi; exact ⟨by assumption, hi⟩
    · cases hi
  cases hvi : l.virt with
  | true =>
    obtain ⟨q, rfl, rfl, rfl⟩ := g1 hvi
    have : VR w F' ρ' (.lst z [] false) (.slice q ([] : List (List SV)).length 0) := .lst (fun _ _ => undef) (Nat.le_refl _) (fun _ => rfl) (by simp) (.inl rfl) (by simp) (by simp)
    simpa using this
  | false =>
    obtain ⟨g3, q, rfl, g4⟩ := g2 hvi
    obtain ⟨vs, ty, fz, k1, k2, k3, k4⟩ := b8 hvi
    have hcell : ∀ (i j : Nat) cs c, ((L.drop off).take n)[i]? = some cs → cs[j]? = some c → ∃ v, vs[l.base + (off + i) * z + j]? = some v ∧ VR w F ρ c v ∧ c.ok1 = true := fun i j cs c hi hj => k4 _ cs (hget i cs hi).2 j c hj
    have hq : VR w F' ρ' (.lst z ((L.drop off).take n) false) (.slice q ((L.drop off).take n).length (l.cap - off)) := by
      refine .lst (fun i j => vs.getD (l.base + (off + i) * z + j) undef) (by omega) (fun h => by cases h) (fun i cs hi => b4 _ cs (hget i cs hi).2) ?_ (fun i j cs c hi hj => ?_) (fun i j cs c hi hj => ?_)
      · by_cases hn : n = 0
        · left; subst hn; simp
        · right
          refine ⟨l.blk, l.base + off * z, ?_, hF hvi, fun i j cs c hi hj => ?_⟩
          · rw [g4 (by omega), b3]
          · obtain ⟨v, h1, _⟩ := hcell i j cs c hi hj
            rw [cell_at k1, show l.base + off * z + i * z + j = l.base + (off + i) * z + j by rw [Nat.add_mul]; omega, h1]
            rw [Array.getD_eq_getD_getElem?, h1]; rfl
      · obtain ⟨v, h1, h2, h3⟩ := hcell i j cs c hi hj
        exact h3
      · obtain ⟨v, h1, h2, h3⟩ := hcell i j cs c hi hj
        rw [Array.getD_eq_getD_getElem?, h1]
        have hm : c ∈ ((L.drop off).take n).flatten := List.mem_flatten.2 ⟨cs, List.mem_of_getElem? hi, List.mem_of_getElem? hj⟩
        obtain ⟨m, hm⟩ := List.getElem?_of_mem hm
        have h5 := refsL_le (Nat.le_of_eq h0) m c hm
        have h6 := h2.cut 0 h5
        have : ρ.cut 0 = noMap := by funext b; simp [Map.cut]
        rw [this] at h6
        exact h6.mono (fun _ _ => rfl) hFF (Map.le_refl _)
    rw [hlen] at hq
    exact hq
/-! ### Blocks let go -/
theorem refs_lt {ρ : Map} {F : Nat → Prop} {w : World} {N : Nat} (hdom : ∀ b l, ρ b = some l → b < N) : ρ.cut N = ρ := by
  funext b
  unfold Map.cut
  split
  · rfl
  · rename_i h
    cases hb : ρ b with
    | none => rfl
    | some l => exact absurd (hdom b l hb) h
theorem cut_cut (ρ : Map) {N M : Nat} (h : M ≤ N) : (ρ.cut N).cut M = ρ.cut M := by
  funext b
  unfold Map.cut
  by_cases hb : b < M
  · simp [hb, show b < N by omega]
  · simp [hb]
structure Trunc (N : Nat) (H0 H H1 : Heap) : Prop where
  le : N ≤ H.bl.length
  clean : Clean N H.esc
  bl : H1.bl = H.bl.take N
  esc0 : ∀ p ∈ H0.esc, p ∈ H1.esc
  esc1 : ∀ p ∈ H.esc, p.1 < N → p ∈ H1.esc
  ro : H1.ro = H0.ro
theorem trunc_spec {N : Nat} {H0 H H1 : Heap} (h : trunc N H0 H = some H1) : Trunc N H0 H H1 := by
  unfold trunc at h
  replace h := bif_some h
  obtain ⟨hc, h⟩ := h
  cases h
  simp only [Bool.and_eq_true, decide_eq_true_eq] at hc
  refine ⟨hc.1, fun p hp => ?_, rfl, fun p hp => List.mem_append_left _ hp, fun p hp hl => List.mem_append_right _ (List.mem_filter.2 ⟨hp, by simpa using hl⟩), rfl⟩
  have := List.all_eq_true.1 hc.2 p hp
  simp only [Bool.not_eq_true', Bool.and_eq_false_iff, decide_eq_false_iff_not] at this
  omega
theorem HR.trunc {ρ0 ρ : Map} {F0 F : Nat → Prop} {H0 H H1 : Heap} {w0 w : World} {N : Nat} (hr0 : HR C ρ0 F0 H0 w0) (hN : H0.bl.length = N) (hr : HR C ρ F H w) (hx : Ext C ρ0 F0 H0 w0 ρ F H w) (ht : Trunc N H0 H H1) :
    HR C (ρ.cut N) F H1 w ∧ Ext C ρ0 F0 H0 w0 (ρ.cut N) F H1 w := by
  have hlen : H1.bl.length = N := by rw [ht.bl, List.length_take]; exact Nat.min_eq_left ht.le
  have hget : ∀ (b : Nat) x, H1.bl[b]? = some x → b < N ∧ H.bl[b]? = some x := by
    intro b x hb
    rw [ht.bl, List.getElem?_take] at hb
    split at hb
    · exact ⟨by assumption, hb⟩
    · cases hb
  have hcut : ∀ b l, ρ.cut N b = some l → b < N ∧ ρ b = some l := by
    intro b l hb
    unfold Map.cut at hb
    split at hb
    · exact ⟨by assumption, hb⟩
    · cases hb
  have hown : ∀ b l, Own (ρ.cut N) H1 b l → Own ρ H b l := by
    intro b l ⟨⟨x, hx, hxl⟩, hm, hv⟩
    exact ⟨⟨x, (hget b x hx).2, hxl⟩, (hcut b l hm).2, hv⟩
  have hinv : InvAt C N ρ F H w := hx.inv N ht.le ht.clean (fun _ b x l hb hbx hxl hl => by
    rw [refs_lt (F := F0) (w := w0) (fun b l h => hN ▸ hr0.dom b l h)]
    obtain ⟨l', h1, h2⟩ := hr0.live b x hbx hxl
    rw [hl] at h1; cases h1
    exact h2)
  refine ⟨⟨fun b l hb => by rw [hlen]; exact (hcut b l hb).1, fun b x hb hxl => ?_, fun b b' l l' h h' e => hr.apart b b' l l' (hown b l h) (hown b' l' h') e, fun b l ho => hr.own b l (hown b l ho), hr.fro⟩, ?_⟩
  · obtain ⟨h1, h2⟩ := hget b x hb
    obtain ⟨l, h3, _⟩ := hr.live b x h2 hxl
    exact ⟨l, by unfold Map.cut; rw [if_pos h1]; exact h3, hinv b x l h1 h2 hxl h3⟩
  · refine ⟨⟨fun b l hb => ?_, hx.fro, hx.new, hx.frame, hx.size, fun b l ho => hx.old b l (hown b l ho), ht.ro, ht.esc0, fun M hM hc h0 b x l hb hbx hxl hl => ?_, hx.lp, by rw [hlen]; omega, hx.out⟩, fun b l hb => hx.nd b l (hcut b l hb).2⟩
    · obtain ⟨l', h1, h2⟩ := hx.map b l hb
      have := hr0.dom b l hb
      exact ⟨l', by unfold Map.cut; rw [if_pos (by omega)]; exact h1, h2⟩
    · rw [hlen] at hM
      rw [cut_cut ρ hM]
      refine hx.inv M (Nat.le_trans hM ht.le) (fun p hp hpc => ?_) h0 b x l hb (hget b x hbx).2 hxl (hcut b l hl).2
      exact hc p (ht.esc1 p hp (by omega)) hpc
end
section
variable {C : Ctx} {ρ ρ0 ρ' : Map} {F F0 F' : Nat → Prop} {H H0 H' H1 : Heap} {w w0 w' : World}
theorem Ext.enter (hr : HR C ρ F H w) (h : Ext C ρ F { bl := H.bl, esc := [], ro := min H.ro H.bl.length } w ρ' F' H' w') (e1 : H1.bl = H'.bl) (e2 : H1.esc = H.esc ++ H'.esc) (e3 : H1.ro = H.ro) : Ext C ρ F H w ρ' F' H1 w' := by
  have hlt : ∀ b l, Own ρ { bl := H.bl, esc := [], ro := min H.ro H.bl.length } b l → Own ρ H b l ∧ b < H.bl.length := fun b l ho => ⟨ho, hr.dom b l ho.2.1⟩
  have hown : ∀ b l, Own ρ' H1 b l → Own ρ' H' b l := fun b l ⟨⟨x, hx, hxl⟩, hm, hv⟩ => ⟨⟨x, e1 ▸ hx, hxl⟩, hm, hv⟩
  refine ⟨⟨fun b l hb => ?_, h.fro, fun B hB => ?_, fun B hB hno => h.frame B hB (fun b l ho hm => hno b l ho (by have := (hlt b l ho).2; simp only at hm; omega)), h.size, fun b l ho => h.old b l (hown b l ho), e3, fun p hp => ?_, fun N hN hc h0 b x l hb hx hxl hl => ?_, h.lp, e1 ▸ h.ln, h.out⟩, h.nd⟩
  · obtain ⟨l', h1, h2⟩ := h.map b l hb
    refine ⟨l', h1, h2.imp id (fun ⟨a, c⟩ => ⟨?_, c⟩)⟩
    have := hr.dom b l hb
    simp only at a
    omega
  · rcases h.new B hB with h1 | h1 | ⟨b, l, h1, h2, h3⟩
    · exact .inl h1
    · exact .inr (.inl h1)
    · have := (hlt b l h1).2
      exact .inr (.inr ⟨b, l, h1, by simp only at h2; omega, h3⟩)
  · rw [e2]; exact List.mem_append_left _ hp
  · rw [e1] at hx hN
    exact h.inv N hN (fun p hp => hc p (by rw [e2]; exact List.mem_append_right _ hp)) h0 b x l hb hx hxl hl
theorem HR.bl (hr : HR C ρ F H w) (e1 : H1.bl = H.bl) : HR C ρ F H1 w :=
  ⟨fun b l h => e1 ▸ hr.dom b l h, fun b x hb hx => hr.live b x (e1 ▸ hb) hx, fun b b' l l' h h' e => hr.apart b b' l l' (by obtain ⟨⟨x, h1, h2⟩, h3⟩ := h; exact ⟨⟨x, e1 ▸ h1, h2⟩, h3⟩) (by obtain ⟨⟨x, h1, h2⟩, h3⟩ := h'; exact ⟨⟨x, e1 ▸ h1, h2⟩, h3⟩) e,
    fun b l h => hr.own b l (by obtain ⟨⟨x, h1, h2⟩, h3⟩ := h; exact ⟨⟨x, e1 ▸ h1, h2⟩, h3⟩), hr.fro⟩
/-- What a call made is let go. -/
theorem trunc_leave (hr0 : HR C ρ0 F0 H0 w0) (hr : HR C ρ F H w) (hx : Ext C ρ0 F0 { bl := H0.bl, esc := [], ro := min H0.ro H0.bl.length } w0 ρ F H w) (ht : trunc H0.bl.length H0 H = some H1) :
    HR C (ρ.cut H0.bl.length) F H1 w ∧ Ext C ρ0 F0 H0 w0 (ρ.cut H0.bl.length) F H1 w := by
  have hts := trunc_spec ht
  unfold Go.Sh.trunc at ht
  replace ht := bif_some ht
  obtain ⟨hc, ht⟩ := ht
  cases ht
  have hT : Trunc H0.bl.length { bl := H0.bl, esc := [], ro := min H0.ro H0.bl.length } H { bl := H.bl.take H0.bl.length, esc := H.esc.filter (fun p => decide (p.1 < H0.bl.length)), ro := min H0.ro H0.bl.length } :=
    ⟨hts.le, hts.clean, rfl, (fun _ h => by cases h), fun p hp hl => List.mem_filter.2 ⟨hp, by simpa using hl⟩, rfl⟩
  obtain ⟨p1, p2⟩ := HR.trunc (H0 := { bl := H0.bl, esc := [], ro := min H0.ro H0.bl.length }) (hr0.bl rfl) rfl hr hx hT
  exact ⟨p1.bl rfl, p2.enter hr0 rfl rfl rfl⟩
theorem HR.more (hr : HR C ρ F H w) (hFF : ∀ B, F B → F' B) (h : ∀ B, F' B → F B ∨ (B < w.heap.size ∧ ∀ b l, Own ρ H b l → l.blk ≠ B)) : HR C ρ F' H w :=
  ⟨hr.dom, fun b x hb hx => let ⟨l, h1, h2⟩ := hr.live b x hb hx; ⟨l, h1, h2.mono (fun _ _ => rfl) hFF (Map.le_refl _) (fun _ => rfl)⟩, hr.apart,
    fun b l ho => ⟨fun hF => (h _ hF).elim (hr.own b l ho).1 (fun h1 => h1.2 b l ho rfl), (hr.own b l ho).2⟩, fun B hB => (h B hB).elim (hr.fro B) (·.1)⟩
theorem Ext.more (hx : Ext C ρ0 F0 H0 w0 ρ F H w) (hFF : ∀ B, F B → F' B) (h : ∀ B, F' B → F B ∨ w0.heap.size ≤ B) : Ext C ρ0 F0 H0 w0 ρ F' H w :=
  ⟨⟨hx.map, fun B hB => hFF B (hx.fro B hB), fun B hB => (h B hB).elim (hx.new B) (fun h => .inr (.inl h)), hx.frame, hx.size, hx.old, hx.ro, hx.esc,
    fun N hN hc h0 b x l hb hxx hxl hl => (hx.inv N hN hc h0 b x l hb hxx hxl hl).mono (fun _ _ => rfl) hFF (Map.le_refl _) (fun _ => rfl), hx.lp, hx.ln, hx.out⟩, hx.nd⟩
/-- Blocks that nobody owns have turned. -/
theorem HR.other (hr : HR C ρ F H w) (hx : Ext C ρ0 F0 H0 w0 ρ F H w) (hs : w'.heap.size = w.heap.size) (ho' : w'.os = w.os ∧ w'.output = w.output)
    (hh : ∀ B, (F B ∨ (∃ b l, Own ρ H b l ∧ l.blk = B) ∨ B < w0.heap.size) → w'.heap[B]? = w.heap[B]?) : HR C ρ F H w' ∧ Ext C ρ0 F0 H0 w0 ρ F H w' := by
  have hk : Keeps F w w' := fun B hB => hh B (.inl hB)
  have ho : ∀ b l x, H.bl[b]? = some x → x.live = true → ρ b = some l → l.virt = false → w'.heap[l.blk]? = w.heap[l.blk]? := fun b l x h1 h2 h3 h4 => hh _ (.inr (.inl ⟨b, l, ⟨⟨x, h1, h2⟩, h3, h4⟩, rfl⟩))
  refine ⟨⟨hr.dom, fun b x hb hxl => ?_, hr.apart, fun b l h => ⟨(hr.own b l h).1, hs ▸ (hr.own b l h).2⟩, fun B hB => hs ▸ hr.fro B hB⟩, ?_⟩
  · obtain ⟨l, h1, h2⟩ := hr.live b x hb hxl
    exact ⟨l, h1, h2.mono hk (fun _ h => h) (Map.le_refl _) (fun hv => ho b l x hb hxl h1 hv)⟩
  · refine ⟨⟨hx.map, hx.fro, hx.new, fun B hB hno => (hh B (.inr (.inr hB))).trans (hx.frame B hB hno), hs ▸ hx.size, hx.old, hx.ro, hx.esc, fun N hN hc h0 b x l hb hxx hxl hl => ?_, fun B q hq => ?_, hx.ln, ⟨ho'.1.trans hx.out.1, ho'.2.trans hx.out.2⟩⟩, hx.nd⟩
    · exact (hx.inv N hN hc h0 b x l hb hxx hxl hl).mono hk (fun _ h => h) (Map.le_refl _) (fun hv => ho b l x hxx hxl hl hv)
    · obtain ⟨q', h1⟩ := hx.lp B q hq
      exact ⟨q', (hh B (.inr (.inr (Array.getElem?_eq_some_iff.1 hq).1))).trans h1⟩
theorem frz_ok1 {N : Nat} : ∀ (d : Nat) {v v' : SV}, frz N H d v = some v' → v.ok1 = true → v'.ok1 = true
  | 0, v, v', h, _ => by simp [frz] at h
  | d + 1, v, v', h, h1 => by
    unfold frz at h
    split at h
    · cases h1
    · cases h1
    · rename_i b ver off n
      cases hb : decide (b < N) with
      | true => rw [hb] at h; cases h; rfl
      | false =>
        rw [hb] at h
        simp only [cond_false] at h
        split at h
        · replace h := bif_some h
          obtain ⟨_, h⟩ := h
          simp only [Option.bind_eq_some_iff] at h
          obtain ⟨L', _, h⟩ := h
          replace h := bif_some h
          cases h.2; rfl
        · cases h
    · cases h; rfl
    · cases h; rfl
    · cases h; rfl
    · replace h := bif_some h
      cases h.2; exact h1
theorem frz_vr {N : Nat} (hr : HR C ρ F H w) (hFF : ∀ B, F B → F' B) (hF : ∀ b l, Own ρ H b l → N ≤ b → F' l.blk) : ∀ (d : Nat) {v v' : SV} {val : Value}, frz N H d v = some v' → VR w F ρ v val → VR w F' (ρ.cut N) v' val
  | 0, v, v', val, h, _ => by simp [frz] at h
  | d + 1, v, v', val, h, hv => by
    have ih := fun {v v' val} => frz_vr hr hFF hF d (v := v) (v' := v') (val := val)
    have small : ∀ {v : SV} {val : Value}, v.refs ≤ N → VR w F ρ v val → VR w F' (ρ.cut N) v val := fun h1 h2 => (h2.cut N h1).mono (fun _ _ => rfl) hFF (Map.le_refl _)
    unfold frz at h
    split at h
    · rename_i cs
      simp only [Option.map_eq_some_iff] at h
      obtain ⟨cs', h1, rfl⟩ := h
      obtain ⟨hl, hp⟩ := allS_map h1
      cases hv with
      | agg hn h1' hv' =>
        have hj : ∀ (j : Nat) c', cs'[j]? = some c' → ∃ c, cs[j]? = some c ∧ frz N H d c = some c' := fun j c' hj => by
          have hlt := (List.getElem?_eq_some_iff.1 hj).1
          have hc : cs[j]? = some cs[j] := List.getElem?_eq_getElem (by omega)
          exact ⟨_, hc, hp j _ _ hc hj⟩
        refine .agg (by omega) (fun j c' hjc => ?_) (fun j c' v hjc hjv => ?_)
        · obtain ⟨c, k1, k2⟩ := hj j c' hjc
          exact frz_ok1 d k2 (h1' j c k1)
        · obtain ⟨c, k1, k2⟩ := hj j c' hjc
          exact ih k2 (hv' j c v k1 hjv)
    · rename_i cs
      simp only [Option.map_eq_some_iff] at h
      obtain ⟨cs', h1, rfl⟩ := h
      obtain ⟨hl, hp⟩ := allS_map h1
      cases hv with
      | tup hn hv' =>
        refine .tup (by omega) (fun j c' v hjc hjv => ?_)
        have hlt := (List.getElem?_eq_some_iff.1 hjc).1
        have hc : cs[j]? = some cs[j] := List.getElem?_eq_getElem (by omega)
        exact ih (hp j _ _ hc hjc) (hv' j _ v hc hjv)
    · rename_i b ver off n
      cases hb : decide (b < N) with
      | true =>
        rw [hb] at h; cases h
        exact small (by simp only [SV.refs]; simp at hb; omega) hv
      | false =>
        rw [hb] at h
        simp only [decide_eq_false_iff_not, Nat.not_lt] at hb
        simp only [cond_false] at h
        split at h
        · rename_i ver' z L ex hbl
          replace h := bif_some h
          obtain ⟨hc, h⟩ := h
          simp only [Bool.and_eq_true, beq_iff_eq, decide_eq_true_eq] at hc
          obtain ⟨rfl, hle⟩ := hc
          simp only [Option.bind_eq_some_iff] at h
          obtain ⟨L', hL', h⟩ := h
          replace h := bif_some h
          obtain ⟨h0, h⟩ := h
          cases h
          have h0 : SV.refs.refsL L'.flatten = 0 := by simpa using h0
          obtain ⟨hl1, hp⟩ := allS_map hL'
          obtain ⟨l, z', L2, ex', hl', hb', hbr, g1, g2⟩ := cur_slc hr (by unfold cur; simp [hbl]) hv
          rw [hbl] at hb'; cases hb'
          obtain ⟨b1, b2, b3, b4, b5, b6, b7, b8⟩ := hbr
          have hlen : L'.length = n := by rw [hl1]; simp; omega
          have hget : ∀ (i : Nat) cs', L'[i]? = some cs' → ∃ cs, L[off + i]? = some cs ∧ cs'.length = cs.length ∧ ∀ (j : Nat) c', cs'[j]? = some c' → ∃ c, cs[j]? = some c ∧ frz N H d c = some c' := by
            intro i cs' hi
            have hlt := (List.getElem?_eq_some_iff.1 hi).1
            have hsrc : ((L.drop off).take n)[i]? = some ((L.drop off).take n)[i] := List.getElem?_eq_getElem (by omega)
            obtain ⟨k1, k2⟩ := allS_map (hp i _ _ hsrc hi)
            refine ⟨((L.drop off).take n)[i], ?_, k1, fun j c' hj => ?_⟩
            · rw [← hsrc, List.getElem?_take, if_pos (by omega), List.getElem?_drop]
            · have hlt' := (List.getElem?_eq_some_iff.1 hj).1
              have hcj : (((L.drop off).take n)[i])[j]? = some _ := List.getElem?_eq_getElem (by omega)
              exact ⟨_, hcj, k2 j _ _ hcj hj⟩
          cases hvi : l.virt with
          | true =>
            obtain ⟨q, rfl, rfl, rfl⟩ := g1 hvi
            have : L' = [] := List.eq_nil_of_length_eq_zero hlen
            subst this
            have : VR w F' (ρ.cut N) (.lst z [] false) (.slice q ([] : List (List SV)).length 0) := .lst (fun _ _ => undef) (Nat.le_refl _) (fun _ => rfl) (by simp) (.inl rfl) (by simp) (by simp)
            simpa using this
          | false =>
            obtain ⟨g3, q, rfl, g4⟩ := g2 hvi
            obtain ⟨vs, ty, fz, k1, k2, k3, k4⟩ := b8 hvi
            have hcell : ∀ (i j : Nat) cs' c', L'[i]? = some cs' → cs'[j]? = some c' → ∃ v, vs[l.base + (off + i) * z + j]? = some v ∧ VR w F' (ρ.cut N) c' v ∧ c'.ok1 = true := by
              intro i j cs' c' hi hj
              obtain ⟨cs, h1, _, h3⟩ := hget i cs' hi
              obtain ⟨c, h4, h5⟩ := h3 j c' hj
              obtain ⟨v, h6, h7, h8⟩ := k4 _ cs h1 j c h4
              exact ⟨v, h6, ih h5 h7, frz_ok1 d h5 h8⟩
            have hFl : F' l.blk := hF b l ⟨⟨_, hbl, rfl⟩, hl', hvi⟩ hb
            have hq : VR w F' (ρ.cut N) (.lst z L' false) (.slice q L'.length (l.cap - off)) := by
              refine .lst (fun i j => vs.getD (l.base + (off + i) * z + j) undef) (by omega) (fun h => by cases h) (fun i cs' hi => ?_) ?_ (fun i j cs' c' hi hj => ?_) (fun i j cs' c' hi hj => ?_)
              · obtain ⟨cs, h1, h2, _⟩ := hget i cs' hi
                rw [h2]; exact b4 _ cs h1
              · by_cases hn : n = 0
                · left; exact List.eq_nil_of_length_eq_zero (by omega)
                · right
                  refine ⟨l.blk, l.base + off * z, ?_, hFl, fun i j cs' c' hi hj => ?_⟩
                  · rw [g4 (by omega), b3]
                  · obtain ⟨v, h1, _⟩ := hcell i j cs' c' hi hj
                    rw [cell_at k1, show l.base + off * z + i * z + j = l.base + (off + i) * z + j by rw [Nat.add_mul]; omega, h1]
                    rw [Array.getD_eq_getD_getElem?, h1]; rfl
              · obtain ⟨v, h1, h2, h3⟩ := hcell i j cs' c' hi hj
                exact h3
              · obtain ⟨v, h1, h2, h3⟩ := hcell i j cs' c' hi hj
                rw [Array.getD_eq_getD_getElem?, h1]
                have hm : c' ∈ L'.flatten := List.mem_flatten.2 ⟨cs', List.mem_of_getElem? hi, List.mem_of_getElem? hj⟩
                obtain ⟨m, hm⟩ := List.getElem?_of_mem hm
                have h6 := h2.cut 0 (refsL_le (Nat.le_of_eq h0) m c' hm)
                have : (ρ.cut N).cut 0 = noMap := by funext b; simp [Map.cut]
                rw [this] at h6
                exact h6
            rw [hlen] at hq
            exact hq
        · cases h
    · cases h; exact small (Nat.zero_le _) hv
    · cases h; exact small (Nat.zero_le _) hv
    · cases h; exact small (Nat.zero_le _) hv
    · replace h := bif_some h
      obtain ⟨h1, h⟩ := h
      cases h
      exact small (by simpa using h1) hv
theorem own_cut {ρ : Map} {N : Nat} {H H1 : Heap} (hb : H1.bl = H.bl.take N) : ∀ b l, Own (ρ.cut N) H1 b l → Own ρ H b l := by
  intro b l ⟨⟨x, hx, hxl⟩, hm, hv⟩
  rw [hb, List.getElem?_take] at hx
  unfold Map.cut at hm
  split at hx
  · rename_i hlt
    rw [if_pos hlt] at hm
    exact ⟨⟨x, hx, hxl⟩, hm, hv⟩
  · cases hx
theorem leave_ok {keep : Bool} {v v1 : SV} {val : Value} (hr0 : HR C ρ0 F0 H0 w0) (hr : HR C ρ F H w) (hx : Ext C ρ0 F0 { bl := H0.bl, esc := [], ro := min H0.ro H0.bl.length } w0 ρ F H w) (hv : VR w F ρ v val)
    (h : leave1 keep H0 v H = some (v1, H1)) : Done C ρ0 F0 H0 w0 v1 H1 val w := by
  unfold leave1 at h
  cases keep with
  | true =>
    cases h
    exact ⟨ρ, F, hv, hr.bl rfl, hx.enter hr0 rfl rfl rfl⟩
  | false =>
    simp only [cond_false, Option.bind_eq_some_iff, Option.map_eq_some_iff, Prod.mk.injEq] at h
    obtain ⟨v2, hf, H2, ht, rfl, rfl⟩ := h
    obtain ⟨p1, p2⟩ := trunc_leave hr0 hr hx ht
    have hts := trunc_spec ht
    refine ⟨_, fun B => F B ∨ ∃ b l, Own ρ H b l ∧ H0.bl.length ≤ b ∧ l.blk = B, frz_vr hr (fun _ h => .inl h) (fun b l ho hb => .inr ⟨b, l, ho, hb, rfl⟩) _ hf hv, p1.more (fun _ h => .inl h) (fun B hB => ?_), p2.more (fun _ h => .inl h) (fun B hB => ?_)⟩
    · rcases hB with h | ⟨b, l, ho, hb, rfl⟩
      · exact .inl h
      · refine .inr ⟨(hr.own b l ho).2, fun b' l' ho' e => ?_⟩
        have h1 := hr.apart b' b l' l (own_cut hts.bl b' l' ho') ho e
        have h2 := ho'.2.1
        unfold Map.cut at h2
        split at h2
        · omega
        · cases h2
    · rcases hB with h | ⟨b, l, ho, hb, rfl⟩
      · exact .inl h
      · rcases hx.old b l ho with h1 | ⟨l0, h1, _⟩
        · exact .inr h1
        · have := hr0.dom b l0 h1.2.1
          omega
theorem frz_self {N : Nat} {d : Nat} {v : SV} (h1 : v.ok1 = true) (h0 : v.refs = 0) : frz N H (d + 1) v = some v := by
  cases v <;> simp_all [frz, SV.ok1, SV.refs]
theorem allS_self {A : Type} {f : A → Option A} : ∀ (l : List A), (∀ x ∈ l, f x = some x) → allS (l.map f) = some l
  | [], _ => rfl
  | x :: l, h => by
    simp only [List.map_cons, h x (List.mem_cons_self ..), allS, allS_self l (fun y hy => h y (List.mem_cons_of_mem _ hy)), Option.map_some]
/-- A slice that is written out and frozen. -/
theorem ok_blist {e : Env} {a : Act} {s : SV} {o : Oper} {esz n : Nat} {z : List SV} {ps : List (Nat × Opd)} (hop : cop C.P o.op = some (.bslice esz z n ps))
    (hs : sop e H (.blist esz z n ps) = some (s, H')) (hr : HR C ρ F H w) (he : ER w F ρ e a.tmps) : OpOK C (execOp a.eval o) ρ F H w s H' := by
  simp only [sop, Option.map_eq_some_iff, Option.bind_eq_some_iff, Prod.mk.injEq] at hs
  obtain ⟨s', ⟨L, hL, h0⟩, rfl, rfl⟩ := hs
  replace h0 := bif_some h0
  obtain ⟨h0, h1⟩ := h0
  cases h1
  have h0 : SV.refs.refsL L.flatten = 0 := by simpa using h0
  have hlen : L.length = n := by
    have : ∀ (ps : List (Nat × Opd)) (l r : List (List SV)), fillS (ev e) esz l ps = some r → r.length = l.length := by
      intro ps
      induction ps with
      | nil => intro l r h; simp [fillS] at h; rw [h]
      | cons p ps ih =>
        intro l r h
        obtain ⟨i, x⟩ := p
        simp only [fillS, Option.bind_eq_some_iff] at h
        obtain ⟨cs, _, h⟩ := h
        replace h := bif_some h
        have := ih _ _ h.2
        simpa using this
    simpa using this ps _ _ hL
  let Hc : Heap := { bl := H.bl, esc := [], ro := min H.ro H.bl.length }
  have hsop : sop e Hc (.bslice esz z n ps) = some (.slc H.bl.length 0 0 n, hnew Hc (.arr 0 esz L true)) := by simp only [sop, hL, Option.map_some, Hc]
  obtain ⟨val, w', hy, ρ1, F1, d1, d2, d3⟩ := ok_op hop (hr.bl (H1 := Hc) rfl) he hsop
  have hg : hget (hnew Hc (.arr 0 esz L true)) H.bl.length = some (.arr 0 esz L true) := by simp [hget, hnew, Hc]
  obtain ⟨l, hl, hbr⟩ := d2.live _ _ hg rfl
  obtain ⟨b1, b2, b3, b4, b5, b6, b7, b8⟩ := hbr
  have hok : ∀ r ∈ L, ∀ c ∈ r, c.ok1 = true := by
    intro r hr' c hc
    obtain ⟨i, hi⟩ := List.getElem?_of_mem hr'
    obtain ⟨j, hj⟩ := List.getElem?_of_mem hc
    cases hv : l.virt with
    | true =>
      have := b7 hv
      have := (List.getElem?_eq_some_iff.1 hi).1
      omega
    | false =>
      obtain ⟨vs, ty, fz, k1, k2, k3, k4⟩ := b8 hv
      obtain ⟨v, _, _, h⟩ := k4 i r hi j c hj
      exact h
  have hrf : ∀ r ∈ L, ∀ c ∈ r, c.refs = 0 := by
    intro r hr' c hc
    obtain ⟨m, hm⟩ := List.getElem?_of_mem (List.mem_flatten.2 ⟨r, hr', hc⟩)
    have := refsL_le (Nat.le_of_eq h0) m c hm
    omega
  have hfz : allS (((L.drop 0).take n).map fun cs => allS (cs.map (frz H.bl.length (hnew Hc (.arr 0 esz L true)) 7))) = some L := by
    rw [List.drop_zero, List.take_of_length_le (by omega)]
    exact allS_self L (fun r hr' => allS_self r (fun c hc => frz_self (d := 6) (hok r hr' c hc) (hrf r hr' c hc)))
  have hleave : leave1 false H (.slc H.bl.length 0 0 n) (hnew Hc (.arr 0 esz L true)) = some (.lst esz L false, H) := by
    have h1 : frz H.bl.length (hnew Hc (.arr 0 esz L true)) 8 (.slc H.bl.length 0 0 n) = some (.lst esz L false) := by
      unfold frz
      simp only [Nat.lt_irrefl, decide_false, cond_false, hg]
      rw [hfz]
      simp [h0, hlen]
    have h2 : trunc H.bl.length H (hnew Hc (.arr 0 esz L true)) = some H := by
      simp [trunc, hnew, Hc]
    unfold leave1
    simp only [cond_false, depth1, h1, Option.bind_some, h2, Option.map_some]
  exact ⟨val, w', hy, leave_ok hr d2 d3 d1 hleave⟩
/-- One operation, a call or none, as the compiler has it. -/
theorem step1_lit {rec : Rec} (hrec : RecOK C rec) {e : Env} {a : Act} {s : SV} {o : Oper} {op : Op1} {b : Bool} (hop : op = lit1 b ((cop C.P o.op).getD .bad)) (hs : step1 rec e H op = some (s, H')) (hr : HR C ρ F H w) (he : ER w F ρ e a.tmps)
    {ro : Option Nat} {n : Nat} {K : Act → World → Prop} {Q : Exit → Act → World → Prop} (hK : ∀ val w', Done C ρ F H w s H' val w' → K (a.put o.dst val) w') : o.wpIn (WF ro) n C.P a w K Q := by
  cases hc : cop C.P o.op with
  | none =>
    rw [hc] at hop
    have : op = .bad := by rw [hop]; cases b <;> rfl
    subst this
    cases hs
  | some op0 =>
    rw [hc] at hop
    simp only [Option.getD_some] at hop
    by_cases hl : ∃ esz z n ps, b = true ∧ op0 = .bslice esz z n ps
    · obtain ⟨esz, z, m, ps, rfl, rfl⟩ := hl
      subst hop
      obtain ⟨val, w', h1, h2⟩ := ok_blist hc hs hr he
      refine ⟨fun _ _ => trivial, ?_⟩
      rw [Oper.semAt_eq _ _ _ (not_defer hc)]
      rcases h1 with h1 | ⟨h1, rfl⟩
      · rw [h1]; exact hK _ _ h2
      · rw [h1]; exact hK _ _ h2
    · have : op = op0 := by
        rw [hop]
        unfold lit1
        split
        · exact absurd ⟨_, _, _, _, rfl, rfl⟩ hl
        · rfl
      subst this
      exact step1_ok hrec hc hs hr he hK
end
end Go.Sh
