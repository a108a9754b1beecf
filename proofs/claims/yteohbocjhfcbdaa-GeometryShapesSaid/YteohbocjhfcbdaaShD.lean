/-
  THE SHADOW MACHINE, PART D: shadow heaps that stand for worlds; new blocks, blocks written.
-/
import Derived.Test.YteohbocjhfcbdaaShC
namespace Go.Sh
set_option linter.unusedSectionVars false
set_option linter.unnecessarySimpa false
set_option linter.unusedSimpArgs false
set_option linter.unusedVariables false
def SBlk.live : SBlk → Bool
  | .dead => false
  | _ => true
/-- Shadow block b is alive and fills a block of the model's. -/
def Own (ρ : Map) (H : Heap) (b : Nat) (l : Loc) : Prop := (∃ x, H.bl[b]? = some x ∧ x.live = true) ∧ ρ b = some l ∧ l.virt = false
structure HR (C : Ctx) (ρ : Map) (F : Nat → Prop) (H : Heap) (w : World) : Prop where
  dom : ∀ b l, ρ b = some l → b < H.bl.length
  live : ∀ (b : Nat) x, H.bl[b]? = some x → x.live = true → ∃ l, ρ b = some l ∧ BR C w F ρ l x
  apart : ∀ b b' l l', Own ρ H b l → Own ρ H b' l' → l.blk = l'.blk → b = b'
  own : ∀ b l, Own ρ H b l → ¬ F l.blk ∧ l.blk < w.heap.size
  fro : ∀ B, F B → B < w.heap.size
/-- No entry speaks of a reference from below N to N or beyond. -/
def Clean (N : Nat) (es : List (Nat × Nat)) : Prop := ∀ p ∈ es, ¬ (p.1 < N ∧ N < p.2)
/-- The blocks below N refer to nothing from N on. -/
def InvAt (C : Ctx) (N : Nat) (ρ : Map) (F : Nat → Prop) (H : Heap) (w : World) : Prop := ∀ b x l, b < N → H.bl[b]? = some x → x.live = true → ρ b = some l → BR C w F (ρ.cut N) l x
/-- What has become of things: nothing but what was owned, from 'ro' on, has changed. -/
structure Ext0 (C : Ctx) (ρ : Map) (F : Nat → Prop) (H : Heap) (w : World) (ρ' : Map) (F' : Nat → Prop) (H' : Heap) (w' : World) : Prop where
  map : ∀ b l, ρ b = some l → ∃ l', ρ' b = some l' ∧ (l' = l ∨ (H.ro ≤ b ∧ l.arr = true ∧ l.ver < l'.ver))
  fro : ∀ B, F B → F' B
  new : ∀ B, F' B → F B ∨ w.heap.size ≤ B ∨ ∃ b l, Own ρ H b l ∧ H.ro ≤ b ∧ l.blk = B
  frame : ∀ B, B < w.heap.size → (∀ b l, Own ρ H b l → H.ro ≤ b → l.blk ≠ B) → w'.heap[B]? = w.heap[B]?
  size : w.heap.size ≤ w'.heap.size
  old : ∀ b l', Own ρ' H' b l' → w.heap.size ≤ l'.blk ∨ ∃ l, Own ρ H b l ∧ l.blk = l'.blk
  ro : H'.ro = H.ro
  esc : ∀ p ∈ H.esc, p ∈ H'.esc
  inv : ∀ N, N ≤ H'.bl.length → Clean N H'.esc → (N ≤ H.bl.length → InvAt C N ρ F H w) → InvAt C N ρ' F' H' w'
  lp : ∀ (B : Nat) (q : Loop), w.heap[B]? = some (.loop q) → ∃ q' : Loop, w'.heap[B]? = some (.loop q')
  ln : H.bl.length ≤ H'.bl.length
  out : w'.os = w.os ∧ w'.output = w.output
structure Ext (C : Ctx) (ρ : Map) (F : Nat → Prop) (H : Heap) (w : World) (ρ' : Map) (F' : Nat → Prop) (H' : Heap) (w' : World) : Prop extends Ext0 C ρ F H w ρ' F' H' w' where
  nd : ∀ b l', ρ' b = some l' → (∃ l, ρ b = some l) ∨ H.bl.length ≤ b
section
variable {C : Ctx} {ρ ρ' ρ'' : Map} {F F' F'' : Nat → Prop} {H H' H'' : Heap} {w w' w'' : World}
theorem Ext.refl (ρ : Map) (F : Nat → Prop) (H : Heap) (w : World) : Ext C ρ F H w ρ F H w :=
  ⟨⟨fun _ l h => ⟨l, h, .inl rfl⟩, fun _ h => h, fun _ h => .inl h, fun _ _ _ => rfl, Nat.le_refl _, fun _ l h => .inr ⟨l, h, rfl⟩, rfl, fun _ h => h, fun N hN _ h => h hN, fun _ q h => ⟨q, h⟩, Nat.le_refl _, ⟨rfl, rfl⟩⟩, fun _ l h => .inl ⟨l, h⟩⟩
theorem Ext0.trans (h : Ext0 C ρ F H w ρ' F' H' w') (h' : Ext0 C ρ' F' H' w' ρ'' F'' H'' w'') : Ext0 C ρ F H w ρ'' F'' H'' w'' where
  map := fun b l hl => by
    obtain ⟨l1, h1, e1⟩ := h.map b l hl
    obtain ⟨l2, h2, e2⟩ := h'.map b l1 h1
    refine ⟨l2, h2, ?_⟩
    rcases e1 with rfl | ⟨r1, a1, v1⟩
    · rcases e2 with rfl | ⟨r2, a2, v2⟩
      · exact .inl rfl
      · exact .inr ⟨h.ro ▸ r2, a2, v2⟩
    · rcases e2 with rfl | ⟨_, _, v2⟩
      · exact .inr ⟨r1, a1, v1⟩
      · exact .inr ⟨r1, a1, by omega⟩
  fro := fun B hB => h'.fro B (h.fro B hB)
  new := fun B hB => by
    rcases h'.new B hB with h1 | h1 | ⟨b, l, ho, hr, rfl⟩
    · exact h.new B h1
    · exact .inr (.inl (Nat.le_trans h.size h1))
    · rcases h.old b l ho with h2 | ⟨l0, h2, e2⟩
      · exact .inr (.inl h2)
      · exact .inr (.inr ⟨b, l0, h2, h.ro ▸ hr, e2⟩)
  frame := fun B hB hno => by
    rw [h'.frame B (Nat.lt_of_lt_of_le hB h.size) (fun b l ho hr e => ?_), h.frame B hB hno]
    rcases h.old b l ho with h2 | ⟨l0, h2, e2⟩
    · omega
    · exact hno b l0 h2 (h.ro ▸ hr) (e2.trans e)
  size := Nat.le_trans h.size h'.size
  old := fun b l ho => by
    rcases h'.old b l ho with h1 | ⟨l1, h1, e1⟩
    · exact .inl (Nat.le_trans h.size h1)
    · rcases h.old b l1 h1 with h2 | ⟨l0, h2, e2⟩
      · exact .inl (e1 ▸ h2)
      · exact .inr ⟨l0, h2, e2.trans e1⟩
  ro := h'.ro.trans h.ro
  esc := fun p hp => h'.esc p (h.esc p hp)
  inv := fun N hN hc h0 => h'.inv N hN hc (fun hN' => h.inv N hN' (fun p hp => hc p (h'.esc p hp)) h0)
  lp := fun B q hq => let ⟨q1, h1⟩ := h.lp B q hq; h'.lp B q1 h1
  ln := Nat.le_trans h.ln h'.ln
  out := ⟨h'.out.1.trans h.out.1, h'.out.2.trans h.out.2⟩
theorem Ext.trans (h : Ext C ρ F H w ρ' F' H' w') (h' : Ext C ρ' F' H' w' ρ'' F'' H'' w'') : Ext C ρ F H w ρ'' F'' H'' w'' :=
  ⟨h.toExt0.trans h'.toExt0, fun b l hl => by
    rcases h'.nd b l hl with ⟨l1, h1⟩ | h1
    · exact h.nd b l1 h1
    · exact .inr (Nat.le_trans h.ln h1)⟩
theorem Ext0.le (h : Ext0 C ρ F H w ρ' F' H' w') : ρ.le ρ' := fun b l hl => by
  obtain ⟨l', h1, e⟩ := h.map b l hl
  exact ⟨l', h1, e.imp id (fun ⟨_, a, v⟩ => ⟨a, v⟩)⟩
theorem Ext0.keeps (h : Ext0 C ρ F H w ρ' F' H' w') (hr : HR C ρ F H w) : Keeps F w w' := fun B hB =>
  h.frame B (hr.fro B hB) (fun b l ho _ e => (hr.own b l ho).1 (e ▸ hB))
theorem Ext0.vr (h : Ext0 C ρ F H w ρ' F' H' w') (hr : HR C ρ F H w) {c : SV} {v : Value} (hv : VR w F ρ c v) : VR w' F' ρ' c v :=
  hv.mono (h.keeps hr) h.fro h.le
theorem Ext0.er (h : Ext0 C ρ F H w ρ' F' H' w') (hr : HR C ρ F H w) {e : Env} {t : Array Value} (hv : ER w F ρ e t) : ER w' F' ρ' e t :=
  fun i => h.vr hr (hv i)
theorem CellsR.mono (hk : Keeps F w w') (hF : ∀ B, F B → F' B) (hle : ρ.le ρ') {vs : Array Value} {n : Nat} {cs : List SV} (h : CellsR w F ρ vs n cs) : CellsR w' F' ρ' vs n cs :=
  fun j c hj => let ⟨v, hv, hr, h1⟩ := h j c hj; ⟨v, hv, hr.mono hk hF hle, h1⟩
theorem BR.mono (hk : Keeps F w w') (hF : ∀ B, F B → F' B) (hle : ρ.le ρ') {l : Loc} {x : SBlk} (hb : l.virt = false → w'.heap[l.blk]? = w.heap[l.blk]?)
    (h : BR C w F ρ l x) : BR C w' F' ρ' l x := by
  cases x with
  | dead => trivial
  | box cs =>
    obtain ⟨h1, h2, h3, h4, h5, vs, ty, fz, h6, h7, h8, h9⟩ := h
    exact ⟨h1, h2, h3, h4, h5, vs, ty, fz, (hb h1).trans h6, h7, h8, h9.mono hk hF hle⟩
  | arr ver z L exact' =>
    obtain ⟨h1, h2, h3, h4, h5, h6, h7, h8⟩ := h
    refine ⟨h1, h2, h3, h4, h5, h6, h7, fun hv => ?_⟩
    obtain ⟨vs, ty, fz, a, b, c, d⟩ := h8 hv
    exact ⟨vs, ty, fz, (hb hv).trans a, b, c, fun i cs hi => (d i cs hi).mono hk hF hle⟩
  | loop r st pend =>
    obtain ⟨h1, h2, q, h3, h4, h5, h6, h7, h8⟩ := h
    exact ⟨h1, h2, q, (hb h1).trans h3, h4, h5, h6, h7, fun t => (h8 t).mono hk hF hle⟩
theorem HR.vr_lt (hr : HR C ρ F H w) {b : Nat} {x : SBlk} (h : H.bl[b]? = some x) : b < H.bl.length := (List.getElem?_eq_some_iff.1 h).1
/-- Nothing that is owned or frozen has changed, whatever else has. -/
theorem HR.same (hr : HR C ρ F H w) (hs : w.heap.size ≤ w'.heap.size) (hh : ∀ B, B < w.heap.size → w'.heap[B]? = w.heap[B]?) (hout : w'.os = w.os ∧ w'.output = w.output := by exact ⟨rfl, rfl⟩) : HR C ρ F H w' ∧ Ext C ρ F H w ρ F H w' := by
  have hk : Keeps F w w' := fun B hB => hh B (hr.fro B hB)
  refine ⟨⟨hr.dom, fun b x hb hx => ?_, hr.apart, fun b l ho => ⟨(hr.own b l ho).1, Nat.lt_of_lt_of_le (hr.own b l ho).2 hs⟩, fun B hB => Nat.lt_of_lt_of_le (hr.fro B hB) hs⟩, ?_⟩
  · obtain ⟨l, hl, hbr⟩ := hr.live b x hb hx
    exact ⟨l, hl, hbr.mono hk (fun _ h => h) (Map.le_refl _) (fun hv => hh _ (hr.own b l ⟨⟨x, hb, hx⟩, hl, hv⟩).2)⟩
  · refine ⟨⟨fun _ l h => ⟨l, h, .inl rfl⟩, fun _ h => h, fun _ h => .inl h, fun B hB _ => hh B hB, hs, fun _ l h => .inr ⟨l, h, rfl⟩, rfl, fun _ h => h, fun N hN _ h0 b x l hb hx hxl hl => ?_, fun B q hq => ⟨q, (hh B (Array.getElem?_eq_some_iff.1 hq).1).trans hq⟩, Nat.le_refl _, hout⟩, fun _ l h => .inl ⟨l, h⟩⟩
    exact (h0 hN b x l hb hx hxl hl).mono hk (fun _ h => h) (Map.le_refl _) (fun hv => hh _ (hr.own b l ⟨⟨x, hx, hxl⟩, hl, hv⟩).2)
/-- A map with one block more, or another place for one. -/
def Map.put (ρ : Map) (b : Nat) (l : Loc) : Map := fun b' => if b' = b then some l else ρ b'
theorem Map.put_same (ρ : Map) (b : Nat) (l : Loc) : ρ.put b l b = some l := by simp [Map.put]
theorem Map.put_other (ρ : Map) {b b' : Nat} (l : Loc) (h : b' ≠ b) : ρ.put b l b' = ρ b' := by simp [Map.put, h]
/-- A NEW BLOCK. -/
theorem HR.push (hr : HR C ρ F H w) (hs : w.heap.size ≤ w'.heap.size) (hh : ∀ B, B < w.heap.size → w'.heap[B]? = w.heap[B]?)
    (x : SBlk) (l : Loc) (hl : l.virt = false → w.heap.size ≤ l.blk ∧ l.blk < w'.heap.size) (hx : BR C w' F (ρ.put H.bl.length l) l x) (hout : w'.os = w.os ∧ w'.output = w.output := by exact ⟨rfl, rfl⟩) :
    HR C (ρ.put H.bl.length l) F (hnew H x) w' ∧ Ext C ρ F H w (ρ.put H.bl.length l) F (hnew H x) w' := by
  have hne : ∀ b l', ρ b = some l' → b ≠ H.bl.length := fun b l' h => Nat.ne_of_lt (hr.dom b l' h)
  have hle : ρ.le (ρ.put H.bl.length l) := fun b l' h => ⟨l', by rw [Map.put_other _ _ (hne b l' h)]; exact h, .inl rfl⟩
  have hk : Keeps F w w' := fun B hB => hh B (hr.fro B hB)
  have hown : ∀ b l', Own (ρ.put H.bl.length l) (hnew H x) b l' → (b = H.bl.length ∧ l' = l) ∨ Own ρ H b l' := by
    intro b l' ⟨⟨y, hy, hyl⟩, hm, hv⟩
    by_cases hb : b = H.bl.length
    · subst hb
      rw [Map.put_same] at hm
      exact .inl ⟨rfl, by cases hm; rfl⟩
    · rw [Map.put_other _ _ hb] at hm
      refine .inr ⟨⟨y, ?_, hyl⟩, hm, hv⟩
      have hlt := hr.dom b l' hm
      simpa [hnew, List.getElem?_append_left hlt] using hy
  refine ⟨⟨fun b l' h => ?_, fun b y hb hy => ?_, fun b b' l1 l2 h1 h2 he => ?_, fun b l' ho => ?_, fun B hB => Nat.lt_of_lt_of_le (hr.fro B hB) hs⟩, ?_⟩
  · by_cases hb : b = H.bl.length
    · subst hb; simp [hnew]
    · rw [Map.put_other _ _ hb] at h
      have := hr.dom b l' h
      simp [hnew]; omega
  · by_cases hb' : b = H.bl.length
    · subst hb'
      simp [hnew] at hb
      subst hb
      exact ⟨l, Map.put_same _ _ _, hx⟩
    · have hlt : b < H.bl.length := by
        have := (List.getElem?_eq_some_iff.1 hb).1
        simp [hnew] at this; omega
      rw [hnew, List.getElem?_append_left hlt] at hb
      obtain ⟨l', hl', hbr⟩ := hr.live b y hb hy
      exact ⟨l', by rw [Map.put_other _ _ hb']; exact hl', hbr.mono hk (fun _ h => h) hle (fun hv => hh _ (hr.own b l' ⟨⟨y, hb, hy⟩, hl', hv⟩).2)⟩
  · rcases hown b l1 h1 with ⟨e1, f1⟩ | o1 <;> rcases hown b' l2 h2 with ⟨e2, f2⟩ | o2
    · rw [e1, e2]
    · subst f1
      have := (hr.own b' l2 o2).2
      have := (hl h1.2.2).1
      omega
    · subst f2
      have := (hr.own b l1 o1).2
      have := (hl h2.2.2).1
      omega
    · exact hr.apart b b' l1 l2 o1 o2 he
  · rcases hown b l' ho with ⟨_, f1⟩ | o1
    · subst f1
      have h1 := hl ho.2.2
      exact ⟨fun hF => by have := hr.fro _ hF; omega, h1.2⟩
    · have h1 := hr.own b l' o1
      exact ⟨h1.1, Nat.lt_of_lt_of_le h1.2 hs⟩
  · refine ⟨⟨fun b l' h => ⟨l', by rw [Map.put_other _ _ (hne b l' h)]; exact h, .inl rfl⟩, fun _ h => h, fun _ h => .inl h, fun B hB _ => hh B hB, hs, fun b l' ho => ?_, rfl, fun _ h => h, fun N hN _ h0 b y l' hb hy hyl hm => ?_, fun B q hq => ⟨q, (hh B (Array.getElem?_eq_some_iff.1 hq).1).trans hq⟩, by simp [hnew], hout⟩, fun b l' h => ?_⟩
    · rcases hown b l' ho with ⟨_, f1⟩ | o1
      · subst f1; exact .inl (hl ho.2.2).1
      · exact .inr ⟨l', o1, rfl⟩
    · have hN' : N ≤ H.bl.length + 1 := by simpa [hnew] using hN
      by_cases hb' : b = H.bl.length
      · subst hb'
        rw [Map.put_same] at hm; cases hm
        simp [hnew] at hy
        subst hy
        refine hx.mono (fun _ _ => rfl) (fun _ h => h) (fun b1 l1 h1 => ⟨l1, ?_, .inl rfl⟩) (fun _ => rfl)
        have : b1 < N := by
          by_cases e : b1 = H.bl.length
          · omega
          · rw [Map.put_other _ _ e] at h1
            have := hr.dom b1 l1 h1
            omega
        simp [Map.cut, this, h1]
      · have hlt : b < H.bl.length := by omega
        rw [Map.put_other _ _ hb'] at hm
        rw [hnew, List.getElem?_append_left hlt] at hy
        have hsm := fun hv => hh l'.blk (hr.own b l' ⟨⟨y, hy, hyl⟩, hm, hv⟩).2
        by_cases hNl : N ≤ H.bl.length
        · refine (h0 hNl b y l' hb hy hyl hm).mono hk (fun _ h => h) (fun b1 l1 h1 => ⟨l1, ?_, .inl rfl⟩) hsm
          unfold Map.cut at h1 ⊢
          split at h1
          · rename_i h2; rw [if_pos h2, Map.put_other _ _ (by omega)]; exact h1
          · cases h1
        · obtain ⟨l2, h2, hbr⟩ := hr.live b y hy hyl
          rw [hm] at h2; cases h2
          refine hbr.mono hk (fun _ h => h) (fun b1 l1 h1 => ⟨l1, ?_, .inl rfl⟩) hsm
          have := hr.dom b1 l1 h1
          unfold Map.cut
          rw [if_pos (by omega), Map.put_other _ _ (by omega)]; exact h1
    · by_cases hb' : b = H.bl.length
      · exact .inr (by omega)
      · rw [Map.put_other _ _ hb'] at h; exact .inl ⟨l', h⟩
/-- A BLOCK WRITTEN: its content turns, in its place or (a slice that grows) in another one. -/
theorem HR.set (hr : HR C ρ F H w) {b : Nat} {x y : SBlk} {l l' : Loc} {refs : Nat} (hH : hset H b y refs = some H') (hb : H.bl[b]? = some x) (hx : x.live = true) (hl : ρ b = some l)
    (hs : w.heap.size ≤ w'.heap.size) (hh : ∀ B, B < w.heap.size → (l.virt = false → B ≠ l.blk) → w'.heap[B]? = w.heap[B]?)
    (hl' : l'.virt = false → (l.virt = false ∧ l'.blk = l.blk) ∨ (w.heap.size ≤ l'.blk ∧ l'.blk < w'.heap.size))
    (hver : l' = l ∨ (l.arr = true ∧ l.ver < l'.ver))
    (hy : y.live = true → BR C w' F (ρ.put b l') l' y) (hcut : y.live = true → ∀ N, refs ≤ N → b < N → BR C w F (ρ.cut N) l x → BR C w' F ((ρ.put b l').cut N) l' y)
    (hlk : (∃ r st p, x = .loop r st p) → ∃ r st p, y = .loop r st p := by (rintro ⟨_, _, _, h⟩; cases h)) (hout : w'.os = w.os ∧ w'.output = w.output := by exact ⟨rfl, rfl⟩) :
    HR C (ρ.put b l') F H' w' ∧ Ext C ρ F H w (ρ.put b l') F H' w' := by
  have hro : H.ro ≤ b ∧ b < H.bl.length ∧ H'.bl = H.bl.set b y ∧ H'.ro = H.ro ∧ H'.esc = (bif decide (refs ≤ b + 1) then H.esc else (b, refs) :: H.esc) := by
    unfold hset at hH
    by_cases h : (decide (H.ro ≤ b) && decide (b < H.bl.length)) = true
    · rw [h] at hH
      simp at h
      simp only [cond_true, Option.some.injEq] at hH
      subst hH
      exact ⟨h.1, h.2, rfl, rfl, rfl⟩
    · rw [Bool.not_eq_true] at h; rw [h] at hH; simp at hH
  obtain ⟨hro, hlt, hbl, hroe, hesc⟩ := hro
  have hle : ρ.le (ρ.put b l') := fun b' l1 h => by
    by_cases e : b' = b
    · subst e; rw [hl] at h; cases h; exact ⟨l', Map.put_same _ _ _, hver⟩
    · exact ⟨l1, by rw [Map.put_other _ _ e]; exact h, .inl rfl⟩
  have hbo : l.virt = false → Own ρ H b l := fun hv => ⟨⟨x, hb, hx⟩, hl, hv⟩
  have hk : Keeps F w w' := fun B hB => hh B (hr.fro B hB) (fun hv e => (hr.own b l (hbo hv)).1 (e ▸ hB))
  have hget : ∀ b', b' ≠ b → H'.bl[b']? = H.bl[b']? := fun b' e => by rw [hbl, List.getElem?_set_ne (Ne.symm e)]
  have hgetb : H'.bl[b]? = some y := by rw [hbl]; simp [hlt]
  have hown : ∀ b' l1, Own (ρ.put b l') H' b' l1 → (b' = b ∧ l1 = l' ∧ y.live = true) ∨ (b' ≠ b ∧ Own ρ H b' l1) := by
    intro b' l1 ⟨⟨z, hz, hzl⟩, hm, hv⟩
    by_cases e : b' = b
    · subst e
      rw [Map.put_same] at hm; cases hm
      rw [hgetb] at hz; cases hz
      exact .inl ⟨rfl, rfl, hzl⟩
    · rw [Map.put_other _ _ e] at hm
      rw [hget b' e] at hz
      exact .inr ⟨e, ⟨z, hz, hzl⟩, hm, hv⟩
  have hsame : ∀ b' l1, b' ≠ b → Own ρ H b' l1 → w'.heap[l1.blk]? = w.heap[l1.blk]? := fun b' l1 e ho =>
    hh _ (hr.own b' l1 ho).2 (fun hv h => e (hr.apart b' b l1 l ho (hbo hv) h))
  refine ⟨⟨fun b' l1 h => ?_, fun b' z hz hzl => ?_, fun b1 b2 l1 l2 h1 h2 he => ?_, fun b' l1 ho => ?_, fun B hB => Nat.lt_of_lt_of_le (hr.fro B hB) hs⟩, ?_⟩
  · rw [hbl, List.length_set]
    by_cases e : b' = b
    · subst e; exact hlt
    · rw [Map.put_other _ _ e] at h; exact hr.dom b' l1 h
  · by_cases e : b' = b
    · subst e
      rw [hgetb] at hz; cases hz
      exact ⟨l', Map.put_same _ _ _, hy hzl⟩
    · rw [hget b' e] at hz
      obtain ⟨l1, hl1, hbr⟩ := hr.live b' z hz hzl
      exact ⟨l1, by rw [Map.put_other _ _ e]; exact hl1, hbr.mono hk (fun _ h => h) hle (fun hv => hsame b' l1 e ⟨⟨z, hz, hzl⟩, hl1, hv⟩)⟩
  · rcases hown b1 l1 h1 with ⟨e1, f1, _⟩ | ⟨e1, o1⟩ <;> rcases hown b2 l2 h2 with ⟨e2, f2, _⟩ | ⟨e2, o2⟩
    · rw [e1, e2]
    · subst f1
      rcases hl' h1.2.2 with ⟨hv, hq⟩ | hq
      · exact absurd (hr.apart b2 b l2 l o2 (hbo hv) (by rw [← he, hq])) e2
      · have := (hr.own b2 l2 o2).2; omega
    · subst f2
      rcases hl' h2.2.2 with ⟨hv, hq⟩ | hq
      · exact absurd (hr.apart b1 b l1 l o1 (hbo hv) (by rw [he, hq])) e1
      · have := (hr.own b1 l1 o1).2; omega
    · exact hr.apart b1 b2 l1 l2 o1 o2 he
  · rcases hown b' l1 ho with ⟨_, f1, _⟩ | ⟨_, o1⟩
    · subst f1
      rcases hl' ho.2.2 with ⟨hv, hq⟩ | hq
      · have := hr.own b l (hbo hv)
        exact ⟨hq ▸ this.1, hq ▸ Nat.lt_of_lt_of_le this.2 hs⟩
      · exact ⟨fun hF => by have := hr.fro _ hF; omega, hq.2⟩
    · have := hr.own b' l1 o1
      exact ⟨this.1, Nat.lt_of_lt_of_le this.2 hs⟩
  · refine ⟨⟨fun b' l1 h => ?_, fun _ h => h, fun _ h => .inl h, fun B hB hno => hh B hB (fun hv e => hno b l (hbo hv) hro e.symm), hs, fun b' l1 ho => ?_, hroe, fun p hp => ?_, fun N hN hc h0 b' z l1 hb1 hz hzl hm => ?_, fun B q hq => ?_, by rw [hbl, List.length_set]; exact Nat.le_refl _, hout⟩, fun b' l1 h => ?_⟩
    · by_cases e : b' = b
      · subst e; rw [hl] at h; cases h
        exact ⟨l', Map.put_same _ _ _, hver.imp id (fun ⟨a, v⟩ => ⟨hro, a, v⟩)⟩
      · exact ⟨l1, by rw [Map.put_other _ _ e]; exact h, .inl rfl⟩
    · rcases hown b' l1 ho with ⟨e1, f1, _⟩ | ⟨e1, o1⟩
      · subst f1; subst e1
        rcases hl' ho.2.2 with ⟨hv, hq⟩ | hq
        · exact .inr ⟨l, hbo hv, hq.symm⟩
        · exact .inl hq.1
      · exact .inr ⟨l1, o1, rfl⟩
    · rw [hesc]
      cases decide (refs ≤ b + 1) with
      | true => exact hp
      | false => exact List.mem_cons_of_mem _ hp
    · have hN' : N ≤ H.bl.length := by rw [hbl, List.length_set] at hN; exact hN
      by_cases e : b' = b
      · subst e
        rw [hgetb] at hz; cases hz
        rw [Map.put_same] at hm; cases hm
        refine hcut hzl N ?_ hb1 (h0 hN' b' x l hb1 hb hx hl)
        by_cases hd : refs ≤ b' + 1
        · omega
        · have : (b', refs) ∈ H'.esc := by
            rw [hesc]; simp [hd]
          have := hc _ this
          simp only at this
          omega
      · rw [hget b' e] at hz
        rw [Map.put_other _ _ e] at hm
        refine (h0 hN' b' z l1 hb1 hz hzl hm).mono hk (fun _ h => h) (fun b1 l2 h1 => ?_) (fun hv => hsame b' l1 e ⟨⟨z, hz, hzl⟩, hm, hv⟩)
        unfold Map.cut at h1 ⊢
        split at h1
        · rename_i h2
          rw [if_pos h2]
          by_cases e1 : b1 = b
          · subst e1; rw [hl] at h1; cases h1; exact ⟨l', Map.put_same _ _ _, hver⟩
          · exact ⟨l2, by rw [Map.put_other _ _ e1]; exact h1, .inl rfl⟩
        · cases h1
    · have hB := (Array.getElem?_eq_some_iff.1 hq).1
      by_cases hbl : l.virt = false ∧ B = l.blk
      · obtain ⟨hv, rfl⟩ := hbl
        obtain ⟨l1, hl1, hbr⟩ := hr.live b x hb hx
        rw [hl] at hl1; cases hl1
        cases x with
        | dead => cases hx
        | box cs => obtain ⟨_, _, _, _, _, vs, ty, fz, h6, _⟩ := hbr; rw [hq] at h6; cases h6
        | arr ver z L ex =>
          obtain ⟨_, _, _, _, _, _, _, h8⟩ := hbr
          obtain ⟨vs, ty, fz, h6, _⟩ := h8 hv
          rw [hq] at h6; cases h6
        | loop r st p =>
          obtain ⟨r', st', p', rfl⟩ := hlk ⟨r, st, p, rfl⟩
          obtain ⟨_, ha, _⟩ := hbr
          have : l' = l := by
            rcases hver with e | ⟨e, _⟩
            · exact e
            · rw [ha] at e; cases e
          subst this
          obtain ⟨_, _, q', h3, _⟩ := hy rfl
          exact ⟨q', h3⟩
      · exact ⟨q, (hh B hB (fun hv e => hbl ⟨hv, e⟩)).trans hq⟩
    · by_cases e : b' = b
      · subst e; exact .inl ⟨l, hl⟩
      · rw [Map.put_other _ _ e] at h; exact .inl ⟨l1, h⟩
end
end Go.Sh
