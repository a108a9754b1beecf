/-
  THE SHADOW MACHINE, PART IN: a law's arguments, read as data, are shadow values of known form; what the shadow machine says of the law is the row.
-/
import Derived.Test.YteohbocjhfcbdaaShEw
import Derived.OpenShut
import Derived.WalkKit
import Derived.ProofKit
namespace Go.Sh
set_option linter.unusedSectionVars false
set_option linter.unusedVariables false
set_option linter.unusedSimpArgs false
set_option linter.unnecessarySimpa false
/-- What a cell holds, by its type. -/
inductive DT where
  | bool | int (k : IntKind) | str | lst (es : List DT)
inductive Fits : DT → SV → Prop
  | bool (b : Bool) : Fits .bool (.bool b)
  | int (k : IntKind) (n : Int) (h : (Lit.int k n).wf = true) : Fits (.int k) (.int k n)
  | str (s : ByteArray) (h : s.size ≤ maxLen) : Fits .str (.str s)
  | lst (es : List DT) (L : List (List SV)) (f : Bool) (hm : L.length ≤ maxLen) (hl : ∀ r ∈ L, r.length = es.length) (h : ∀ r ∈ L, ∀ (j : Nat) d c, es[j]? = some d → r[j]? = some c → Fits d c) : Fits (.lst es) (.lst es.length L f)
def FitsL (es : List DT) (cs : List SV) : Prop := cs.length = es.length ∧ ∀ (j : Nat) d c, es[j]? = some d → cs[j]? = some c → Fits d c
theorem fitsL_nil : FitsL [] [] := ⟨rfl, by simp⟩
theorem fitsL_append {es es' : List DT} {cs cs' : List SV} (h : FitsL es cs) (h' : FitsL es' cs') : FitsL (es ++ es') (cs ++ cs') := by
  refine ⟨by simp [h.1, h'.1], fun j d c hd hc => ?_⟩
  rw [List.getElem?_append] at hd hc
  rw [h.1] at hc
  split at hd
  · rename_i hlt
    rw [if_pos hlt] at hc
    exact h.2 j d c hd hc
  · rename_i hlt
    rw [if_neg hlt] at hc
    exact h'.2 _ d c hd hc
theorem fitsL_cons {d : DT} {es : List DT} {cs : List SV} (h : FitsL (d :: es) cs) : ∃ c r, cs = c :: r ∧ Fits d c ∧ FitsL es r := by
  cases cs with
  | nil => have := h.1; simp at this
  | cons c r => exact ⟨c, r, rfl, h.2 0 d c rfl rfl, by have := h.1; simpa using this, fun j d c hd hc => h.2 (j + 1) d c hd hc⟩
theorem fitsL_nil' {cs : List SV} (h : FitsL [] cs) : cs = [] := List.eq_nil_of_length_eq_zero h.1
theorem fits_int {k : IntKind} {c : SV} (h : Fits (.int k) c) : ∃ n, c = .int k n ∧ (Lit.int k n).wf = true := by cases h; exact ⟨_, rfl, by assumption⟩
theorem fits_bool {c : SV} (h : Fits .bool c) : ∃ n, c = .bool n := by cases h; exact ⟨_, rfl⟩
theorem fits_str {c : SV} (h : Fits .str c) : ∃ n, c = .str n ∧ n.size ≤ maxLen := by cases h; exact ⟨_, rfl, by assumption⟩
theorem fits_lst {es : List DT} {c : SV} (h : Fits (.lst es) c) : ∃ L f, c = .lst es.length L f ∧ L.length ≤ maxLen ∧ ∀ r ∈ L, FitsL es r := by
  cases h with
  | lst _ L f hm hl h => exact ⟨L, f, rfl, hm, fun r hr => ⟨hl r hr, h r hr⟩⟩
section
variable (P : Program)
def cdesc : Nat → TypeId → Option (List DT)
  | 0, _ => none
  | d + 1, t => match P.underlying t with
    | some .bool => some [.bool]
    | some (.int k) => some [.int k]
    | some .string => some [.str]
    | some (.slice e) => (cdesc d e).bind fun es => bif P.cellsOf e == es.length && !es.isEmpty then some [.lst es] else none
    | some (.struct fs) => (fs.toList.foldlM (init := []) fun acc f => bif f.offset == acc.length then (cdesc d f.type).bind fun es => bif P.cellsOf f.type == es.length then some (acc ++ es) else none else none).bind fun es =>
        bif P.cellsOf t == es.length then some es else none
    | some (.array n e) => (cdesc d e).bind fun es => bif P.cellsOf e == es.length && P.cellsOf t == (List.replicate n es).flatten.length then some (List.replicate n es).flatten else none
    | _ => none
end
def RowOK (w : World) (scs : List SV) (cs : List Value) : Prop := scs.length = cs.length ∧ ∀ (j : Nat) c v, scs[j]? = some c → cs[j]? = some v → VR w (· < w.heap.size) noMap c v ∧ c.ok1 = true
theorem rowOK_append {w : World} {a b : List SV} {x y : List Value} (h : RowOK w a x) (h' : RowOK w b y) : RowOK w (a ++ b) (x ++ y) := by
  refine ⟨by simp [h.1, h'.1], fun j c v hc hv => ?_⟩
  rw [List.getElem?_append] at hc hv
  rw [← h.1] at hv
  split at hc
  · rename_i hlt
    rw [if_pos hlt] at hv
    exact h.2 j c v hc hv
  · rename_i hlt
    rw [if_neg hlt] at hv
    exact h'.2 _ c v hc hv
theorem rowOK_one {w : World} {c : SV} {v : Value} (h : VR w (· < w.heap.size) noMap c v) (h1 : c.ok1 = true) : RowOK w [c] [v] := by
  refine ⟨rfl, fun j c' v' hc hv => ?_⟩
  cases j with
  | zero => simp at hc hv; subst hc; subst hv; exact ⟨h, h1⟩
  | succ j => simp at hc
section
variable {H : Type} {enc : TypeId × Value → H} {P : Program} {w : World} {spare : Nat → Bool} {held : Bool}
def stepD (P : Program) (d : Nat) (acc : List DT) (f : Field) : Option (List DT) :=
  bif f.offset == acc.length then (cdesc P d f.type).bind fun es => bif P.cellsOf f.type == es.length then some (acc ++ es) else none else none
/-- Cells that are read as data. -/
def ReadsAs (P : Program) (w : World) (t : TypeId) (es : List DT) (cs : List Value) : Prop := ∃ scs, RowOK w scs cs ∧ FitsL es scs
theorem fields_sv {n dd : Nat} (ih : ∀ (t : TypeId) (cs : List Value) x es, DataW.trod enc P w 0 spare held n t cs = some x → cdesc P dd t = some es → ReadsAs P w t es cs) (cs : List Value) : ∀ (fs : List Field) (acc tot : List DT),
    fs.foldlM (stepD P dd) acc = some tot → (∀ f ∈ fs, ∃ x, DataW.trod enc P w 0 spare held n f.type ((cs.drop f.offset).take (P.cellsOf f.type)) = some x) → tot.length ≤ cs.length →
    ∃ rest, tot = acc ++ rest ∧ ∃ scs, RowOK w scs ((cs.drop acc.length).take rest.length) ∧ FitsL rest scs
  | [], acc, tot, h, _, _ => by
    simp at h; subst h
    exact ⟨[], by simp, [], ⟨rfl, by simp⟩, fitsL_nil⟩
  | f :: fs, acc, tot, h, hf, hlen => by
    rw [List.foldlM_cons] at h
    simp only [bind, Option.bind_eq_some_iff] at h
    obtain ⟨acc', h1, h2⟩ := h
    unfold stepD at h1
    replace h1 := bif_some h1
    obtain ⟨ho, h1⟩ := h1
    simp only [Option.bind_eq_some_iff] at h1
    obtain ⟨es, h3, h1⟩ := h1
    replace h1 := bif_some h1
    obtain ⟨h4, h1⟩ := h1
    cases h1
    have ho : f.offset = acc.length := by simpa using ho
    have h4 : P.cellsOf f.type = es.length := by simpa using h4
    obtain ⟨x, hx⟩ := hf f (by simp)
    obtain ⟨s1, k1, k2⟩ := ih f.type _ x es hx h3
    obtain ⟨rest, k3, s2, k4, k5⟩ := fields_sv ih cs fs (acc ++ es) tot h2 (fun g hg => hf g (by simp [hg])) hlen
    refine ⟨es ++ rest, by rw [k3]; simp, s1 ++ s2, ?_, fitsL_append k2 k5⟩
    rw [ho, h4] at k1
    have := rowOK_append k1 k4
    have e : ((cs.drop acc.length).take es.length) ++ ((cs.drop (acc ++ es).length).take rest.length) = (cs.drop acc.length).take (es ++ rest).length := by
      rw [List.length_append, List.length_append, ← List.drop_drop, ← List.take_add]
    rw [← e]; exact this
theorem items_sv {n dd : Nat} {e : TypeId} {es : List DT} (ih : ∀ (cs : List Value) x, DataW.trod enc P w 0 spare held n e cs = some x → ReadsAs P w e es cs) (hc : P.cellsOf e = es.length) (cs : List Value) : ∀ (m i : Nat),
    (∀ k, i ≤ k → k < i + m → ∃ x, DataW.trod enc P w 0 spare held n e ((cs.drop (k * P.cellsOf e)).take (P.cellsOf e)) = some x) →
    ∃ scs, RowOK w scs ((cs.drop (i * es.length)).take (m * es.length)) ∧ FitsL (List.replicate m es).flatten scs
  | 0, i, _ => ⟨[], ⟨by simp, by simp⟩, by simpa using fitsL_nil⟩
  | m + 1, i, h => by
    obtain ⟨x, hx⟩ := h i (by omega) (by omega)
    obtain ⟨s1, k1, k2⟩ := ih _ x hx
    obtain ⟨s2, k3, k4⟩ := items_sv (dd := dd) ih hc cs m (i + 1) (fun k h1 h2 => h k (by omega) (by omega))
    refine ⟨s1 ++ s2, ?_, by rw [List.replicate_succ, List.flatten_cons]; exact fitsL_append k2 k4⟩
    rw [hc] at k1
    have := rowOK_append k1 k3
    have e : ((cs.drop (i * es.length)).take es.length) ++ ((cs.drop ((i + 1) * es.length)).take (m * es.length)) = (cs.drop (i * es.length)).take ((m + 1) * es.length) := by
      rw [Nat.add_mul i 1, Nat.one_mul, ← List.drop_drop, Nat.add_mul m 1, Nat.one_mul, Nat.add_comm (m * es.length), ← List.take_add]
    rw [← e]; exact this
theorem cells_all {a : Addr} {n : Nat} {vs : List Value} (h : w.cells? 0 a n = some vs) : vs.length = n ∧ ∀ j, j < n → w.cell? (a.add j) = vs[j]? := by
  unfold World.cells? at h
  simp only [Nat.zero_le, if_true] at h
  exact ⟨by simpa using mapM_some_length h, fun j hj => mapM_some_get h j j (by simp [hj])⟩
theorem add_at {a : Addr} {v : Value} (h : w.cell? (a.add 0) = some v) : a.spot = none ∧ a.block < w.heap.size := by
  have : a.add 0 = a := by simp [Addr.add]
  rw [this] at h
  unfold World.cell? at h
  split at h
  · rename_i c _ _ hb
    cases hs : a.spot with
    | none => exact ⟨rfl, (Array.getElem?_eq_some_iff.1 hb).1⟩
    | some x => rw [hs] at h; simp at h
  · cases h
theorem trod_sv : ∀ (n : Nat) (t : TypeId) (cs : List Value) (x : DataW H × List MemPlace) (dd : Nat) (es : List DT), DataW.trod enc P w 0 spare held n t cs = some x → cdesc P dd t = some es → ReadsAs P w t es cs := by
  intro n
  induction n with
  | zero => intro t cs x dd es h; simp [DataW.trod] at h
  | succ n ih =>
    intro t cs x dd es h hd
    cases dd with
    | zero => simp [cdesc] at hd
    | succ dd =>
      unfold cdesc at hd
      split at hd
      · rename_i hu
        cases hd
        obtain ⟨b, rfl, _⟩ := DataW.trod_bool hu h
        exact ⟨[.bool b], rowOK_one (.bool b) rfl, rfl, fun j d c hd hc => by cases j <;> simp at hd hc; subst hd; subst hc; exact .bool b⟩
      · rename_i k hu
        cases hd
        obtain ⟨b, rfl, _, hw⟩ := DataW.trod_int hu h
        exact ⟨[.int k b], rowOK_one (.int k b) rfl, rfl, fun j d c hd hc => by cases j <;> simp at hd hc; subst hd; subst hc; exact .int k b hw⟩
      · rename_i hu
        cases hd
        obtain ⟨b, rfl, _, hw⟩ := DataW.trod_string hu h
        exact ⟨[.str b], rowOK_one (.str b) rfl, rfl, fun j d c hd hc => by cases j <;> simp at hd hc; subst hd; subst hc; exact .str b hw⟩
      · rename_i e hu
        simp only [Option.bind_eq_some_iff] at hd
        obtain ⟨ee, hd1, hd⟩ := hd
        replace hd := bif_some hd
        obtain ⟨hd2, hd⟩ := hd
        cases hd
        simp only [Bool.and_eq_true, beq_iff_eq, Bool.not_eq_true', List.isEmpty_eq_false_iff] at hd2
        obtain ⟨hz, hne⟩ := hd2
        have hz0 : 0 < ee.length := List.length_pos_iff.2 hne
        rcases DataW.trod_slice hu h with ⟨rfl, _⟩ | ⟨a, len, cap, elems, rest, m, hm, rfl, _, _, hlc, hcap, hel, hget, _⟩
        · refine ⟨[.lst ee.length [] true], rowOK_one ?_ rfl, rfl, fun j d c hd hc => ?_⟩
          · exact VR.lst (L := []) (fun _ _ => undef) (Nat.le_refl _) (fun _ => rfl) (by simp) (.inl rfl) (by simp) (by simp)
          · cases j <;> simp at hd hc
            subst hd; subst hc
            exact .lst ee [] true (by simp) (by simp) (by simp)
        · cases hm
          have key : ∀ i, i < len → ∃ (vs : List Value) (r : List SV), w.cells? 0 (a.add (i * ee.length)) ee.length = some vs ∧ RowOK w r vs ∧ FitsL ee r := by
            intro i hi
            have h1 := hget i hi
            have h2 : elems[i]? = some elems[i] := List.getElem?_eq_getElem (by omega)
            rw [h2, hz, Option.bind_eq_some_iff] at h1
            obtain ⟨vs, h3, h4⟩ := h1
            obtain ⟨r, h5, h6⟩ := ih e vs _ dd ee h4 hd1
            exact ⟨vs, r, h3, h5, h6⟩
          have hch : ∃ g : Nat → List SV, ∀ i, i < len → ∃ vs : List Value, w.cells? 0 (a.add (i * ee.length)) ee.length = some vs ∧ RowOK w (g i) vs ∧ FitsL ee (g i) :=
            ⟨fun i => if hi : i < len then Classical.choose (Classical.choose_spec (key i hi)) else [], fun i hi => by
              simp only [hi, dif_pos]
              exact ⟨_, Classical.choose_spec (Classical.choose_spec (key i hi))⟩⟩
          obtain ⟨g, hg⟩ := hch
          have hrow : ∀ (i : Nat) r, ((List.range len).map g)[i]? = some r → i < len ∧ r = g i := by
            intro i r hr
            simp only [List.getElem?_map, Option.map_eq_some_iff] at hr
            obtain ⟨k, hk, rfl⟩ := hr
            have hlt := (List.getElem?_eq_some_iff.1 hk).1
            simp at hlt
            rw [List.getElem?_range hlt] at hk
            cases hk
            exact ⟨hlt, rfl⟩
          have hcell : ∀ (i j : Nat), i < len → j < ee.length → ∃ v c, w.cell? ((a.add (i * ee.length)).add j) = some v ∧ (g i)[j]? = some c ∧ VR w (· < w.heap.size) noMap c v ∧ c.ok1 = true := by
            intro i j hi hj
            obtain ⟨vs, h1, h2, h3⟩ := hg i hi
            obtain ⟨h4, h5⟩ := cells_all h1
            have hv : vs[j]? = some vs[j] := List.getElem?_eq_getElem (by omega)
            have hjl : j < (g i).length := by have := h2.1; omega
            have hc : (g i)[j]? = some (g i)[j] := List.getElem?_eq_getElem hjl
            obtain ⟨h6, h7⟩ := h2.2 j _ _ hc hv
            exact ⟨_, _, (h5 j hj).trans hv, hc, h6, h7⟩
          refine ⟨[.lst ee.length ((List.range len).map g) false], rowOK_one ?_ rfl, rfl, fun j d c hd hc => ?_⟩
          · have hlen : ((List.range len).map g).length = len := by simp
            have hq : VR w (· < w.heap.size) noMap (.lst ee.length ((List.range len).map g) false) (.slice (some a) ((List.range len).map g).length cap) := by
              refine .lst (fun i j => (w.cell? ((a.add (i * ee.length)).add j)).getD undef) (by omega) (fun h => by cases h) (fun i r hr => ?_) ?_ (fun i j r c hr hc => ?_) (fun i j r c hr hc => ?_)
              · obtain ⟨hi, rfl⟩ := hrow i r hr
                obtain ⟨vs, h1, h2, h3⟩ := hg i hi
                exact h3.1
              · by_cases h0 : len = 0
                · left; subst h0; rfl
                · right
                  obtain ⟨v, c, h1, _⟩ := hcell 0 0 (by omega) hz0
                  rw [Nat.zero_mul] at h1
                  have h2 := add_at (a := a) (v := v) (by have : (a.add 0).add 0 = a.add 0 := by simp [Addr.add]
                                                          rw [this] at h1; exact h1)
                  refine ⟨a.block, a.off, ?_, h2.2, fun i j r c hr hc => ?_⟩
                  · obtain ⟨b, o, sp⟩ := a; simp only at h2; rw [h2.1]
                  · obtain ⟨hi, rfl⟩ := hrow i r hr
                    obtain ⟨vs, _, h3, h4⟩ := hg i hi
                    have hj : j < ee.length := by have := (List.getElem?_eq_some_iff.1 hc).1; have := h4.1; omega
                    obtain ⟨v, c', h5, _⟩ := hcell i j hi hj
                    have ha : (a.add (i * ee.length)).add j = ⟨a.block, a.off + i * ee.length + j, none⟩ := by
                      obtain ⟨b, o, sp⟩ := a; simp only at h2; rw [h2.1, add_none, add_none]
                    rw [← ha, h5]; rfl
              · obtain ⟨hi, rfl⟩ := hrow i r hr
                obtain ⟨vs, _, h3, h4⟩ := hg i hi
                have hj : j < ee.length := by have := (List.getElem?_eq_some_iff.1 hc).1; have := h4.1; omega
                obtain ⟨v, c', _, h6, _, h7⟩ := hcell i j hi hj
                rw [hc] at h6; cases h6; exact h7
              · obtain ⟨hi, rfl⟩ := hrow i r hr
                obtain ⟨vs, _, h3, h4⟩ := hg i hi
                have hj : j < ee.length := by have := (List.getElem?_eq_some_iff.1 hc).1; have := h4.1; omega
                obtain ⟨v, c', h5, h6, h7, _⟩ := hcell i j hi hj
                rw [hc] at h6; cases h6
                simp only [h5, Option.getD_some]; exact h7
            rw [hlen] at hq
            exact hq
          · cases j <;> simp at hd hc
            subst hd; subst hc
            refine .lst ee _ false (by simp; omega) (fun r hr => ?_) (fun r hr j d c hd hc => ?_)
            · obtain ⟨i, hi⟩ := List.getElem?_of_mem hr
              obtain ⟨h1, rfl⟩ := hrow i r hi
              obtain ⟨vs, _, _, h4⟩ := hg i h1
              exact h4.1
            · obtain ⟨i, hi⟩ := List.getElem?_of_mem hr
              obtain ⟨h1, rfl⟩ := hrow i r hi
              obtain ⟨vs, _, _, h4⟩ := hg i h1
              exact h4.2 j d c hd hc
      · rename_i fs hu
        simp only [Option.bind_eq_some_iff] at hd
        obtain ⟨tot, hd1, hd⟩ := hd
        replace hd := bif_some hd
        obtain ⟨hd2, hd⟩ := hd
        cases hd
        have hd2 : P.cellsOf t = es.length := by simpa using hd2
        obtain ⟨xs, m, hm, _, hl, hxl, hget⟩ := DataW.trod_struct hu h
        cases hm
        obtain ⟨rest, h1, scs, h2, h3⟩ := fields_sv (dd := dd) (fun t cs x es h1 h2 => ih t cs x dd es h1 h2) cs fs.toList [] es hd1 (fun f hf => by
          obtain ⟨i, hi⟩ := List.getElem?_of_mem hf
          have hlt := (List.getElem?_eq_some_iff.1 hi).1
          have h5 := hget i f (by simpa using hi)
          exact ⟨xs[i]'(by simp at hlt; omega), by rw [h5]; simp⟩) (by omega)
        simp only [List.nil_append] at h1
        subst h1
        simp only [List.length_nil, List.drop_zero] at h2
        rw [List.take_of_length_le (by omega)] at h2
        exact ⟨scs, h2, h3⟩
      · rename_i k e hu
        simp only [Option.bind_eq_some_iff] at hd
        obtain ⟨ee, hd1, hd⟩ := hd
        replace hd := bif_some hd
        obtain ⟨hd2, hd⟩ := hd
        cases hd
        simp only [Bool.and_eq_true, beq_iff_eq] at hd2
        obtain ⟨hz, ht⟩ := hd2
        obtain ⟨xs, m, hm, _, hl, hxl, hget⟩ := DataW.trod_array hu h
        cases hm
        obtain ⟨scs, h2, h3⟩ := items_sv (dd := dd) (fun cs x h1 => ih e cs x dd ee h1 hd1) hz cs k 0 (fun i _ hi => ⟨xs[i]'(by omega), by rw [hget i (by omega)]; simp⟩)
        have hfl : (List.replicate k ee).flatten.length = k * ee.length := by simp
        rw [Nat.zero_mul, List.drop_zero, List.take_of_length_le (by omega)] at h2
        exact ⟨scs, h2, h3⟩
      · cases hd
/-! ### Arguments -/
def FitsA (d : Bool × List DT) (x : SV) : Prop := match d.1 with
  | true => ∃ cs, x = .agg cs ∧ FitsL d.2 cs
  | false => ∃ e, d.2 = [e] ∧ Fits e x
def argD (P : Program) (t : TypeId) : Option (Bool × List DT) := match cag P t, cdesc P 8 t with
  | some ag, some es => some (ag, es)
  | _, _ => none
theorem okWide_agg {r : Reach} {base : Nat} {t : TypeId} {v : Value} (h : Value.okWide P w r base t v) (hag : cag P t = some true) : ∃ cs, v = .agg cs := by
  unfold Value.okWide at h
  unfold cag at hag
  split at h
  · obtain ⟨cs, h, _⟩ := h; exact ⟨cs, h⟩
  · obtain ⟨cs, h, _⟩ := h; exact ⟨cs, h⟩
  · rename_i h1 h2
    split at hag
    · rename_i fs hu; exact absurd hu (h1 fs)
    · rename_i n e hu; exact absurd hu (h2 n e)
    · cases hag
    · cases hag
theorem okWide_one {r : Reach} {base : Nat} {t : TypeId} {v : Value} {es : List DT} (h : Value.okWide P w r base t v) (hag : cag P t = some false) (hd : cdesc P 8 t = some es) : one1 v = true ∧ es.length = 1 := by
  unfold cdesc at hd
  unfold Value.okWide at h
  split at hd
  · rename_i hu
    simp only [hu, Cell.okWide, Cell.ok] at h
    cases hd
    cases v <;> simp_all [one1]
  · rename_i k hu
    simp only [hu, Cell.okWide, Cell.ok] at h
    cases hd
    cases v <;> simp_all [one1]
  · rename_i hu
    simp only [hu, Cell.okWide, Cell.ok] at h
    cases hd
    cases v <;> simp_all [one1]
  · rename_i e hu
    simp only [hu, Cell.okWide, Cell.ok] at h
    simp only [Option.bind_eq_some_iff] at hd
    obtain ⟨ee, _, hd⟩ := hd
    replace hd := bif_some hd
    cases hd.2
    cases v <;> simp_all [one1]
  · rename_i fs hu; simp [cag, hu] at hag
  · rename_i k e hu; simp [cag, hu] at hag
  · cases hd
theorem arg_sv {r : Reach} {base : Nat} {t : TypeId} {v : Value} {d : DataW H} {ps : List MemPlace} {a : Bool × List DT} (h : DataW.Trod enc P w 0 spare held t v d ps) (hok : Value.okWide P w r base t v) (ha : argD P t = some a) :
    ∃ x, VR w (· < w.heap.size) noMap x v ∧ FitsA a x := by
  unfold argD at ha
  split at ha
  rotate_left
  · cases ha
  rename_i ag es hag hd
  cases ha
  obtain ⟨n, hn⟩ := h
  obtain ⟨scs, h1, h2⟩ := trod_sv n t _ _ 8 es hn hd
  cases ag with
  | true =>
    obtain ⟨cs, rfl⟩ := okWide_agg hok hag
    refine ⟨.agg scs, .agg (by simpa [Value.cells] using h1.1) (fun j c hc => ?_) (fun j c v hc hv => (h1.2 j c v hc (by simpa [Value.cells] using hv)).1), scs, rfl, h2⟩
    have hlt := (List.getElem?_eq_some_iff.1 hc).1
    have hl := h1.1
    simp only [Value.cells, Array.length_toList] at hl
    exact (h1.2 j c cs[j] hc (by simp [Value.cells])).2
  | false =>
    obtain ⟨h3, h4⟩ := okWide_one hok hag hd
    have hc : v.cells = #[v] := by cases v <;> simp_all [Value.cells, one1]
    rw [hc] at h1
    obtain ⟨c, rfl⟩ : ∃ c, scs = [c] := List.length_eq_one_iff.1 (by simpa using h1.1)
    obtain ⟨e, rfl⟩ : ∃ e, es = [e] := List.length_eq_one_iff.1 h4
    exact ⟨c, (h1.2 0 c v rfl rfl).1, e, rfl, h2.2 0 e c rfl rfl⟩
def FitsAll (as : List (Bool × List DT)) (xs : List SV) : Prop := xs.length = as.length ∧ ∀ (j : Nat) a x, as[j]? = some a → xs[j]? = some x → FitsA a x
theorem args_sv {r : Reach} {base : Nat} : ∀ (ts : List TypeId) (vs : List Value) (ds : List (DataW H)) (ps : List MemPlace) (as : List (Bool × List DT)), DataW.TrodAll enc P w 0 spare held ts vs ds ps → ts.map (argD P) = as.map some →
    (∀ (j : Nat) t v, ts[j]? = some t → vs[j]? = some v → Value.okWide P w r base t v) → ∃ xs : List SV, xs.length = vs.length ∧ (∀ (j : Nat) c v, xs[j]? = some c → vs[j]? = some v → VR w (· < w.heap.size) noMap c v) ∧ FitsAll as xs ∧ ds.length = ts.length
  | [], [], [], ps, as, h, ha, _ => by
    have : as = [] := by simpa using ha.symm
    subst this
    exact ⟨[], rfl, by simp, ⟨rfl, by simp⟩, rfl⟩
  | t :: ts, v :: vs, d :: ds, ps, as, h, ha, hok => by
    obtain ⟨p, q, h1, h2, _⟩ := h
    cases as with
    | nil => simp at ha
    | cons a as =>
      simp only [List.map_cons, List.cons.injEq] at ha
      obtain ⟨x, k1, k2⟩ := arg_sv h1 (hok 0 t v rfl rfl) ha.1
      obtain ⟨xs, k3, k4, k5, k6⟩ := args_sv ts vs ds q as h2 ha.2 (fun j t v ht hv => hok (j + 1) t v ht hv)
      refine ⟨x :: xs, by simp [k3], fun j c v hc hv => ?_, ⟨by simp [k5.1], fun j a x ha hx => ?_⟩, by simp [k6]⟩
      · cases j with
        | zero => simp at hc hv; subst hc; subst hv; exact k1
        | succ j => exact k4 j c v (by simpa using hc) (by simpa using hv)
      · cases j with
        | zero => simp at ha hx; subst ha; subst hx; exact k2
        | succ j => exact k5.2 j a x (by simpa using ha) (by simpa using hx)
  | [], _ :: _, _, _, _, h, _, _ => by simp [DataW.TrodAll] at h
  | [], [], _ :: _, _, _, h, _, _ => by simp [DataW.TrodAll] at h
  | _ :: _, [], _, _, _, h, _, _ => by simp [DataW.TrodAll] at h
  | _ :: _, _ :: _, [], _, _, h, _, _ => by simp [DataW.TrodAll] at h
end
end Go.Sh
