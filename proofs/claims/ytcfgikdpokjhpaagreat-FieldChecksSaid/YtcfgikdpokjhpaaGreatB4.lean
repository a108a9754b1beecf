
import Derived.OpenShut
import Derived.WalkKit
import Derived.ProofKit
import Derived.ReadAgain
import Derived.Handed
import Derived.JoinedOf
import Derived.Test.YtcfgikdpokjhpaaGreatB3
namespace Go.Sh
set_option linter.unusedSectionVars false
set_option linter.unusedVariables false
set_option linter.unusedSimpArgs false
set_option linter.unnecessarySimpa false
inductive DT where
  | bool | int (k : IntKind) | str | lst (es : List DT)
inductive Fits : DT → SV → Prop
  | bool (b : Bool) : Fits .bool (.bool b)
  | int (k : IntKind) (n : Int) (h : (Lit.int k n).wf = true) : Fits (.int k) (.int k n)
  | str (s : ByteArray) (h : s.size ≤ maxLen) : Fits .str (.str s)
  | lst (es : List DT) (L : List (List SV)) (f : Bool) (hm : L.length ≤ maxLen) (hl : ∀ r ∈ L, r.length = es.length) (h : ∀ r ∈ L, ∀ (j : Nat) d c, es[j]? = some d → r[j]? = some c → Fits d c) : Fits (.lst es) (.lst es.length L f)
def FitsL (es : List DT) (cs : List SV) : Prop := cs.length = es.length ∧ ∀ (j : Nat) d c, es[j]? = some d → cs[j]? = some c → Fits d c
theorem fitsL_nil : FitsL [] [] := ⟨rfl, by simp⟩
theorem fitsL_append {es es' : List DT} {cs cs' : List SV} (h : FitsL es cs) (h' : FitsL es' cs') : FitsL (es ++ es') (cs ++ cs') := by
  refine ⟨by simp [h.1, h'.1], fun j d c hd hc => ?_⟩
  rw [List.getElem?_append] at hd hc
  rw [h.1] at hc
  split at hd
  · rename_i hlt
    rw [if_pos hlt] at hc
    exact h.2 j d c hd hc
  · rename_i hlt
    rw [if_neg hlt] at hc
    exact h'.2 _ d c hd hc
theorem fitsL_cons {d : DT} {es : List DT} {cs : List SV} (h : FitsL (d :: es) cs) : ∃ c r, cs = c :: r ∧ Fits d c ∧ FitsL es r := by
  cases cs with
  | nil => have := h.1; simp at this
  | cons c r => exact ⟨c, r, rfl, h.2 0 d c rfl rfl, by have := h.1; simpa using this, fun j d c hd hc => h.2 (j + 1) d c hd hc⟩
theorem fitsL_nil' {cs : List SV} (h : FitsL [] cs) : cs = [] := List.eq_nil_of_length_eq_zero h.1
theorem fits_int {k : IntKind} {c : SV} (h : Fits (.int k) c) : ∃ n, c = .int k n ∧ (Lit.int k n).wf = true := by cases h; exact ⟨_, rfl, by assumption⟩
theorem fits_str {c : SV} (h : Fits .str c) : ∃ n, c = .str n ∧ n.size ≤ maxLen := by cases h; exact ⟨_, rfl, by assumption⟩
theorem fits_lst {es : List DT} {c : SV} (h : Fits (.lst es) c) : ∃ L f, c = .lst es.length L f ∧ L.length ≤ maxLen ∧ ∀ r ∈ L, FitsL es r := by
  cases h with
  | lst _ L f hm hl h => exact ⟨L, f, rfl, hm, fun r hr => ⟨hl r hr, h r hr⟩⟩
section
variable (P : Program)
def cdesc : Nat → TypeId → Option (List DT)
  | 0, _ => none
  | d + 1, t => match P.underlying t with
    | some .bool => some [.bool]
    | some (.int k) => some [.int k]
    | some .string => some [.str]
    | some (.slice e) => (cdesc d e).bind fun es => bif P.cellsOf e == es.length && !es.isEmpty then some [.lst es] else none
    | some (.struct fs) => (fs.toList.foldlM (init := []) fun acc f => bif f.offset == acc.length then (cdesc d f.type).bind fun es => bif P.cellsOf f.type == es.length then some (acc ++ es) else none else none).bind fun es =>
        bif P.cellsOf t == es.length then some es else none
    | some (.array n e) => (cdesc d e).bind fun es => bif P.cellsOf e == es.length && P.cellsOf t == (List.replicate n es).flatten.length then some (List.replicate n es).flatten else none
    | _ => none
end
def RowOK (w : World) (scs : List SV) (cs : List Value) : Prop := scs.length = cs.length ∧ ∀ (j : Nat) c v, scs[j]? = some c → cs[j]? = some v → VR w (· < w.heap.size) noMap c v ∧ c.ok1 = true
theorem rowOK_append {w : World} {a b : List SV} {x y : List Value} (h : RowOK w a x) (h' : RowOK w b y) : RowOK w (a ++ b) (x ++ y) := by
  refine ⟨by simp [h.1, h'.1], fun j c v hc hv => ?_⟩
  rw [List.getElem?_append] at hc hv
  rw [← h.1] at hv
  split at hc
  · rename_i hlt
    rw [if_pos hlt] at hv
    exact h.2 j c v hc hv
  · rename_i hlt
    rw [if_neg hlt] at hv
    exact h'.2 _ c v hc hv
theorem rowOK_one {w : World} {c : SV} {v : Value} (h : VR w (· < w.heap.size) noMap c v) (h1 : c.ok1 = true) : RowOK w [c] [v] := by
  refine ⟨rfl, fun j c' v' hc hv => ?_⟩
  cases j with
  | zero => simp at hc hv; subst hc; subst hv; exact ⟨h, h1⟩
  | succ j => simp at hc
section
variable {H : Type} {enc : TypeId × Value → H} {P : Program} {w : World} {spare : Nat → Bool} {held : Bool}
def stepD (P : Program) (d : Nat) (acc : List DT) (f : Field) : Option (List DT) :=
  bif f.offset == acc.length then (cdesc P d f.type).bind fun es => bif P.cellsOf f.type == es.length then some (acc ++ es) else none else none
def ReadsAs (P : Program) (w : World) (t : TypeId) (es : List DT) (cs : List Value) : Prop := ∃ scs, RowOK w scs cs ∧ FitsL es scs
theorem fields_sv {n dd : Nat} (ih : ∀ (t : TypeId) (cs : List Value) x es, DataW.trod enc P w 0 spare held n t cs = some x → cdesc P dd t = some es → ReadsAs P w t es cs) (cs : List Value) : ∀ (fs : List Field) (acc tot : List DT),
    fs.foldlM (stepD P dd) acc = some tot → (∀ f ∈ fs, ∃ x, DataW.trod enc P w 0 spare held n f.type ((cs.drop f.offset).take (P.cellsOf f.type)) = some x) → tot.length ≤ cs.length →
    ∃ rest, tot = acc ++ rest ∧ ∃ scs, RowOK w scs ((cs.drop acc.length).take rest.length) ∧ FitsL rest scs
  | [], acc, tot, h, _, _ => by
    simp at h; subst h
    exact ⟨[], by simp, [], ⟨rfl, by simp⟩, fitsL_nil⟩
  | f :: fs, acc, tot, h, hf, hlen => by
    rw [List.foldlM_cons] at h
    simp only [bind, Option.bind_eq_some_iff] at h
    obtain ⟨acc', h1, h2⟩ := h
    unfold stepD at h1
    replace h1 := bif_some h1
    obtain ⟨ho, h1⟩ := h1
    simp only [Option.bind_eq_some_iff] at h1
    obtain ⟨es, h3, h1⟩ := h1
    replace h1 := bif_some h1
    obtain ⟨h4, h1⟩ := h1
    cases h1
    have ho : f.offset = acc.length := by simpa using ho
    have h4 : P.cellsOf f.type = es.length := by simpa using h4
    obtain ⟨x, hx⟩ := hf f (by simp)
    obtain ⟨s1, k1, k2⟩ := ih f.type _ x es hx h3
    obtain ⟨rest, k3, s2, k4, k5⟩ := fields_sv ih cs fs (acc ++ es) tot h2 (fun g hg => hf g (by simp [hg])) hlen
    refine ⟨es ++ rest, by rw [k3]; simp, s1 ++ s2, ?_, fitsL_append k2 k5⟩
    rw [ho, h4] at k1
    have := rowOK_append k1 k4
    have e : ((cs.drop acc.length).take es.length) ++ ((cs.drop (acc ++ es).length).take rest.length) = (cs.drop acc.length).take (es ++ rest).length := by
      rw [List.length_append, List.length_append, ← List.drop_drop, ← List.take_add]
    rw [← e]; exact this
theorem items_sv {n dd : Nat} {e : TypeId} {es : List DT} (ih : ∀ (cs : List Value) x, DataW.trod enc P w 0 spare held n e cs = some x → ReadsAs P w e es cs) (hc : P.cellsOf e = es.length) (cs : List Value) : ∀ (m i : Nat),
    (∀ k, i ≤ k → k < i + m → ∃ x, DataW.trod enc P w 0 spare held n e ((cs.drop (k * P.cellsOf e)).take (P.cellsOf e)) = some x) →
    ∃ scs, RowOK w scs ((cs.drop (i * es.length)).take (m * es.length)) ∧ FitsL (List.replicate m es).flatten scs
  | 0, i, _ => ⟨[], ⟨by simp, by simp⟩, by simpa using fitsL_nil⟩
  | m + 1, i, h => by
    obtain ⟨x, hx⟩ := h i (by omega) (by omega)
    obtain ⟨s1, k1, k2⟩ := ih _ x hx
    obtain ⟨s2, k3, k4⟩ := items_sv (dd := dd) ih hc cs m (i + 1) (fun k h1 h2 => h k (by omega) (by omega))
    refine ⟨s1 ++ s2, ?_, by rw [List.replicate_succ, List.flatten_cons]; exact fitsL_append k2 k4⟩
    rw [hc] at k1
    have := rowOK_append k1 k3
    have e : ((cs.drop (i * es.length)).take es.length) ++ ((cs.drop ((i + 1) * es.length)).take (m * es.length)) = (cs.drop (i * es.length)).take ((m + 1) * es.length) := by
      rw [Nat.add_mul i 1, Nat.one_mul, ← List.drop_drop, Nat.add_mul m 1, Nat.one_mul, Nat.add_comm (m * es.length), ← List.take_add]
    rw [← e]; exact this
theorem cells_all {a : Addr} {n : Nat} {vs : List Value} (h : w.cells? 0 a n = some vs) : vs.length = n ∧ ∀ j, j < n → w.cell? (a.add j) = vs[j]? := by
  unfold World.cells? at h
  simp only [Nat.zero_le, if_true] at h
  exact ⟨by simpa using mapM_some_length h, fun j hj => mapM_some_get h j j (by simp [hj])⟩
theorem add_at {a : Addr} {v : Value} (h : w.cell? (a.add 0) = some v) : a.spot = none ∧ a.block < w.heap.size := by
  have : a.add 0 = a := by simp [Addr.add]
  rw [this] at h
  unfold World.cell? at h
  split at h
  · rename_i c _ _ hb
    cases hs : a.spot with
    | none => exact ⟨rfl, (Array.getElem?_eq_some_iff.1 hb).1⟩
    | some x => rw [hs] at h; simp at h
  · cases h
theorem trod_sv : ∀ (n : Nat) (t : TypeId) (cs : List Value) (x : DataW H × List MemPlace) (dd : Nat) (es : List DT), DataW.trod enc P w 0 spare held n t cs = some x → cdesc P dd t = some es → ReadsAs P w t es cs := by
  intro n
  induction n with
  | zero => intro t cs x dd es h; simp [DataW.trod] at h
  | succ n ih =>
    intro t cs x dd es h hd
    cases dd with
    | zero => simp [cdesc] at hd
    | succ dd =>
      unfold cdesc at hd
      split at hd
      · rename_i hu
        cases hd
        obtain ⟨b, rfl, _⟩ := DataW.trod_bool hu h
        exact ⟨[.bool b], rowOK_one (.bool b) rfl, rfl, fun j d c hd hc => by cases j <;> simp at hd hc; subst hd; subst hc; exact .bool b⟩
      · rename_i k hu
        cases hd
        obtain ⟨b, rfl, _, hw⟩ := DataW.trod_int hu h
        exact ⟨[.int k b], rowOK_one (.int k b) rfl, rfl, fun j d c hd hc => by cases j <;> simp at hd hc; subst hd; subst hc; exact .int k b hw⟩
      · rename_i hu
        cases hd
        obtain ⟨b, rfl, _, hw⟩ := DataW.trod_string hu h
        exact ⟨[.str b], rowOK_one (.str b) rfl, rfl, fun j d c hd hc => by cases j <;> simp at hd hc; subst hd; subst hc; exact .str b hw⟩
      · rename_i e hu
        simp only [Option.bind_eq_some_iff] at hd
        obtain ⟨ee, hd1, hd⟩ := hd
        replace hd := bif_some hd
        obtain ⟨hd2, hd⟩ := hd
        cases hd
        simp only [Bool.and_eq_true, beq_iff_eq, Bool.not_eq_true', List.isEmpty_eq_false_iff] at hd2
        obtain ⟨hz, hne⟩ := hd2
        have hz0 : 0 < ee.length := List.length_pos_iff.2 hne
        rcases DataW.trod_slice hu h with ⟨rfl, _⟩ | ⟨a, len, cap, elems, rest, m, hm, rfl, _, _, hlc, hcap, hel, hget, _⟩
        · refine ⟨[.lst ee.length [] true], rowOK_one ?_ rfl, rfl, fun j d c hd hc => ?_⟩
          · exact VR.lst (L := []) (fun _ _ => undef) (Nat.le_refl _) (fun _ => rfl) (by simp) (.inl rfl) (by simp) (by simp)
          · cases j <;> simp at hd hc
            subst hd; subst hc
            exact .lst ee [] true (by simp) (by simp) (by simp)
        · cases hm
          have key : ∀ i, i < len → ∃ (vs : List Value) (r : List SV), w.cells? 0 (a.add (i * ee.length)) ee.length = some vs ∧ RowOK w r vs ∧ FitsL ee r := by
            intro i hi
            have h1 := hget i hi
            have h2 : elems[i]? = some elems[i] := List.getElem?_eq_getElem (by omega)
            rw [h2, hz, Option.bind_eq_some_iff] at h1
            obtain ⟨vs, h3, h4⟩ := h1
            obtain ⟨r, h5, h6⟩ := ih e vs _ dd ee h4 hd1
            exact ⟨vs, r, h3, h5, h6⟩
          have hch : ∃ g : Nat → List SV, ∀ i, i < len → ∃ vs : List Value, w.cells? 0 (a.add (i * ee.length)) ee.length = some vs ∧ RowOK w (g i) vs ∧ FitsL ee (g i) :=
            ⟨fun i => if hi : i < len then Classical.choose (Classical.choose_spec (key i hi)) else [], fun i hi => by
              simp only [hi, dif_pos]
              exact ⟨_, Classical.choose_spec (Classical.choose_spec (key i hi))⟩⟩
          obtain ⟨g, hg⟩ := hch
          have hrow : ∀ (i : Nat) r, ((List.range len).map g)[i]? = some r → i < len ∧ r = g i := by
            intro i r hr
            simp only [List.getElem?_map, Option.map_eq_some_iff] at hr
            obtain ⟨k, hk, rfl⟩ := hr
            have hlt := (List.getElem?_eq_some_iff.1 hk).1
            simp at hlt
            rw [List.getElem?_range hlt] at hk
            cases hk
            exact ⟨hlt, rfl⟩
          have hcell : ∀ (i j : Nat), i < len → j < ee.length → ∃ v c, w.cell? ((a.add (i * ee.length)).add j) = some v ∧ (g i)[j]? = some c ∧ VR w (· < w.heap.size) noMap c v ∧ c.ok1 = true := by
            intro i j hi hj
            obtain ⟨vs, h1, h2, h3⟩ := hg i hi
            obtain ⟨h4, h5⟩ := cells_all h1
            have hv : vs[j]? = some vs[j] := List.getElem?_eq_getElem (by omega)
            have hjl : j < (g i).length := by have := h2.1; omega
            have hc : (g i)[j]? = some (g i)[j] := List.getElem?_eq_getElem hjl
            obtain ⟨h6, h7⟩ := h2.2 j _ _ hc hv
            exact ⟨_, _, (h5 j hj).trans hv, hc, h6, h7⟩
          refine ⟨[.lst ee.length ((List.range len).map g) false], rowOK_one ?_ rfl, rfl, fun j d c hd hc => ?_⟩
          · have hlen : ((List.range len).map g).length = len := by simp
            have hq : VR w (· < w.heap.size) noMap (.lst ee.length ((List.range len).map g) false) (.slice (some a) ((List.range len).map g).length cap) := by
              refine .lst (fun i j => (w.cell? ((a.add (i * ee.length)).add j)).getD undef) (by omega) (fun h => by cases h) (fun i r hr => ?_) ?_ (fun i j r c hr hc => ?_) (fun i j r c hr hc => ?_)
              · obtain ⟨hi, rfl⟩ := hrow i r hr
                obtain ⟨vs, h1, h2, h3⟩ := hg i hi
                exact h3.1
              · by_cases h0 : len = 0
                · left; subst h0; rfl
                · right
                  obtain ⟨v, c, h1, _⟩ := hcell 0 0 (by omega) hz0
                  rw [Nat.zero_mul] at h1
                  have h2 := add_at (a := a) (v := v) (by have : (a.add 0).add 0 = a.add 0 := by simp [Addr.add]
                                                          rw [this] at h1; exact h1)
                  refine ⟨a.block, a.off, ?_, h2.2, fun i j r c hr hc => ?_⟩
                  · obtain ⟨b, o, sp⟩ := a; simp only at h2; rw [h2.1]
                  · obtain ⟨hi, rfl⟩ := hrow i r hr
                    obtain ⟨vs, _, h3, h4⟩ := hg i hi
                    have hj : j < ee.length := by have := (List.getElem?_eq_some_iff.1 hc).1; have := h4.1; omega
                    obtain ⟨v, c', h5, _⟩ := hcell i j hi hj
                    have ha : (a.add (i * ee.length)).add j = ⟨a.block, a.off + i * ee.length + j, none⟩ := by
                      obtain ⟨b, o, sp⟩ := a; simp only at h2; rw [h2.1, add_none, add_none]
                    rw [← ha, h5]; rfl
              · obtain ⟨hi, rfl⟩ := hrow i r hr
                obtain ⟨vs, _, h3, h4⟩ := hg i hi
                have hj : j < ee.length := by have := (List.getElem?_eq_some_iff.1 hc).1; have := h4.1; omega
                obtain ⟨v, c', _, h6, _, h7⟩ := hcell i j hi hj
                rw [hc] at h6; cases h6; exact h7
              · obtain ⟨hi, rfl⟩ := hrow i r hr
                obtain ⟨vs, _, h3, h4⟩ := hg i hi
                have hj : j < ee.length := by have := (List.getElem?_eq_some_iff.1 hc).1; have := h4.1; omega
                obtain ⟨v, c', h5, h6, h7, _⟩ := hcell i j hi hj
                rw [hc] at h6; cases h6
                simp only [h5, Option.getD_some]; exact h7
            rw [hlen] at hq
            exact hq
          · cases j <;> simp at hd hc
            subst hd; subst hc
            refine .lst ee _ false (by simp; omega) (fun r hr => ?_) (fun r hr j d c hd hc => ?_)
            · obtain ⟨i, hi⟩ := List.getElem?_of_mem hr
              obtain ⟨h1, rfl⟩ := hrow i r hi
              obtain ⟨vs, _, _, h4⟩ := hg i h1
              exact h4.1
            · obtain ⟨i, hi⟩ := List.getElem?_of_mem hr
              obtain ⟨h1, rfl⟩ := hrow i r hi
              obtain ⟨vs, _, _, h4⟩ := hg i h1
              exact h4.2 j d c hd hc
      · rename_i fs hu
        simp only [Option.bind_eq_some_iff] at hd
        obtain ⟨tot, hd1, hd⟩ := hd
        replace hd := bif_some hd
        obtain ⟨hd2, hd⟩ := hd
        cases hd
        have hd2 : P.cellsOf t = es.length := by simpa using hd2
        obtain ⟨xs, m, hm, _, hl, hxl, hget⟩ := DataW.trod_struct hu h
        cases hm
        obtain ⟨rest, h1, scs, h2, h3⟩ := fields_sv (dd := dd) (fun t cs x es h1 h2 => ih t cs x dd es h1 h2) cs fs.toList [] es hd1 (fun f hf => by
          obtain ⟨i, hi⟩ := List.getElem?_of_mem hf
          have hlt := (List.getElem?_eq_some_iff.1 hi).1
          have h5 := hget i f (by simpa using hi)
          exact ⟨xs[i]'(by simp at hlt; omega), by rw [h5]; simp⟩) (by omega)
        simp only [List.nil_append] at h1
        subst h1
        simp only [List.length_nil, List.drop_zero] at h2
        rw [List.take_of_length_le (by omega)] at h2
        exact ⟨scs, h2, h3⟩
      · rename_i k e hu
        simp only [Option.bind_eq_some_iff] at hd
        obtain ⟨ee, hd1, hd⟩ := hd
        replace hd := bif_some hd
        obtain ⟨hd2, hd⟩ := hd
        cases hd
        simp only [Bool.and_eq_true, beq_iff_eq] at hd2
        obtain ⟨hz, ht⟩ := hd2
        obtain ⟨xs, m, hm, _, hl, hxl, hget⟩ := DataW.trod_array hu h
        cases hm
        obtain ⟨scs, h2, h3⟩ := items_sv (dd := dd) (fun cs x h1 => ih e cs x dd ee h1 hd1) hz cs k 0 (fun i _ hi => ⟨xs[i]'(by omega), by rw [hget i (by omega)]; simp⟩)
        have hfl : (List.replicate k ee).flatten.length = k * ee.length := by simp
        rw [Nat.zero_mul, List.drop_zero, List.take_of_length_le (by omega)] at h2
        exact ⟨scs, h2, h3⟩
      · cases hd
def FitsA (d : Bool × List DT) (x : SV) : Prop := match d.1 with
  | true => ∃ cs, x = .agg cs ∧ FitsL d.2 cs
  | false => ∃ e, d.2 = [e] ∧ Fits e x
def argD (P : Program) (t : TypeId) : Option (Bool × List DT) := match cag P t, cdesc P 8 t with
  | some ag, some es => some (ag, es)
  | _, _ => none
theorem okWide_agg {r : Reach} {base : Nat} {t : TypeId} {v : Value} (h : Value.okWide P w r base t v) (hag : cag P t = some true) : ∃ cs, v = .agg cs := by
  unfold Value.okWide at h
  unfold cag at hag
  split at h
  · obtain ⟨cs, h, _⟩ := h; exact ⟨cs, h⟩
  · obtain ⟨cs, h, _⟩ := h; exact ⟨cs, h⟩
  · rename_i h1 h2
    split at hag
    · rename_i fs hu; exact absurd hu (h1 fs)
    · rename_i n e hu; exact absurd hu (h2 n e)
    · cases hag
    · cases hag
theorem okWide_one {r : Reach} {base : Nat} {t : TypeId} {v : Value} {es : List DT} (h : Value.okWide P w r base t v) (hag : cag P t = some false) (hd : cdesc P 8 t = some es) : one1 v = true ∧ es.length = 1 := by
  unfold cdesc at hd
  unfold Value.okWide at h
  split at hd
  · rename_i hu
    simp only [hu, Cell.okWide, Cell.ok] at h
    cases hd
    cases v <;> simp_all [one1]
  · rename_i k hu
    simp only [hu, Cell.okWide, Cell.ok] at h
    cases hd
    cases v <;> simp_all [one1]
  · rename_i hu
    simp only [hu, Cell.okWide, Cell.ok] at h
    cases hd
    cases v <;> simp_all [one1]
  · rename_i e hu
    simp only [hu, Cell.okWide, Cell.ok] at h
    simp only [Option.bind_eq_some_iff] at hd
    obtain ⟨ee, _, hd⟩ := hd
    replace hd := bif_some hd
    cases hd.2
    cases v <;> simp_all [one1]
  · rename_i fs hu; simp [cag, hu] at hag
  · rename_i k e hu; simp [cag, hu] at hag
  · cases hd
theorem arg_sv {r : Reach} {base : Nat} {t : TypeId} {v : Value} {d : DataW H} {ps : List MemPlace} {a : Bool × List DT} (h : DataW.Trod enc P w 0 spare held t v d ps) (hok : Value.okWide P w r base t v) (ha : argD P t = some a) :
    ∃ x, VR w (· < w.heap.size) noMap x v ∧ FitsA a x := by
  unfold argD at ha
  split at ha
  rotate_left
  · cases ha
  rename_i ag es hag hd
  cases ha
  obtain ⟨n, hn⟩ := h
  obtain ⟨scs, h1, h2⟩ := trod_sv n t _ _ 8 es hn hd
  cases ag with
  | true =>
    obtain ⟨cs, rfl⟩ := okWide_agg hok hag
    refine ⟨.agg scs, .agg (by simpa [Value.cells] using h1.1) (fun j c hc => ?_) (fun j c v hc hv => (h1.2 j c v hc (by simpa [Value.cells] using hv)).1), scs, rfl, h2⟩
    have hlt := (List.getElem?_eq_some_iff.1 hc).1
    have hl := h1.1
    simp only [Value.cells, Array.length_toList] at hl
    exact (h1.2 j c cs[j] hc (by simp [Value.cells])).2
  | false =>
    obtain ⟨h3, h4⟩ := okWide_one hok hag hd
    have hc : v.cells = #[v] := by cases v <;> simp_all [Value.cells, one1]
    rw [hc] at h1
    obtain ⟨c, rfl⟩ : ∃ c, scs = [c] := List.length_eq_one_iff.1 (by simpa using h1.1)
    obtain ⟨e, rfl⟩ : ∃ e, es = [e] := List.length_eq_one_iff.1 h4
    exact ⟨c, (h1.2 0 c v rfl rfl).1, e, rfl, h2.2 0 e c rfl rfl⟩
def FitsAll (as1 : List (Bool × List DT)) (xs : List SV) : Prop := xs.length = as1.length ∧ ∀ (j : Nat) a x, as1[j]? = some a → xs[j]? = some x → FitsA a x
theorem args_sv {r : Reach} {base : Nat} : ∀ (ts : List TypeId) (vs : List Value) (ds : List (DataW H)) (ps : List MemPlace) (as1 : List (Bool × List DT)), DataW.TrodAll enc P w 0 spare held ts vs ds ps → ts.map (argD P) = as1.map some →
    (∀ (j : Nat) t v, ts[j]? = some t → vs[j]? = some v → Value.okWide P w r base t v) → ∃ xs : List SV, xs.length = vs.length ∧ (∀ (j : Nat) c v, xs[j]? = some c → vs[j]? = some v → VR w (· < w.heap.size) noMap c v) ∧ FitsAll as1 xs ∧ ds.length = ts.length
  | [], [], [], ps, as1, h, ha, _ => by
    have : as1 = [] := by simpa using ha.symm
    subst this
    exact ⟨[], rfl, by simp, ⟨rfl, by simp⟩, rfl⟩
  | t :: ts, v :: vs, d :: ds, ps, as1, h, ha, hok => by
    obtain ⟨p, q, h1, h2, _⟩ := h
    cases as1 with
    | nil => simp at ha
    | cons a as1 =>
      simp only [List.map_cons, List.cons.injEq] at ha
      obtain ⟨x, k1, k2⟩ := arg_sv h1 (hok 0 t v rfl rfl) ha.1
      obtain ⟨xs, k3, k4, k5, k6⟩ := args_sv ts vs ds q as1 h2 ha.2 (fun j t v ht hv => hok (j + 1) t v ht hv)
      refine ⟨x :: xs, by simp [k3], fun j c v hc hv => ?_, ⟨by simp [k5.1], fun j a x ha hx => ?_⟩, by simp [k6]⟩
      · cases j with
        | zero => simp at hc hv; subst hc; subst hv; exact k1
        | succ j => exact k4 j c v (by simpa using hc) (by simpa using hv)
      · cases j with
        | zero => simp at ha hx; subst ha; subst hx; exact k2
        | succ j => exact k5.2 j a x (by simpa using ha) (by simpa using hx)
  | [], _ :: _, _, _, _, h, _, _ => by simp [DataW.TrodAll] at h
  | [], [], _ :: _, _, _, h, _, _ => by simp [DataW.TrodAll] at h
  | _ :: _, [], _, _, _, h, _, _ => by simp [DataW.TrodAll] at h
  | _ :: _, _ :: _, [], _, _, h, _, _ => by simp [DataW.TrodAll] at h
end
end Go.Sh
namespace Go.Sh
set_option linter.unusedSectionVars false
set_option linter.unnecessarySimpa false
set_option linter.unusedSimpArgs false
set_option linter.unusedVariables false
section
variable {H : Type} {enc : TypeId × Value → H} {P : Program} {w w' : World}
theorem trodAll_carry {base : Nat} {spare : Nat → Bool} {held : Bool} : ∀ {ts : List TypeId} {vs : List Value} {ds : List (DataW H)} {ps : List MemPlace}, DataW.TrodAll enc P w base spare held ts vs ds ps → (∀ p ∈ ps, w.sameAt w' p) → DataW.TrodAll enc P w' base spare held ts vs ds ps
  | [], [], [], _, h, _ => h
  | _ :: _, _ :: _, _ :: _, _, ⟨p, q, ⟨n, h1⟩, h2, e⟩, hs => ⟨p, q, ⟨n, DataW.trod_carry n _ _ _ h1 (fun x hx => hs x (by rw [e]; exact List.mem_append_left _ hx))⟩, trodAll_carry h2 (fun x hx => hs x (by rw [e]; exact List.mem_append_right _ hx)), e⟩
  | [], _ :: _, _, _, h, _ => by simp [DataW.TrodAll] at h
  | [], [], _ :: _, _, h, _ => by simp [DataW.TrodAll] at h
  | _ :: _, [], _, _, h, _ => by simp [DataW.TrodAll] at h
  | _ :: _, _ :: _, [], _, h, _ => by simp [DataW.TrodAll] at h
theorem sameAt_of (hh : ∀ B, B < w.heap.size → w'.heap[B]? = w.heap[B]?) {p : MemPlace} (hp : p.block < w.heap.size) : w.sameAt w' p := by
  cases p with
  | cell b off => simp only [World.sameAt, World.cell?, hh b hp]
  | map b => exact hh b hp
theorem kept_of (hh : ∀ B, B < w.heap.size → w'.heap[B]? = w.heap[B]?) (ho : w'.os = w.os ∧ w'.output = w.output) (may : MemPlace → Prop) : w.keptBut w' may := by
  refine ⟨ho.1, ho.2, fun i hi => ?_⟩
  rw [hh i hi]
  cases hq : w.heap[i]? with
  | none => simp
  | some o => cases o <;> simp
end
theorem law_row_ext {Ck : Checked} (pol : Pol) (hext : ExtsOK ⟨Ck.prog, pol⟩) {os : Os} {f : FuncId} {fn : Func} {s : ChangeSpec} {conds : List PathCond} {apart fresh handsOn : Bool} {ads : List (Bool × List DT)} {tb : TypeId} {H : Type} {enc : TypeId × Value → H}
    (own : ownKnob Ck.prog.godebug = none) (started : os.Started) (noInit : Ck.prog.inits.idxOf? f = none) (hfn : Ck.prog.funcs[f]? = some fn)
    (witness : ∃ (w : World) (tape : Tape) (i : Input), w.os = os ∧ (w.forCall tape i).Shaped Ck.prog ∧ i.vars = [] ∧ Input.okWide Ck.prog (w.forCall tape i) .any w.heap.size f i ∧
      s.pre6 enc Ck.prog fn conds apart (w.forCall tape i).memory i.args ∧ ({} : Assume).holds Ck.prog (lone (Frame.enter Ck.prog f i.args .normal) [] (w.forCall tape i)))
    (hmix : Ck.prog.follows .mixedOrders = true) (hlaid : laidOutB Ck.prog = true) (hmaps : mapsRowed Ck.prog = true)
    (hfull : ((List.range Ck.prog.types.size).all fun t => match Ck.prog.underlying t with | some (.slice e) => decide (0 < Ck.prog.cellsOf e) | _ => true) = true)
    (hpar : ∀ t ∈ fn.params.toList, t < Ck.prog.types.size)
    (hargs : fn.params.toList.map (argD Ck.prog) = ads.map some) (hres : fn.resultTypes = #[tb]) (hb : Ck.prog.underlying tb = some .bool) (hvars : s.vars = [])
    (hspec : ∀ (H : Type) (ds : List (DataW H)), ds.length = fn.params.toList.length → s.fn H ds = { results := [.lit (.bool true)], args := ds })
    (hlaw : ∀ xs, FitsAll ads xs → ∃ m, call1 (cfun Ck.prog pol) m (.fn f) xs heap0 = some (.bool true, heap0)) :
    ReturnsInHanded {} Ck os f .any (s.pre6 enc Ck.prog fn conds apart) (s.post enc Ck.prog fn apart fresh handsOn false) := by
  refine returnsInHanded_of_change own started noInit hfn witness ?_
  intro W base args ds gs before hval hW hcnd _
  have hW' := hW
  obtain ⟨p, q, hA, hV, rfl, hfz, hnd⟩ := hW
  rw [hvars] at hV
  have hgs : gs = [] ∧ q = [] := by
    cases gs with
    | nil => exact ⟨rfl, hV⟩
    | cons g gs => simp [DataW.TrodVars] at hV
  obtain ⟨rfl, rfl⟩ := hgs
  obtain ⟨xs, h1, h2, h3, h4⟩ := args_sv (spare := fun _ => true) (held := true) fn.params.toList args.toList ds p ads hA hargs (fun j t v ht hv => hval j t v (by simpa using ht) (by simpa using hv))
  obtain ⟨m, hm⟩ := hlaw xs h3
  have hHR : HR ⟨Ck.prog, pol⟩ noMap (· < W.heap.size) heap0 W := ⟨(fun b l h => by cases h), (fun b x h => by simp [heap0] at h), (fun b b' l l' h => by cases h.2.1), (fun b l h => by cases h.2.1), fun B hB => hB⟩
  have hcall := ((rec_ok (C := ⟨Ck.prog, pol⟩) hmix hext (fun _ _ h => h) m).call f xs heap0 (.bool true) heap0 hm noMap (· < W.heap.size) W args hHR ⟨by simpa using h1, fun j c v hc hv => h2 j c v hc (by simpa using hv)⟩).2 0
  refine (callsIn_wide.1 hcall).mono (fun e W' he => ?_)
  obtain ⟨val, rfl, ρ', F', d1, d2, d3⟩ := he
  have hv := vr_bool d1
  subst hv
  have hno : ∀ b l, ¬ Own noMap heap0 b l := fun b l h => by cases h.2.1
  have hh : ∀ B, B < W.heap.size → W'.heap[B]? = W.heap[B]? := fun B hB => d3.frame B hB (fun b l ho => absurd ho (hno b l))
  have hlt : ∀ x ∈ p, x.block < W.heap.size := fun x hx => hW'.lt x (by simpa using hx)
  refine ⟨_, rfl, ds, [], p ++ [], [], p, [], hW', ?_, ?_, ?_, kept_of hh d3.out _, fun h => by cases h⟩
  · rw [hres, hspec H (ds ++ []) (by simpa using h4)]
    simp only [List.size_toArray, List.length_cons, List.length_nil, Value.resultList]
    exact ⟨[], [], RowKit.shut_bool hb true, rfl, rfl⟩
  · rw [hspec H (ds ++ []) (by simpa using h4)]
    simp only [List.append_nil]
    refine trodAll_carry ?_ (fun x hx => sameAt_of hh (hlt x hx))
    exact DataW.TrodAll.respare (kids_rows hlaid hmaps) (fun t e ht hu => slices_full_of Ck.prog hfull t e ht hu) hpar hA (fun x hx => by simpa using hlt x hx)
  · rw [hspec H (ds ++ []) (by simpa using h4), hvars]
    rfl
theorem law_row {Ck : Checked} (pol : Pol) {os : Os} {f : FuncId} {fn : Func} {s : ChangeSpec} {conds : List PathCond} {apart fresh handsOn : Bool} {ads : List (Bool × List DT)} {tb : TypeId} {H : Type} {enc : TypeId × Value → H}
    (own : ownKnob Ck.prog.godebug = none) (started : os.Started) (noInit : Ck.prog.inits.idxOf? f = none) (hfn : Ck.prog.funcs[f]? = some fn)
    (witness : ∃ (w : World) (tape : Tape) (i : Input), w.os = os ∧ (w.forCall tape i).Shaped Ck.prog ∧ i.vars = [] ∧ Input.okWide Ck.prog (w.forCall tape i) .any w.heap.size f i ∧
      s.pre6 enc Ck.prog fn conds apart (w.forCall tape i).memory i.args ∧ ({} : Assume).holds Ck.prog (lone (Frame.enter Ck.prog f i.args .normal) [] (w.forCall tape i)))
    (hmix : Ck.prog.follows .mixedOrders = true) (hlaid : laidOutB Ck.prog = true) (hmaps : mapsRowed Ck.prog = true)
    (hfull : ((List.range Ck.prog.types.size).all fun t => match Ck.prog.underlying t with | some (.slice e) => decide (0 < Ck.prog.cellsOf e) | _ => true) = true)
    (hpar : ∀ t ∈ fn.params.toList, t < Ck.prog.types.size)
    (hargs : fn.params.toList.map (argD Ck.prog) = ads.map some) (hres : fn.resultTypes = #[tb]) (hb : Ck.prog.underlying tb = some .bool) (hvars : s.vars = [])
    (hspec : ∀ (H : Type) (ds : List (DataW H)), ds.length = fn.params.toList.length → s.fn H ds = { results := [.lit (.bool true)], args := ds })
    (hlaw : ∀ xs, FitsAll ads xs → ∃ m, call1 (cfun Ck.prog pol) m (.fn f) xs heap0 = some (.bool true, heap0)) (hnone : ∀ f, pol.ext f = none := by intro f; rfl) :
    ReturnsInHanded {} Ck os f .any (s.pre6 enc Ck.prog fn conds apart) (s.post enc Ck.prog fn apart fresh handsOn false) :=
  law_row_ext pol (fun f k h => by rw [show pol.ext f = none from hnone f] at h; cases h) own started noInit hfn witness hmix hlaid hmaps hfull hpar hargs hres hb hvars hspec hlaw
end Go.Sh
namespace Go.Sh
set_option linter.unusedSectionVars false
set_option linter.unnecessarySimpa false
set_option linter.unusedSimpArgs false
set_option linter.unusedVariables false
mutual
def eqSV : SV → SV → Bool
  | .undef, .undef => true
  | .skp, .skp => true
  | .bool a, .bool b => a == b
  | .int k a, .int k' b => decide (k = k') && decide (a = b)
  | .str a, .str b => decide (a = b)
  | .nilPtr, .nilPtr => true
  | .ptr a b c d, .ptr a' b' c' d' => decide (a = a') && decide (b = b') && decide (c = c') && decide (d = d')
  | .eptr a, .eptr b => eqL a b
  | .lst z L f, .lst z' L' f' => decide (z = z') && eqLL L L' && f == f'
  | .slc a b c d, .slc a' b' c' d' => decide (a = a') && decide (b = b') && decide (c = c') && decide (d = d')
  | .agg a, .agg b => eqL a b
  | .tup a, .tup b => eqL a b
  | .fn f a, .fn g b => decide (f = g) && eqL a b
  | .bfn f a, .bfn g b => decide (f = g) && eqL a b
  | .nilFn, .nilFn => true
  | .yld a, .yld b => decide (a = b)
  | .mp a, .mp b => decide (a = b)
  | _, _ => false
def eqL : List SV → List SV → Bool
  | [], [] => true
  | a :: r, b :: r' => eqSV a b && eqL r r'
  | _, _ => false
def eqLL : List (List SV) → List (List SV) → Bool
  | [], [] => true
  | a :: r, b :: r' => eqL a b && eqLL r r'
  | _, _ => false
end
mutual
theorem eqSV_eq : ∀ a b : SV, eqSV a b = true → a = b
  | .undef, b, h => by cases b <;> first | rfl | (simp [eqSV] at h; done)
  | .skp, b, h => by cases b <;> first | rfl | (simp [eqSV] at h; done)
  | .bool a, b, h => by cases b <;> simp [eqSV] at h ⊢ <;> exact h
  | .int k a, b, h => by cases b <;> simp [eqSV] at h ⊢ <;> exact h
  | .str a, b, h => by cases b <;> simp [eqSV] at h ⊢ <;> exact h
  | .nilPtr, b, h => by cases b <;> first | rfl | (simp [eqSV] at h; done)
  | .ptr .., b, h => by cases b <;> simp [eqSV] at h ⊢ <;> exact ⟨h.1.1.1, h.1.1.2, h.1.2, h.2⟩
  | .eptr a, b, h => by cases b <;> simp [eqSV] at h ⊢ <;> exact eqL_eq _ _ h
  | .lst z L f, b, h => by cases b <;> simp [eqSV] at h ⊢ <;> exact ⟨h.1.1, eqLL_eq _ _ h.1.2, h.2⟩
  | .slc .., b, h => by cases b <;> simp [eqSV] at h ⊢ <;> exact ⟨h.1.1.1, h.1.1.2, h.1.2, h.2⟩
  | .agg a, b, h => by cases b <;> simp [eqSV] at h ⊢ <;> exact eqL_eq _ _ h
  | .tup a, b, h => by cases b <;> simp [eqSV] at h ⊢ <;> exact eqL_eq _ _ h
  | .fn f a, b, h => by cases b <;> simp [eqSV] at h ⊢ <;> exact ⟨h.1, eqL_eq _ _ h.2⟩
  | .bfn f a, b, h => by cases b <;> simp [eqSV] at h ⊢ <;> exact ⟨h.1, eqL_eq _ _ h.2⟩
  | .nilFn, b, h => by cases b <;> first | rfl | (simp [eqSV] at h; done)
  | .yld a, b, h => by cases b <;> simp [eqSV] at h ⊢ <;> exact h
  | .mp a, b, h => by cases b <;> simp [eqSV] at h ⊢ <;> exact h
theorem eqL_eq : ∀ a b : List SV, eqL a b = true → a = b
  | [], [], _ => rfl
  | [], _ :: _, h => by simp [eqL] at h
  | _ :: _, [], h => by simp [eqL] at h
  | a :: r, b :: r', h => by
    simp only [eqL, Bool.and_eq_true] at h
    rw [eqSV_eq a b h.1, eqL_eq r r' h.2]
theorem eqLL_eq : ∀ a b : List (List SV), eqLL a b = true → a = b
  | [], [], _ => rfl
  | [], _ :: _, h => by simp [eqLL] at h
  | _ :: _, [], h => by simp [eqLL] at h
  | a :: r, b :: r', h => by
    simp only [eqLL, Bool.and_eq_true] at h
    rw [eqL_eq a b h.1, eqLL_eq r r' h.2]
end
def eqMp : List (SV × SV) → List (SV × SV) → Bool
  | [], [] => true
  | a :: r, b :: r' => eqSV a.1 b.1 && eqSV a.2 b.2 && eqMp r r'
  | _, _ => false
theorem eqMp_eq : ∀ a b : List (SV × SV), eqMp a b = true → a = b
  | [], [], _ => rfl
  | [], _ :: _, h => by simp [eqMp] at h
  | _ :: _, [], h => by simp [eqMp] at h
  | (a1, a2) :: r, (b1, b2) :: r', h => by
    simp only [eqMp, Bool.and_eq_true] at h
    rw [eqSV_eq a1 b1 h.1.1, eqSV_eq a2 b2 h.1.2, eqMp_eq r r' h.2]
def eqEnv : Env → Env → Bool
  | [], [] => true
  | a :: r, b :: r' => decide (a.1 = b.1) && eqSV a.2 b.2 && eqEnv r r'
  | _, _ => false
theorem eqEnv_eq : ∀ a b : Env, eqEnv a b = true → a = b
  | [], [], _ => rfl
  | [], _ :: _, h => by simp [eqEnv] at h
  | _ :: _, [], h => by simp [eqEnv] at h
  | (a1, a2) :: r, (b1, b2) :: r', h => by
    simp only [eqEnv, Bool.and_eq_true, decide_eq_true_eq] at h
    rw [h.1.1, eqSV_eq a2 b2 h.1.2, eqEnv_eq r r' h.2]
def eqBlk : SBlk → SBlk → Bool
  | .dead, .dead => true
  | .box a, .box b => eqL a b
  | .arr v z L x, .arr v' z' L' x' => decide (v = v') && decide (z = z') && eqLL L L' && x == x'
  | .map a, .map b => eqMp a b
  | _, _ => false
theorem eqBlk_eq : ∀ a b : SBlk, eqBlk a b = true → a = b
  | .dead, b, h => by cases b <;> first | rfl | (simp [eqBlk] at h; done)
  | .box a, b, h => by cases b <;> simp [eqBlk] at h ⊢ <;> exact eqL_eq _ _ h
  | .arr .., b, h => by cases b <;> simp [eqBlk] at h ⊢ <;> exact ⟨h.1.1.1, h.1.1.2, eqLL_eq _ _ h.1.2, h.2⟩
  | .map a, b, h => by cases b <;> simp [eqBlk] at h ⊢ <;> exact eqMp_eq _ _ h
  | .loop .., b, h => by cases b <;> simp [eqBlk] at h
def eqBl : List SBlk → List SBlk → Bool
  | [], [] => true
  | a :: r, b :: r' => eqBlk a b && eqBl r r'
  | _, _ => false
theorem eqBl_eq : ∀ a b : List SBlk, eqBl a b = true → a = b
  | [], [], _ => rfl
  | [], _ :: _, h => by simp [eqBl] at h
  | _ :: _, [], h => by simp [eqBl] at h
  | a :: r, b :: r', h => by
    simp only [eqBl, Bool.and_eq_true] at h
    rw [eqBlk_eq a b h.1, eqBl_eq r r' h.2]
def eqSt (a b : Env × Heap) : Bool := eqEnv a.1 b.1 && eqBl a.2.bl b.2.bl && decide (a.2.esc = b.2.esc) && decide (a.2.ro = b.2.ro)
theorem eqSt_eq {a b : Env × Heap} (h : eqSt a b = true) : a = b := by
  obtain ⟨e, bl, es, ro⟩ := a
  obtain ⟨e', bl', es', ro'⟩ := b
  simp only [eqSt, Bool.and_eq_true, decide_eq_true_eq] at h
  obtain ⟨⟨⟨h1, h2⟩, rfl⟩, rfl⟩ := h
  rw [eqEnv_eq _ _ h1, eqBl_eq _ _ h2]
def sameB : List (Option (Env × Heap)) → Option (Env × Heap)
  | [] => none
  | [a] => a
  | some a :: some b :: r => bif eqSt a b then sameB (some b :: r) else none
  | _ => none
theorem sameB_up : ∀ (l : List (Option (Env × Heap))) {s}, sameB l = some s → same1 l = some s ∧ ∀ x ∈ l, x = some s
  | [], s, h => by simp [sameB] at h
  | [a], s, h => ⟨h, fun x hx => by simp only [List.mem_singleton] at hx; subst hx; exact h⟩
  | some a :: some b :: r, s, h => by
    simp only [sameB] at h
    replace h := bif_some h
    obtain ⟨h1, h2⟩ := h
    have := eqSt_eq h1
    subst this
    obtain ⟨h3, h4⟩ := sameB_up (some a :: r) h2
    exact ⟨by rw [same1, if_pos rfl]; exact h3, fun x hx => by
      rcases List.mem_cons.1 hx with rfl | hx
      · exact h4 _ (List.mem_cons_self ..)
      · exact h4 x hx⟩
  | none :: b :: r, s, h => by simp [sameB] at h
  | some a :: none :: r, s, h => by simp [sameB] at h
def runB (rec : Rec) (fu : Nat) : Code1 → Env → Heap → Option Out
  | .skip, e, H => some (.normal, e, H)
  | .ops l, e, H => (runOps rec l e H (fun e H => some (e, H)) ()).map fun s => (.normal, s)
  | .drawn l, e, H => (runDrawn rec l H.bl.length e H (fun e H => some (e, H)) ()).map fun s => (.normal, s)
  | .perm l os, e, H => (sameB (os.map (runAll rec l e H))).map fun s => (.normal, s.1, s.2)
  | .seq a b, e, H => match runB rec fu a e H with
    | some (.normal, e, H) => runB rec fu b e H
    | r => r
  | .cond c a b, e, H => match ev e c with
    | .bool t => bif t then runB rec fu a e H else runB rec fu b e H
    | _ => none
  | .block id a, e, H => match runB rec fu a e H with
    | some (.exit j, e, H) => some (bif j == id then .normal else .exit j, e, H)
    | r => r
  | .freeze t, e, H => (frzT H (get e t)).map fun r => (.normal, (t, r.1) :: e, r.2)
  | .virt vs, e, H => (virt1 vs e H).map fun s => (.normal, s.1, s.2)
  | .amb d neg x c, e, H => match emp1 H (ev e x) with
    | some false => runB rec fu c ((d, .bool neg) :: e) H
    | _ => none
  | .loop p a, e, H => (virt1 p.virt e H).bind fun s => (iter1 (fun s' => (head1 p s.2.bl.length { s.2 with esc := [] } s').bind fun s' => runB rec fu a s'.1 s'.2) fu (s.1, { s.2 with esc := [] })).map
      fun o => (o.1, o.2.1, { o.2.2 with esc := s.2.esc ++ o.2.2.esc })
  | .rangeF f ps x y, e, H => (fcall rec (ev e f) [.yld H.bl.length] (hnew H (.loop ⟨e, ps, x, y⟩ .ready .normal))).bind fun r =>
      match hget r.2 H.bl.length with
      | some (.loop q st pend) => match st with
        | .busy => none
        | _ => (hset r.2 H.bl.length (.loop q .exhausted pend) 0).map fun H => (pend, e, H)
      | _ => none
  | .ext n, e, H => (extv n (e.map (·.2))).map fun v => (.ret, (0, v) :: e, H)
  | .exit id, e, H => some (.exit id, e, H)
  | .ret, e, H => some (.ret, e, H)
def callB (T : FuncId → Option Fun1) (fu : Nat) : Nat → Rec
  | 0, _, _, _ => none
  | n + 1, .fn f, xs, H => match T f with
    | none => none
    | some F => bif pure0 F xs then
        ((runB (callB T fu n) fu F.body (env0 xs) heap0).bind fun o => match o.1 with
          | .exit _ => none
          | _ => (results1 o.2.1 o.2.2 F.res).bind fun v => frz 0 o.2.2 depth1 v).map fun v => (v, H)
      else (runB (callB T fu n) fu F.body (env0 xs) { bl := H.bl, esc := [], ro := min H.ro H.bl.length }).bind fun o => match o.1 with
        | .exit _ => none
        | _ => (results1 o.2.1 o.2.2 F.res).bind fun v => leave1 F.keep H v o.2.2
  | n + 1, .kfn f, xs, H => match T f with
    | none => none
    | some F => (runB (callB T fu n) fu F.body (env0 xs) { bl := H.bl, esc := [], ro := min H.ro H.bl.length }).bind fun o => match o.1 with
        | .exit _ => none
        | _ => (results1 o.2.1 o.2.2 F.res).bind fun v => leave1 true H v o.2.2
  | n + 1, .yld b, xs, H => match hget H b with
    | some (.loop q .ready _) =>
      bif q.ps.length == xs.length then
        (runB (callB T fu n) fu q.assign ((q.ps.zip xs).reverse ++ q.env) { bl := H.bl, esc := [], ro := min H.ro H.bl.length }).bind fun o => match o.1 with
          | .normal => (beginLoop b o.2.2).bind fun H' => (runB (callB T fu n) fu q.body o.2.1 H').bind fun o =>
              (setLoop b (match o.1 with | .normal => .ready | _ => .done) o.1 o.2.2).bind fun H' =>
                (trunc H.bl.length H H').map fun H' => (.bool (match o.1 with | .normal => true | _ => false), H')
          | _ => none
      else none
    | _ => none
section
variable {rec rec' : Rec} (hrec : ∀ f xs H r, rec f xs H = some r → rec' f xs H = some r)
include hrec
theorem scall_up {f xs H r} (h : scall rec f xs H = some r) : scall rec' f xs H = some r := by
  unfold scall at h ⊢
  split at h
  · exact hrec _ _ _ _ h
  · exact hrec _ _ _ _ h
  · exact hrec _ _ _ _ h
  · cases h
theorem fcall_up {f xs H r} (h : fcall rec f xs H = some r) : fcall rec' f xs H = some r := by
  unfold fcall at h ⊢
  split at h
  · exact hrec _ _ _ _ h
  · cases h
theorem step1_up {e H o r} (h : step1 rec e H o = some r) : step1 rec' e H o = some r := by
  unfold step1 at h ⊢
  split at h
  · exact scall_up hrec h
  · exact hrec _ _ _ _ h
  · unfold vcall at h ⊢
    obtain ⟨vs, h1, h2⟩ := Option.bind_eq_some_iff.1 h
    obtain ⟨r1, h3, h4⟩ := Option.bind_eq_some_iff.1 h2
    exact Option.bind_eq_some_iff.2 ⟨vs, h1, Option.bind_eq_some_iff.2 ⟨r1, hrec _ _ _ _ h3, h4⟩⟩
  · exact h
theorem step1d_up {N d e H o r} (h : step1d rec N d e H o = some r) : step1d rec' N d e H o = some r := by
  unfold step1d at h ⊢
  split at h
  · exact step1_up hrec h
  · obtain ⟨a, h1, h2⟩ := Option.bind_eq_some_iff.1 h
    exact Option.bind_eq_some_iff.2 ⟨a, step1_up hrec h1, h2⟩
  · obtain ⟨a, h1, h2⟩ := Option.bind_eq_some_iff.1 h
    exact Option.bind_eq_some_iff.2 ⟨a, step1_up hrec h1, h2⟩
  · unfold step1w at h ⊢; exact h
theorem runOps_up {R : Type} (k : Env → Heap → Option R) : ∀ l e H o, runOps rec l e H (fun e H => some (e, H)) () = some o → runOps rec' l e H k () = k o.1 o.2 := by
  intro l
  induction l with
  | nil => intro e H o h; simp only [runOps, Option.some.injEq] at h ⊢; rw [← h]
  | cons a l ih =>
    intro e H o h
    have key : ∀ o, onSome (step1 rec e H a.op) (fun r => runOps rec l (bind1 e a.dst r.1) r.2 (fun e H => some (e, H)) ()) () = some o → onSome (step1 rec' e H a.op) (fun r => runOps rec' l (bind1 e a.dst r.1) r.2 k ()) () = k o.1 o.2 := by
      intro o h
      unfold onSome at h
      split at h
      · rename_i v hv
        rw [step1_up hrec hv]
        exact ih _ _ _ h
      · cases h
    simp only [runOps] at h ⊢
    split at h
    · exact key _ h
    · rename_i t w _
      unfold onGuard at h ⊢
      split at h
      · unfold fork at h ⊢
        dsimp only at h ⊢
        rename_i b _
        cases hb : (b == w) with
        | true => rw [hb] at h; exact key _ h
        | false => rw [hb] at h; exact ih _ _ _ h
      · unfold fork at h ⊢
        exact ih _ _ _ h
      · cases h
theorem runDrawn_up {R : Type} (k : Env → Heap → Option R) : ∀ l N e H o, runDrawn rec l N e H (fun e H => some (e, H)) () = some o → runDrawn rec' l N e H k () = k o.1 o.2 := by
  intro l
  induction l with
  | nil => intro N e H o h; simp only [runDrawn, Option.some.injEq] at h ⊢; rw [← h]
  | cons a l ih =>
    intro N e H o h
    obtain ⟨a, d⟩ := a
    have key : ∀ o, onSome (step1d rec N d e H a.op) (fun r => runDrawn rec l (nextN d N r.2) (bind1 e a.dst r.1) r.2 (fun e H => some (e, H)) ()) () = some o →
        onSome (step1d rec' N d e H a.op) (fun r => runDrawn rec' l (nextN d N r.2) (bind1 e a.dst r.1) r.2 k ()) () = k o.1 o.2 := by
      intro o h
      unfold onSome at h
      split at h
      · rename_i v hv
        rw [step1d_up hrec hv]
        exact ih _ _ _ _ h
      · cases h
    have key2 : ∀ o, (bif skip1 d then runDrawn rec l (nextN d N H) (bind1 e a.dst .skp) H (fun e H => some (e, H)) () else none) = some o →
        (bif skip1 d then runDrawn rec' l (nextN d N H) (bind1 e a.dst .skp) H k () else none) = k o.1 o.2 := by
      intro o h
      cases hs : skip1 d with
      | true => rw [hs] at h; exact ih _ _ _ _ h
      | false => rw [hs] at h; cases h
    simp only [runDrawn] at h ⊢
    split at h
    · exact key _ h
    · rename_i t w _
      unfold onGuard at h ⊢
      split at h
      · unfold fork at h ⊢
        dsimp only at h ⊢
        rename_i b _
        cases hb : (b == w) with
        | true => rw [hb] at h; exact key _ h
        | false => rw [hb] at h; exact key2 _ h
      · unfold fork at h ⊢
        exact key2 _ h
      · cases h
theorem iter1_up {f g : Env × Heap → Option Out} (hfg : ∀ s o, f s = some o → g s = some o) : ∀ n s o, iter1 f n s = some o → iter1 g n s = some o := by
  intro n
  induction n with
  | zero => intro s o h; cases h
  | succ n ih =>
    intro s o h
    simp only [iter1] at h ⊢
    cases hf : f s with
    | none => rw [hf] at h; cases h
    | some r =>
      rw [hfg _ _ hf]
      rw [hf] at h
      obtain ⟨x, s'⟩ := r
      cases x with
      | normal => exact ih _ _ h
      | exit j => exact h
      | ret => exact h
theorem runB_up (fu : Nat) : ∀ (c : Code1) (e : Env) (H : Heap) (o : Out), runB rec fu c e H = some o → ∀ {R : Type} (k : SEx → Env → Heap → Option R), run rec' c e H k () = k o.1 o.2.1 o.2.2 := by
  intro c
  induction c with
  | skip => intro e H o h R k; simp only [runB, Option.some.injEq] at h; subst h; rfl
  | ops l =>
    intro e H o h R k
    simp only [runB, Option.map_eq_some_iff] at h
    obtain ⟨s, hs, rfl⟩ := h
    exact runOps_up hrec _ _ _ _ _ hs
  | drawn l =>
    intro e H o h R k
    simp only [runB, Option.map_eq_some_iff] at h
    obtain ⟨s, hs, rfl⟩ := h
    exact runDrawn_up hrec _ _ _ _ _ _ hs
  | perm l os =>
    intro e H o h R k
    simp only [runB, Option.map_eq_some_iff] at h
    obtain ⟨s, hs, rfl⟩ := h
    obtain ⟨h1, h2⟩ := sameB_up _ hs
    have hmap : os.map (runAll rec' l e H) = os.map (runAll rec l e H) := by
      apply List.map_congr_left
      intro x hx
      have h3 := h2 _ (List.mem_map.2 ⟨x, hx, rfl⟩)
      rw [h3]
      unfold runAll at h3 ⊢
      rw [runOps_L] at h3
      obtain ⟨s2, h4, h5⟩ := Option.bind_eq_some_iff.1 h3
      have h6 : runOps rec (pick1 l x) e H (fun e H => some (e, H)) () = some s2 := by rw [runOps_L, h4]; rfl
      rw [runOps_up hrec _ _ _ _ _ h6]
      exact h5
    simp only [run, hmap, h1, onSome]
  | seq a b iha ihb =>
    intro e H o h R k
    simp only [runB] at h
    simp only [run]
    split at h
    · rename_i e' H' ha
      rw [iha _ _ _ ha]
      exact ihb _ _ _ h k
    · rename_i hn
      rw [iha _ _ _ h]
      obtain ⟨x, e', H'⟩ := o
      cases x with
      | normal => exact absurd h (hn _ _)
      | exit j => rfl
      | ret => rfl
  | cond c a b iha ihb =>
    intro e H o h R k
    simp only [runB] at h
    simp only [run]
    split at h
    · rename_i t ht
      rw [ht]
      simp only [onBool, fork]
      cases t with
      | true => exact iha _ _ _ h k
      | false => exact ihb _ _ _ h k
    · cases h
  | block id a ih =>
    intro e H o h R k
    simp only [runB] at h
    simp only [run]
    split at h
    · rename_i j e' H' ha
      rw [ih _ _ _ ha]
      cases h
      dsimp only
      cases j == id <;> rfl
    · rename_i hn
      rw [ih _ _ _ h]
      obtain ⟨x, e', H'⟩ := o
      cases x with
      | normal => rfl
      | exit j => exact absurd h (hn _ _ _)
      | ret => rfl
  | freeze t =>
    intro e H o h R k
    simp only [runB, Option.map_eq_some_iff] at h
    obtain ⟨s, hs, rfl⟩ := h
    simp only [run, hs, onSome]
  | virt vs =>
    intro e H o h R k
    simp only [runB, Option.map_eq_some_iff] at h
    obtain ⟨s, hs, rfl⟩ := h
    simp only [run, hs, onSome]
  | amb d neg x c ih =>
    intro e H o h R k
    simp only [runB] at h
    split at h
    · rename_i hem
      simp only [run, hem, onAmb]
      exact ih _ _ _ h k
    · cases h
  | loop p a ih =>
    intro e H o h R k
    simp only [runB] at h
    obtain ⟨s, h1, h2⟩ := Option.bind_eq_some_iff.1 h
    obtain ⟨o', h3, rfl⟩ := Option.map_eq_some_iff.1 h2
    simp only [run, h1, onSome]
    have h4 := iter1_up hrec (g := fun s' => (head1 p s.2.bl.length { s.2 with esc := [] } s').bind fun s' => run rec' a s'.1 s'.2 (fun x e H => some (x, e, H)) ()) (fun s' o hs => by
      obtain ⟨q, g1, g2⟩ := Option.bind_eq_some_iff.1 hs
      exact Option.bind_eq_some_iff.2 ⟨q, g1, ih _ _ _ g2 _⟩) _ _ _ h3
    rw [loop1_of h4]
  | rangeF f ps x y ihx ihy =>
    intro e H o h R k
    simp only [runB] at h
    obtain ⟨s, h1, h2⟩ := Option.bind_eq_some_iff.1 h
    simp only [run, fcall_up hrec h1, onSome]
    split at h2
    · rename_i q st pend hg
      rw [hg]
      cases st with
      | busy => cases h2
      | ready => obtain ⟨o', h3, rfl⟩ := Option.map_eq_some_iff.1 h2; simp only [h3]
      | done => obtain ⟨o', h3, rfl⟩ := Option.map_eq_some_iff.1 h2; simp only [h3]
      | exhausted => obtain ⟨o', h3, rfl⟩ := Option.map_eq_some_iff.1 h2; simp only [h3]
    · cases h2
  | ext n =>
    intro e H o h R k
    simp only [runB, Option.map_eq_some_iff] at h
    obtain ⟨s, hs, rfl⟩ := h
    simp only [run, hs, onSome]
  | exit id => intro e H o h R k; simp only [runB, Option.some.injEq] at h; subst h; rfl
  | ret => intro e H o h R k; simp only [runB, Option.some.injEq] at h; subst h; rfl
end
theorem callB_up {T : FuncId → Option Fun1} (fu : Nat) : ∀ n f xs H r, callB T fu n f xs H = some r → call1 T n f xs H = some r := by
  intro n
  induction n with
  | zero => intro f xs H r h; simp [callB] at h
  | succ n ih =>
    intro f xs H r h
    cases f with
    | fn f =>
      simp only [callB] at h
      simp only [call1]
      split at h
      · cases h
      · rename_i F hF
        rw [hF]
        dsimp only
        cases hp : pure0 F xs with
        | true =>
          rw [hp] at h
          simp only [cond_true] at h ⊢
          obtain ⟨v, hv, rfl⟩ := Option.map_eq_some_iff.1 h
          obtain ⟨o, h1, h2⟩ := Option.bind_eq_some_iff.1 hv
          rw [runB_up ih fu _ _ _ _ h1]
          obtain ⟨x, e', H'⟩ := o
          cases x with
          | exit j => cases h2
          | normal => simp only at h2; simp only [h2, Option.map_some]
          | ret => simp only at h2; simp only [h2, Option.map_some]
        | false =>
          rw [hp] at h
          simp only [cond_false] at h ⊢
          obtain ⟨o, h1, h2⟩ := Option.bind_eq_some_iff.1 h
          rw [runB_up ih fu _ _ _ _ h1]
          obtain ⟨x, e', H'⟩ := o
          cases x with
          | exit j => cases h2
          | normal => exact h2
          | ret => exact h2
    | kfn f =>
      simp only [callB] at h
      simp only [call1]
      split at h
      · cases h
      · rename_i F hF
        rw [hF]
        dsimp only
        obtain ⟨o, h1, h2⟩ := Option.bind_eq_some_iff.1 h
        rw [runB_up ih fu _ _ _ _ h1]
        obtain ⟨x, e', H'⟩ := o
        cases x with
        | exit j => cases h2
        | normal => exact h2
        | ret => exact h2
    | yld b =>
      simp only [callB] at h
      simp only [call1]
      split at h
      · rename_i q pend hg
        rw [hg]
        dsimp only
        cases hp : q.ps.length == xs.length with
        | false => rw [hp] at h; cases h
        | true =>
          rw [hp] at h
          simp only [cond_true] at h ⊢
          obtain ⟨o, h1, h2⟩ := Option.bind_eq_some_iff.1 h
          rw [runB_up ih fu _ _ _ _ h1]
          obtain ⟨x, e', H'⟩ := o
          cases x with
          | exit j => cases h2
          | ret => cases h2
          | normal =>
            simp only at h2 ⊢
            obtain ⟨H1, h3, h4⟩ := Option.bind_eq_some_iff.1 h2
            rw [h3]
            simp only [Option.bind_some]
            obtain ⟨o, h5, h6⟩ := Option.bind_eq_some_iff.1 h4
            rw [runB_up ih fu _ _ _ _ h5]
            exact h6
      · cases h
end Go.Sh
namespace Go.Sh
set_option linter.unusedSectionVars false
set_option linter.unnecessarySimpa false
set_option linter.unusedSimpArgs false
set_option linter.unusedVariables false
def post {A : Type} (v : Option A) (Q : A → Prop) : Prop := ∃ o, v = some o ∧ Q o
theorem post_fork {A : Type} {b : Bool} {x y : Option A} {t : Tok (x, y)} {Q : A → Prop} (h1 : b = true → post x Q) (h2 : b = false → post y Q) : post (fork b x y t) Q := by
  cases b
  · exact h2 rfl
  · exact h1 rfl
@[go_sem] theorem post_some {A : Type} (o : A) (Q : A → Prop) : post (some o) Q = Q o := by
  apply propext
  exact ⟨fun ⟨o', h1, h2⟩ => by cases h1; exact h2, fun h => ⟨o, rfl, h⟩⟩
@[go_sem] theorem virt_nil (e H) : virt1 [] e H = some (e, H) := Eq.trans rfl rfl
def virt2 (r : List (Nat × Nat)) (t z : Nat) (e : Env) (H : Heap) : SV → Option (Env × Heap)
  | .lst _ [] true => virt1 r ((t, .slc H.bl.length 0 0 0) :: e) (hnew H (.arr 0 z [] false))
  | .ptr b _ _ _ => (virtB H b z (hget H b)).bind fun H => virt1 r e H
  | .lst _ (_ :: _) true => virt1 r e (hnew H (.arr 0 z [] false))
  | _ => none
@[go_sem] theorem virt_cons (t z r e H) : virt1 ((t, z) :: r) e H = virt2 r t z e H (get e t) := by
  simp only [virt1, virt2]
  generalize get e t = v
  cases v <;> rfl
@[go_sem] theorem virt2_nil (t z z' r e H) : virt2 r t z e H (.lst z' [] true) = virt1 r ((t, .slc H.bl.length 0 0 0) :: e) (hnew H (.arr 0 z [] false)) := Eq.trans rfl rfl
@[go_sem] theorem virt2_ptr (t z r e H b v i o) : virt2 r t z e H (.ptr b v i o) = onSome (virtB H b z (hget H b)) (fun H => virt1 r e H) () := by
  simp only [virt2]
  cases virtB H b z (hget H b) <;> rfl
@[go_sem] theorem virtB_box (H b z c d cs) : virtB H b z (some (.box (c :: d :: cs))) = virtC H b (z % 1000) (z / 1000) (c :: d :: cs) ((c :: d :: cs)[z / 1000]?) := by
  simp only [virtB]
@[go_sem] theorem virtC_nil (H b z j cs z') : virtC H b z j cs (some (.lst z' [] true)) = hset (hnew H (.arr 0 z [] false)) b (.box (cs.set j (.slc H.bl.length 0 0 0))) (H.bl.length + 1) := Eq.trans rfl rfl
@[go_sem] theorem head1_eq (p N H0 e H) : head1 p N H0 (e, H) = onSome (rehome p.virt (N - p.virt.length) N e H) (fun s => head0 p N H0 s) () := by
  show (rehome p.virt (N - p.virt.length) N e H).bind (head0 p N H0) = _
  cases rehome p.virt (N - p.virt.length) N e H <;> rfl
@[go_sem] theorem keepL_cons (i l) : keepL (i :: l) = (i == 999999) := Eq.trans rfl rfl
@[go_sem] theorem head0_eq (p N H0 e H) : head0 p N H0 (e, H) = bif keepL p.live then some (live1 p.live.tail e, H) else bif decide (SV.refs.refsL ((live1 p.live e).map (·.2)) ≤ N) then (trunc N H0 H).map (fun H => (live1 p.live e, H)) else none := Eq.trans rfl rfl
def rehome2 (r : List (Nat × Nat)) (t z h N : Nat) (e : Env) (H : Heap) : SV → Option (Env × Heap)
  | .slc b v 0 n => bif decide (N ≤ b) then (bif decide (h < N) then onSome (moveB H t h z b v n e (hget H h) (hget H b)) (fun s => rehome r (h + 1) N s.1 s.2) () else rehome r (h + 1) N e H) else rehome r (h + 1) N e H
  | _ => rehome r (h + 1) N e H
@[go_sem] theorem rehome_nil (h N e H) : rehome [] h N e H = some (e, H) := Eq.trans rfl rfl
@[go_sem] theorem rehome_cons (t z r h N e H) : rehome ((t, z) :: r) h N e H = rehome2 r t z h N e H (get e t) := by
  simp only [rehome, rehome2]
  generalize get e t = v
  cases v <;> try rfl
  rename_i b v off n
  cases off with
  | succ k => rfl
  | zero =>
    simp only
    cases decide (N ≤ b) <;> cases decide (h < N) <;> try rfl
    show Option.bind _ _ = onSome _ _ ()
    cases moveB H t h z b v n e (hget H h) (hget H b) <;> rfl
@[go_sem] theorem rehome2_slc (r t z h N e H b v n) : rehome2 r t z h N e H (.slc b v 0 n) = bif decide (N ≤ b) then (bif decide (h < N) then onSome (moveB H t h z b v n e (hget H h) (hget H b)) (fun s => rehome r (h + 1) N s.1 s.2) () else rehome r (h + 1) N e H) else rehome r (h + 1) N e H := Eq.trans rfl rfl
@[go_sem] theorem moveB_arr (H t h z b v n e z0 ex0 v' z' L ex) : moveB H t h z b v n e (some (.arr 0 z0 [] ex0)) (some (.arr v' z' L ex)) = bif z' == z && v == v' && n == L.length && decide (H.ro ≤ h) && !(h == b) && SV.refs.refsL L.flatten == 0 then
      some ((t, .slc h (v + 1) 0 n) :: e, { bl := (H.bl.set h (.arr (v + 1) z L ex)).set b .dead, esc := H.esc, ro := H.ro }) else none := Eq.trans rfl rfl
@[go_sem] theorem live_nil (e) : live1 [] e = [] := Eq.trans rfl rfl
@[go_sem] theorem live_cons (i l e) : live1 (i :: l) e = (i, get e i) :: live1 l e := Eq.trans rfl rfl
@[go_sem] theorem trunc_nil (N r bl r' es) : trunc N ⟨r, es, r'⟩ ⟨bl, [], 0⟩ = bif decide (N ≤ bl.length) then some ⟨bl.take N, es, r'⟩ else none := by
  unfold trunc
  simp
@[go_sem] theorem trunc_eq (N H0 H) : trunc N H0 H = bif decide (N ≤ H.bl.length) && H.esc.all (fun p => !(decide (p.1 < N) && decide (N < p.2))) then some { bl := H.bl.take N, esc := H0.esc ++ H.esc.filter (fun p => decide (p.1 < N)), ro := H0.ro } else none := Eq.trans rfl rfl
attribute [go_sem] List.all_nil List.all_cons List.filter_nil List.filter_cons_of_pos List.take_length
@[go_sem] theorem sa_lst (z L f ix) : siaddr (.lst z L f) ix = (sidx L.length ix).bind fun i => (L[i]?).map .eptr := Eq.trans rfl rfl
@[go_sem] theorem sa_slc (b v off n ix) : siaddr (.slc b v off n) ix = (sidx n ix).map fun i => .ptr b v (off + i) 0 := Eq.trans rfl rfl
@[go_sem] theorem si_int (n k i) : sidx n (.int k i) = bif decide (0 ≤ i) && decide (i < (n : Int)) then some i.toNat else none := Eq.trans rfl rfl
@[go_sem] theorem nn_dec (i : Nat) : decide ((0 : Int) ≤ (i : Int)) = true := by simp
@[go_sem] theorem lt_dec (i n : Nat) : decide ((i : Int) < (n : Int)) = decide (i < n) := by simp
theorem pure_any {T : FuncId → Option Fun1} {f : FuncId} {F : Fun1} {xs : List SV} {n : Nat} {H H0 H1 : Heap} {v : SV} (hT : T f = some F) (hp : pure0 F xs = true)
    (h : call1 T (n + 1) (.fn f) xs H0 = some (v, H1)) : call1 T (n + 1) (.fn f) xs H = some (v, H) := by
  simp only [call1, hT, hp, cond_true, Option.map_eq_some_iff] at h ⊢
  obtain ⟨a, h1, h2⟩ := h
  cases h2
  exact ⟨_, h1, rfl⟩
theorem call_in {T : FuncId → Option Fun1} {f : FuncId} {F : Fun1} {xs : List SV} {n : Nat} {H : Heap} {r : SV × Heap} (hT : T f = some F) (hp : pure0 F xs = false)
    (h : runK (call1 T n) (fin1 F.res (fun v H' => leave1 F.keep H v H')) F.body [] (env0 xs) ⟨H.bl, [], min H.ro H.bl.length⟩ () = some r) : call1 T (n + 1) (.fn f) xs H = some r := by
  have hk : ∀ k : SEx → Env → Heap → Option (SV × Heap), k = fin1 F.res (fun v H' => leave1 F.keep H v H') → run (call1 T n) F.body (env0 xs) ⟨H.bl, [], min H.ro H.bl.length⟩ k () = some r := by
    intro k hk
    rw [hk, run_runK]
    exact h
  simp only [call1, hT, hp, cond_false]
  exact hk _ (by funext x e H'; cases x <;> rfl)
theorem kcall_in {T : FuncId → Option Fun1} {f : FuncId} {F : Fun1} {xs : List SV} {n : Nat} {H : Heap} {r : SV × Heap} (hT : T f = some F)
    (h : runK (call1 T n) (fin1 F.res (fun v H' => leave1 true H v H')) F.body [] (env0 xs) ⟨H.bl, [], min H.ro H.bl.length⟩ () = some r) : call1 T (n + 1) (.kfn f) xs H = some r := by
  have hk : ∀ k : SEx → Env → Heap → Option (SV × Heap), k = fin1 F.res (fun v H' => leave1 true H v H') → run (call1 T n) F.body (env0 xs) ⟨H.bl, [], min H.ro H.bl.length⟩ k () = some r := by
    intro k hk
    rw [hk, run_runK]
    exact h
  simp only [call1, hT]
  exact hk _ (by funext x e H'; cases x <;> rfl)
@[go_sem] theorem leave_keep (H0 v H) : leave1 true H0 v H = some (v, ⟨H.bl, H0.esc ++ H.esc, H0.ro⟩) := Eq.trans rfl rfl
@[go_sem] theorem leave_not (H0 v H) : leave1 false H0 v H = (frz H0.bl.length H depth1 v).bind fun v => (trunc H0.bl.length H0 H).map fun H => (v, H) := Eq.trans rfl rfl
def yfin2 (b : Nat) (H : Heap) (x : SEx) (_ : Env) (H' : Heap) : Option (SV × Heap) := onSome (setLoop b (match x with | .normal => .ready | _ => .done) x H') (fun H' => (trunc H.bl.length H H').map fun H' => (.bool (match x with | .normal => true | _ => false), H')) ()
noncomputable def yfin1 (rec : Rec) (body : Code1) (b : Nat) (H : Heap) (x : SEx) (e : Env) (H' : Heap) : Option (SV × Heap) := match x with
  | .normal => onSome (beginLoop b H') (fun H' => runK rec (yfin2 b H) body [] e H' ()) ()
  | _ => none
@[go_sem] theorem yfin1_n (rec body b H e H') : yfin1 rec body b H .normal e H' = onSome (beginLoop b H') (fun H' => runK rec (yfin2 b H) body [] e H' ()) () := Eq.trans rfl rfl
@[go_sem] theorem yfin2_n (b H e H') : yfin2 b H .normal e H' = onSome (setLoop b .ready .normal H') (fun H' => (trunc H.bl.length H H').map fun H' => (.bool true, H')) () := Eq.trans rfl rfl
@[go_sem] theorem yfin2_x (b H j e H') : yfin2 b H (.exit j) e H' = onSome (setLoop b .done (.exit j) H') (fun H' => (trunc H.bl.length H H').map fun H' => (.bool false, H')) () := Eq.trans rfl rfl
def begin2 (b : Nat) (H : Heap) : Option SBlk → Option Heap
  | some (.loop q .ready pend) => hset H b (.loop q .busy pend) 0
  | _ => none
@[go_sem] theorem begin_eq (b H) : beginLoop b H = begin2 b H (hget H b) := by
  unfold beginLoop begin2
  cases hget H b with
  | none => rfl
  | some x => cases x <;> rfl
@[go_sem] theorem begin2_ready (b H q pend) : begin2 b H (some (.loop q .ready pend)) = hset H b (.loop q .busy pend) 0 := Eq.trans rfl rfl
def setLoop2 (b : Nat) (st : LoopState) (pend : SEx) (H : Heap) : Option SBlk → Option Heap
  | some (.loop q _ _) => hset H b (.loop q st pend) 0
  | _ => none
@[go_sem] theorem setLoop_eq (b st pend H) : setLoop b st pend H = setLoop2 b st pend H (hget H b) := by
  unfold setLoop setLoop2
  cases hget H b with
  | none => rfl
  | some x => cases x <;> rfl
@[go_sem] theorem setLoop2_loop (b st pend H q s p) : setLoop2 b st pend H (some (.loop q s p)) = hset H b (.loop q st pend) 0 := Eq.trans rfl rfl
theorem yld_in {T : FuncId → Option Fun1} {b n : Nat} {xs : List SV} {H : Heap} {q : LoopRec} {pend : SEx} {r : SV × Heap} (hg : hget H b = some (.loop q .ready pend)) (hl : (q.ps.length == xs.length) = true)
    (h : runK (call1 T n) (yfin1 (call1 T n) q.body b H) q.assign [] ((q.ps.zip xs).reverse ++ q.env) ⟨H.bl, [], min H.ro H.bl.length⟩ () = some r) : call1 T (n + 1) (.yld b) xs H = some r := by
  have hk2 : ∀ (k : SEx → Env → Heap → Option (SV × Heap)), k = yfin2 b H → ∀ e H', run (call1 T n) q.body e H' k () = runK (call1 T n) (yfin2 b H) q.body [] e H' () := by
    intro k hk e H'
    rw [hk, run_runK]
  have hk : ∀ k : SEx → Env → Heap → Option (SV × Heap), k = yfin1 (call1 T n) q.body b H → run (call1 T n) q.assign ((q.ps.zip xs).reverse ++ q.env) ⟨H.bl, [], min H.ro H.bl.length⟩ k () = some r := by
    intro k hk
    rw [hk, run_runK]
    exact h
  simp only [call1, hg, hl, cond_true]
  refine hk _ ?_
  funext x e H'
  cases x with
  | ret => rfl
  | exit j => rfl
  | normal =>
    simp only [yfin1]
    cases hb : beginLoop b H' with
    | none => rfl
    | some H1 =>
      simp only [Option.bind_some, onSome]
      exact hk2 _ (by funext x e H'; unfold yfin2; cases x <;> (simp only [onSome]; cases setLoop b _ _ H' <;> rfl)) _ _
def Round {R : Type} (p : LoopPol) (N : Nat) (H0 : Heap) (σ : Nat → Env × Heap) (P : Nat → Prop) (m i : Nat) (k : Out → Option R) (r : Option R) (o : Out) : Prop := match o with
  | (.normal, s') => i < m ∧ head1 p N H0 s' = some (σ (i + 1)) ∧ P (i + 1)
  | o => k o = r
@[go_sem] theorem round_n {R : Type} (p N H0 σ P m i) (k : Out → Option R) (r s) : Round p N H0 σ P m i k r (.normal, s) = (i < m ∧ head1 p N H0 s = some (σ (i + 1)) ∧ P (i + 1)) := Eq.trans rfl rfl
@[go_sem] theorem round_x {R : Type} (p N H0 σ P m i) (k : Out → Option R) (r j s) : Round p N H0 σ P m i k r (.exit j, s) = (k (.exit j, s) = r) := Eq.trans rfl rfl
@[go_sem] theorem round_r {R : Type} (p N H0 σ P m i) (k : Out → Option R) (r s) : Round p N H0 σ P m i k r (.ret, s) = (k (.ret, s) = r) := Eq.trans rfl rfl
theorem loop_rule {R : Type} {p : LoopPol} {N : Nat} {H0 : Heap} {rec : Rec} {a : Code1} {s0 : Env × Heap} {k : Out → Option R} {r : Option R}
    (σ : Nat → Env × Heap) (P : Nat → Prop) (m : Nat) (h0 : head1 p N H0 s0 = some (σ 0)) (hP : P 0)
    (h : ∀ i, i ≤ m → P i → post (runK rec (fun x e H => some (x, e, H)) a [] (σ i).1 (σ i).2 ()) (Round p N H0 σ P m i k r)) :
    onSome (loop1 (roundF p N H0 rec a) s0) k () = r := by
  have key : ∀ (j i : Nat) (s : Env × Heap), i + j = m → P i → head1 p N H0 s = some (σ i) → ∃ n o, iter1 (roundF p N H0 rec a) n s = some o ∧ k o = r := by
    intro j
    induction j with
    | zero =>
      intro i s hi hPi hs
      obtain ⟨o, h1, h2⟩ := h i (by omega) hPi
      have hf : roundF p N H0 rec a s = some o := by rw [roundF_eq, hs]; exact h1
      obtain ⟨x, s'⟩ := o
      cases x with
      | normal => exact absurd h2.1 (by omega)
      | exit id => exact ⟨1, _, by simp only [iter1, hf], h2⟩
      | ret => exact ⟨1, _, by simp only [iter1, hf], h2⟩
    | succ j ih =>
      intro i s hi hPi hs
      obtain ⟨o, h1, h2⟩ := h i (by omega) hPi
      have hf : roundF p N H0 rec a s = some o := by rw [roundF_eq, hs]; exact h1
      obtain ⟨x, s'⟩ := o
      cases x with
      | normal =>
        obtain ⟨n, o, h3, h4⟩ := ih (i + 1) s' (by omega) h2.2.2 h2.2.1
        exact ⟨n + 1, o, by simp only [iter1, hf]; exact h3, h4⟩
      | exit id => exact ⟨1, _, by simp only [iter1, hf], h2⟩
      | ret => exact ⟨1, _, by simp only [iter1, hf], h2⟩
  obtain ⟨n, o, h1, h2⟩ := key m 0 s0 (by omega) hP h0
  exact loop_in o (loop1_of h1) h2
def RoundP {R : Type} (p : LoopPol) (N : Nat) (H0 : Heap) (σ : Nat → Env × Heap) (P : Nat → Prop) (m i : Nat) (k : Out → Option R) (Q : R → Prop) (o : Out) : Prop := match o with
  | (.normal, s') => i < m ∧ head1 p N H0 s' = some (σ (i + 1)) ∧ P (i + 1)
  | o => post (k o) Q
@[go_sem] theorem roundP_n {R : Type} (p N H0 σ P m i) (k : Out → Option R) (Q s) : RoundP p N H0 σ P m i k Q (.normal, s) = (i < m ∧ head1 p N H0 s = some (σ (i + 1)) ∧ P (i + 1)) := Eq.trans rfl rfl
@[go_sem] theorem roundP_x {R : Type} (p N H0 σ P m i) (k : Out → Option R) (Q j s) : RoundP p N H0 σ P m i k Q (.exit j, s) = post (k (.exit j, s)) Q := Eq.trans rfl rfl
theorem loop_post {R : Type} {p : LoopPol} {N : Nat} {H0 : Heap} {rec : Rec} {a : Code1} {s0 : Env × Heap} {k : Out → Option R} {Q : R → Prop}
    (σ : Nat → Env × Heap) (P : Nat → Prop) (m : Nat) (h0 : head1 p N H0 s0 = some (σ 0)) (hP : P 0)
    (h : ∀ i, i ≤ m → P i → post (runK rec (fun x e H => some (x, e, H)) a [] (σ i).1 (σ i).2 ()) (RoundP p N H0 σ P m i k Q)) :
    post (onSome (loop1 (roundF p N H0 rec a) s0) k ()) Q := by
  have key : ∀ (j i : Nat) (s : Env × Heap), i + j = m → P i → head1 p N H0 s = some (σ i) → ∃ n o, iter1 (roundF p N H0 rec a) n s = some o ∧ post (k o) Q := by
    intro j
    induction j with
    | zero =>
      intro i s hi hPi hs
      obtain ⟨o, h1, h2⟩ := h i (by omega) hPi
      have hf : roundF p N H0 rec a s = some o := by rw [roundF_eq, hs]; exact h1
      obtain ⟨x, s'⟩ := o
      cases x with
      | normal => exact absurd h2.1 (by omega)
      | exit id => exact ⟨1, _, by simp only [iter1, hf], h2⟩
      | ret => exact ⟨1, _, by simp only [iter1, hf], h2⟩
    | succ j ih =>
      intro i s hi hPi hs
      obtain ⟨o, h1, h2⟩ := h i (by omega) hPi
      have hf : roundF p N H0 rec a s = some o := by rw [roundF_eq, hs]; exact h1
      obtain ⟨x, s'⟩ := o
      cases x with
      | normal =>
        obtain ⟨n, o, h3, h4⟩ := ih (i + 1) s' (by omega) h2.2.2 h2.2.1
        exact ⟨n + 1, o, by simp only [iter1, hf]; exact h3, h4⟩
      | exit id => exact ⟨1, _, by simp only [iter1, hf], h2⟩
      | ret => exact ⟨1, _, by simp only [iter1, hf], h2⟩
  obtain ⟨n, o, h1, h2⟩ := key m 0 s0 (by omega) hP h0
  rw [loop1_of h1]
  exact h2
def idx1 {A : Type} (p : A → Bool) : List A → Int
  | [] => -1
  | a :: l => if p a then 0 else if idx1 p l < 0 then -1 else idx1 p l + 1
theorem idx1_any {A : Type} (p : A → Bool) : ∀ l : List A, decide (0 ≤ idx1 p l) = l.any p
  | [] => rfl
  | a :: l => by
    have ih := idx1_any p l
    rw [Bool.eq_iff_iff, decide_eq_true_eq] at ih ⊢
    simp only [idx1, List.any_cons, Bool.or_eq_true, ← ih]
    by_cases hp : p a = true
    · simp [hp]
    · rw [if_neg hp]
      simp only [hp, Bool.false_eq_true, false_or]
      split <;> omega
theorem idx1_none {A : Type} {p : A → Bool} : ∀ {l : List A}, (∀ (j : Nat) a, l[j]? = some a → p a = false) → idx1 p l = -1
  | [], _ => rfl
  | a :: l, h => by
    have h0 := h 0 a rfl
    have ih := idx1_none (l := l) (fun j b hb => h (j + 1) b (by simpa using hb))
    simp [idx1, h0, ih]
theorem idx1_at {A : Type} {p : A → Bool} : ∀ {l : List A} {i : Nat} {a : A}, l[i]? = some a → p a = true → (∀ (j : Nat) b, j < i → l[j]? = some b → p b = false) → idx1 p l = i
  | [], i, a, h, _, _ => by simp at h
  | b :: l, 0, a, h, hp, _ => by simp at h; subst h; simp [idx1, hp]
  | b :: l, i + 1, a, h, hp, hn => by
    have h0 := hn 0 b (by omega) rfl
    have ih := idx1_at (l := l) (i := i) (by simpa using h) hp (fun j c hj hc => hn (j + 1) c (by omega) (by simpa using hc))
    simp only [idx1, h0, ih, Bool.false_eq_true, if_false]
    rw [if_neg (by omega)]
    omega
def apB (esz : Nat) (H : Heap) (b v off n : Nat) (X : List (List SV)) : Option SBlk → Option (SV × Heap)
  | some (.arr v' z L e) => bif v == v' && z == esz && decide (off + n ≤ L.length) then
      bif !e && off == 0 && n == L.length then (hset H b (.arr (v + 1) z (L ++ X) false) (SV.refs.refsL X.flatten)).map fun H => (.slc b (v + 1) off (n + X.length), H)
      else bif decide (off + n + X.length ≤ L.length) then (hset H b (.arr v z (L.take (off + n) ++ X ++ L.drop (off + n + X.length)) e) (SV.refs.refsL X.flatten)).map fun H => (.slc b v off (n + X.length), H)
      else bif e then some (.slc H.bl.length 0 0 (n + X.length), hnew H (.arr 0 z ((L.drop off).take n ++ X) false)) else none
    else none
  | _ => none
@[go_sem] theorem ap_slc (esz bytes H b v off n X) : sappend esz bytes H (.slc b v off n) X = bif decide ((n + X.length) * bytes ≤ mostLen) then apB esz H b v off n X (hget H b) else none := by
  simp only [sappend]
  generalize hget H b = q
  cases q with
  | none => rfl
  | some q => cases q <;> rfl
theorem apB_grow (esz : Nat) (H : Heap) (b v n : Nat) (X L : List (List SV)) (h : L.length = n) : apB esz H b v 0 n X (some (.arr v esz L false)) = (hset H b (.arr (v + 1) esz (L ++ X) false) (SV.refs.refsL X.flatten)).map fun H => (.slc b (v + 1) 0 (n + X.length), H) := by
  subst h
  simp [apB]
def fzB (N : Nat) (H : Heap) (d v off n : Nat) : Option SBlk → Option SV
  | some (.arr ver' z L ex) => bif v == ver' && decide (off + n ≤ L.length) then
      (allS (((L.drop off).take n).map fun cs => allS (cs.map (frz N H d)))).bind fun L' => bif SV.refs.refsL L'.flatten == 0 then some (.lst z L' (ex && off + n == L.length)) else none
    else none
  | _ => none
@[go_sem] theorem fz_slc (N H d b v off n) : frz N H (d + 1) (.slc b v off n) = bif decide (b < N) then some (.slc b v off n) else fzB N H d v off n (hget H b) := by
  simp only [frz]
  generalize hget H b = q
  cases q with
  | none => rfl
  | some q => cases q <;> rfl
theorem allS_id {A : Type} {f : A → Option A} : ∀ {l : List A}, (∀ a ∈ l, f a = some a) → allS (l.map f) = some l
  | [], _ => rfl
  | a :: l, h => by
    have ih := allS_id (f := f) (l := l) (fun b hb => h b (by simp [hb]))
    simp only [List.map_cons, h a (by simp), allS, ih, Option.map_some]
theorem refs_flat : ∀ {L : List (List SV)}, (∀ cs ∈ L, ∀ c ∈ cs, c.refs = 0) → SV.refs.refsL L.flatten = 0
  | [], _ => by simp [SV.refs.refsL]
  | cs :: L, h => by
    have ih := refs_flat (L := L) (fun b hb => h b (by simp [hb]))
    have key : ∀ (cs : List SV), (∀ c ∈ cs, c.refs = 0) → SV.refs.refsL (cs ++ L.flatten) = 0 := by
      intro cs
      induction cs with
      | nil => intro _; exact ih
      | cons c cs ih2 => intro hc; simp only [List.cons_append, SV.refs.refsL, hc c (by simp), ih2 (fun x hx => hc x (by simp [hx]))]; rfl
    exact key cs (h cs (by simp))
theorem fzB_whole (N : Nat) (H : Heap) (d v n z : Nat) (L : List (List SV)) (e : Bool) (h : L.length = n) (h1 : ∀ cs ∈ L, ∀ c ∈ cs, frz N H d c = some c) (h2 : ∀ cs ∈ L, ∀ c ∈ cs, c.refs = 0) :
    fzB N H d v 0 n (some (.arr v z L e)) = some (.lst z L e) := by
  subst h
  simp only [fzB, List.drop_zero, List.take_length, Nat.zero_add, beq_self_eq_true, Nat.le_refl, decide_true, Bool.and_self, cond_true, Bool.and_true]
  rw [allS_id (fun cs hcs => allS_id (fun c hc => h1 cs hcs c hc))]
  simp [refs_flat h2]
theorem fitsAll_cons {a : Bool × List DT} {as1 : List (Bool × List DT)} {xs : List SV} (h : FitsAll (a :: as1) xs) : ∃ x r, xs = x :: r ∧ FitsA a x ∧ FitsAll as1 r := by
  obtain ⟨h1, h2⟩ := h
  cases xs with
  | nil => simp at h1
  | cons x r => exact ⟨x, r, rfl, h2 0 a x rfl rfl, by simpa using h1, fun j a' x' ha hx => h2 (j + 1) a' x' ha hx⟩
theorem fitsAll_nil {xs : List SV} (h : FitsAll [] xs) : xs = [] := List.eq_nil_of_length_eq_zero h.1
theorem fitsA_agg {es : List DT} {x : SV} (h : FitsA (true, es) x) : ∃ cs, x = .agg cs ∧ FitsL es cs := h
theorem fitsA_one {e : DT} {x : SV} (h : FitsA (false, [e]) x) : Fits e x := by
  obtain ⟨e', h1, h2⟩ := h
  cases h1
  exact h2
theorem fitsL_i {k : IntKind} {es : List DT} {cs : List SV} (h : FitsL (.int k :: es) cs) : ∃ n r, cs = .int k n :: r ∧ (Lit.int k n).wf = true ∧ FitsL es r := by
  obtain ⟨c, r, rfl, h1, h2⟩ := fitsL_cons h
  obtain ⟨n, rfl, h3⟩ := fits_int h1
  exact ⟨n, r, rfl, h3, h2⟩
theorem fitsL_l {es' es : List DT} {cs : List SV} (h : FitsL (.lst es' :: es) cs) : ∃ L f r, cs = .lst es'.length L f :: r ∧ L.length ≤ maxLen ∧ (∀ q ∈ L, FitsL es' q) ∧ FitsL es r := by
  obtain ⟨c, r, rfl, h1, h2⟩ := fitsL_cons h
  obtain ⟨L, f, rfl, h3, h4⟩ := fits_lst h1
  exact ⟨L, f, r, rfl, h3, h4, h2⟩
attribute [go_sem] Int.cast_ofNat_Int Bool.true_xor Bool.false_xor Bool.xor_true Bool.xor_false
end Go.Sh
namespace Go.Sh
set_option linter.unusedSectionVars false
set_option linter.unnecessarySimpa false
set_option linter.unusedVariables false
set_option linter.unusedSimpArgs false
set_option maxRecDepth 100000
set_option maxHeartbeats 4000000
def stdIdxF (ag : Bool) (z : Nat) : Fun1 := ⟨[(.tmp 4)], (.seq (.ops [⟨(some 4), (.mov (.c (.int .i64 0))), none⟩]) (.seq (.seq (.ops [⟨(some 6), (.mov (.t 0)), none⟩, ⟨(some 7), (.len (.t 6)), none⟩, ⟨(some 8), (.mov (.c (.int .i64 0))), none⟩]) (.block 0 (.loop ⟨[0, 1, 7, 8], []⟩ (.seq (.ops [⟨(some 9), (.bin .lss (.t 8) (.t 7)), none⟩]) (.seq (.cond (.t 9) .skip (.exit 0)) (.seq (.block 1 (.seq (.ops [⟨(some 10), (.mov (.t 8)), none⟩, ⟨(some 5), (.mov (.t 10)), none⟩]) (.seq (.ops [⟨(some 11), (.mov (.t 1)), none⟩, ⟨(some 12), (.mov (.t 0)), none⟩, ⟨(some 13), (.mov (.t 5)), none⟩, ⟨(some 14), (.iaddrS z (.t 12) (.t 13)), none⟩, ⟨(some 15), (.load ag z (.t 14)), none⟩, ⟨(some 16), (.call (.t 11) [(.t 15)]), none⟩]) (.cond (.t 16) (.seq (.ops [⟨(some 17), (.mov (.t 5)), none⟩, ⟨(some 4), (.mov (.t 17)), none⟩]) .ret) .skip)))) (.ops [⟨(some 18), (.bin .add (.t 8) (.c (.int .i64 1))), none⟩, ⟨(some 8), (.mov (.t 18)), none⟩]))))))) (.seq (.ops [⟨(some 4), (.mov (.c (.int .i64 (-1)))), none⟩]) .ret))), false⟩
def stdCF (g : FuncId) : Fun1 := ⟨[(.tmp 4)], (.seq (.ops [⟨(some 4), (.mov (.c (.bool false))), none⟩]) (.seq (.ops [⟨(some 5), (.mov (.t 0)), none⟩, ⟨(some 6), (.mov (.t 1)), none⟩, ⟨(some 7), (.call (.c (.fn g [])) [(.t 5), (.t 6)]), none⟩, ⟨(some 8), (.bin .geq (.t 7) (.c (.int .i64 0))), none⟩, ⟨(some 4), (.mov (.t 8)), none⟩]) .ret)), false⟩
def stdIdx : Fun1 := ⟨[(.tmp 4)], (.seq (.ops [⟨(some 4), (.mov (.c (.int .i64 0))), none⟩]) (.seq (.seq (.ops [⟨(some 6), (.mov (.t 0)), none⟩, ⟨(some 7), (.len (.t 6)), none⟩, ⟨(some 8), (.mov (.c (.int .i64 0))), none⟩]) (.block 0 (.loop ⟨[0, 1, 7, 8], []⟩ (.seq (.ops [⟨(some 9), (.bin .lss (.t 8) (.t 7)), none⟩]) (.seq (.cond (.t 9) .skip (.exit 0)) (.seq (.block 1 (.seq (.ops [⟨(some 10), (.mov (.t 8)), none⟩, ⟨(some 5), (.mov (.t 10)), none⟩]) (.seq (.ops [⟨(some 11), (.mov (.t 1)), none⟩, ⟨(some 12), (.mov (.t 0)), none⟩, ⟨(some 13), (.mov (.t 5)), none⟩, ⟨(some 14), (.iaddrS 1 (.t 12) (.t 13)), none⟩, ⟨(some 15), (.load false 1 (.t 14)), none⟩, ⟨(some 16), (.bin .eql (.t 11) (.t 15)), none⟩]) (.cond (.t 16) (.seq (.ops [⟨(some 17), (.mov (.t 5)), none⟩, ⟨(some 4), (.mov (.t 17)), none⟩]) .ret) .skip)))) (.ops [⟨(some 18), (.bin .add (.t 8) (.c (.int .i64 1))), none⟩, ⟨(some 8), (.mov (.t 18)), none⟩]))))))) (.seq (.ops [⟨(some 4), (.mov (.c (.int .i64 (-1)))), none⟩]) .ret))), false⟩
def stdCon (g : FuncId) : Fun1 := ⟨[(.tmp 4)], (.seq (.ops [⟨(some 4), (.mov (.c (.bool false))), none⟩]) (.seq (.ops [⟨(some 5), (.mov (.t 0)), none⟩, ⟨(some 6), (.mov (.t 1)), none⟩, ⟨(some 7), (.call (.c (.fn g [])) [(.t 5), (.t 6)]), none⟩, ⟨(some 8), (.bin .geq (.t 7) (.c (.int .i64 0))), none⟩, ⟨(some 4), (.mov (.t 8)), none⟩]) .ret)), false⟩
def stdEq : Fun1 := ⟨[(.tmp 4)], (.seq (.ops [⟨(some 4), (.mov (.c (.bool false))), none⟩]) (.seq (.seq (.ops [⟨(some 6), (.mov (.t 0)), none⟩, ⟨(some 7), (.len (.t 6)), none⟩, ⟨(some 8), (.mov (.t 1)), none⟩, ⟨(some 9), (.len (.t 8)), none⟩, ⟨(some 10), (.bin .neq (.t 7) (.t 9)), none⟩]) (.cond (.t 10) (.seq (.ops [⟨(some 4), (.mov (.c (.bool false))), none⟩]) .ret) .skip)) (.seq (.seq (.ops [⟨(some 11), (.mov (.t 0)), none⟩, ⟨(some 12), (.len (.t 11)), none⟩, ⟨(some 13), (.mov (.c (.int .i64 0))), none⟩]) (.block 0 (.loop ⟨[0, 1, 12, 13], []⟩ (.seq (.ops [⟨(some 14), (.bin .lss (.t 13) (.t 12)), none⟩]) (.seq (.cond (.t 14) .skip (.exit 0)) (.seq (.block 1 (.seq (.ops [⟨(some 15), (.mov (.t 13)), none⟩, ⟨(some 5), (.mov (.t 15)), none⟩]) (.seq (.drawn [(⟨(some 16), (.mov (.t 0)), none⟩, ⟨.pure, [], 0, 0⟩), (⟨(some 17), (.mov (.t 5)), none⟩, ⟨.pure, [], 0, 0⟩), (⟨(some 18), (.iaddrS 1 (.t 16) (.t 17)), none⟩, ⟨.seg, [], 0, 0⟩), (⟨(some 19), (.load false 1 (.t 18)), none⟩, ⟨.seg, [], 0, 0⟩), (⟨(some 20), (.mov (.t 1)), none⟩, ⟨.pure, [], 0, 0⟩), (⟨(some 21), (.mov (.t 5)), none⟩, ⟨.pure, [], 0, 0⟩), (⟨(some 22), (.iaddrS 1 (.t 20) (.t 21)), none⟩, ⟨.seg, [], 0, 0⟩), (⟨(some 23), (.load false 1 (.t 22)), none⟩, ⟨.seg, [], 0, 0⟩), (⟨(some 24), (.bin .neq (.t 19) (.t 23)), none⟩, ⟨.pure, [], 0, 0⟩)]) (.cond (.t 24) (.seq (.ops [⟨(some 4), (.mov (.c (.bool false))), none⟩]) .ret) .skip)))) (.ops [⟨(some 25), (.bin .add (.t 13) (.c (.int .i64 1))), none⟩, ⟨(some 13), (.mov (.t 25)), none⟩]))))))) (.seq (.ops [⟨(some 4), (.mov (.c (.bool true))), none⟩]) .ret)))), false⟩
def iS (P : List Int) : List (List SV) := P.map fun p => [.int .i64 p]
@[go_sem] theorem iS_len {W : List Int} : (iS W).length = W.length := by simp [iS]
@[go_sem] theorem iS_get (W : List Int) (i : Nat) : (iS W)[i]? = (W[i]?).map (fun p => [.int .i64 p]) := by simp [iS]
theorem iS_refs (L : List Int) : ∀ cs ∈ iS L, ∀ c ∈ cs, c.refs = 0 := by
  intro cs hcs c hc
  simp only [iS, List.mem_map] at hcs
  obtain ⟨b, _, rfl⟩ := hcs
  simp only [List.mem_singleton] at hc
  subst hc
  simp [SV.refs]
theorem iS_frz (L : List Int) (M H d) : ∀ cs ∈ iS L, ∀ c ∈ cs, frz M H (d + 1) c = some c := by
  intro cs hcs c hc
  simp only [iS, List.mem_map] at hcs
  obtain ⟨b, _, rfl⟩ := hcs
  simp only [List.mem_singleton] at hc
  subst hc
  simp only [frz]
theorem iS_snoc (L : List Int) (x : Int) : iS L ++ [[.int .i64 x]] = iS (L ++ [x]) := by simp [iS]
theorem iS_take (L : List Int) (n : Nat) : (iS L).take n = iS (L.take n) := by simp [iS]
theorem getS {A : Type} {l : List A} {i : Nat} (h : i < l.length) : ∃ a, l[i]? = some a := ⟨l[i], List.getElem?_eq_getElem h⟩
theorem w64_suc {i n : Nat} (h : i < n) (hn : n ≤ maxLen) : w64 ((i : Int) + 1) = ((i + 1 : Nat) : Int) := by
  simp only [maxLen] at hn
  rw [w64_id (by omega) (by omega)]; omega
def el (ag : Bool) (r : List SV) : SV := bif ag then .agg r else r.headD .undef
theorem ld_el {ag : Bool} {z : Nat} {r : List SV} (h : r.length = z) (h1 : ag = false → z = 1) : part1 ag z r 0 = some (el ag r) := by
  cases ag with
  | true => subst h; simp [part1, el]
  | false =>
    have := h1 rfl
    subst this
    match r, h with
    | [x], _ => rfl
inductive LV (bl : List SBlk) (z : Nat) (L : List (List SV)) : SV → Prop
  | lst (z' : Nat) (f : Bool) (hz : z' = z ∨ L = []) : LV bl z L (.lst z' L f)
  | slc (b ver off : Nat) (L' : List (List SV)) (ex : Bool) (hb : bl[b]? = some (.arr ver z L' ex)) (hle : off + L.length ≤ L'.length) (hL : L = (L'.drop off).take L.length) : LV bl z L (.slc b ver off L.length)
section
variable {bl : List SBlk} {z : Nat} {L : List (List SV)} {v : SV}
theorem LV.cur (h : LV bl z L v) (es ro) : cur ⟨bl, es, ro⟩ v = true := by
  cases h with
  | lst => rfl
  | slc b ver off L' ex hb => simp [Sh.cur, hget, hb]
theorem LV.curZ (h : LV bl z L v) (es ro) : curZ ⟨bl, es, ro⟩ z v = true := by
  cases h with
  | lst z' f hz => rcases hz with rfl | rfl <;> simp [Sh.curZ]
  | slc b ver off L' ex hb => simp [Sh.curZ, hget, hb]
theorem LV.len (h : LV bl z L v) : lenL v = some L.length := by cases h <;> rfl
theorem LV.at (h : LV bl z L v) {i : Nat} {r : List SV} (hi : L[i]? = some r) : ∃ p, siaddr v (.int .i64 i) = some p ∧ ∀ ag n es ro, sload ag n ⟨bl, es, ro⟩ p = part1 ag n r 0 := by
  have hlt := (List.getElem?_eq_some_iff.1 hi).1
  cases h with
  | lst z' f hz => exact ⟨.eptr r, by simp [siaddr, sidx, hlt]; exact (List.getElem?_eq_some_iff.1 hi).2, fun ag n es ro => by simp [sload]⟩
  | slc b ver off L' ex hb hle hL =>
    refine ⟨.ptr b ver (off + i) 0, by simp [siaddr, sidx, hlt], fun ag n es ro => ?_⟩
    have : L'[off + i]? = some r := by
      rw [hL, List.getElem?_take, if_pos hlt, List.getElem?_drop] at hi
      exact hi
    simp [sload, hget, hb, this]
theorem LV.refs (h : LV bl z L v) : v.refs ≤ bl.length := by
  cases h with
  | lst z' f hz => simp [SV.refs]
  | slc b ver off L' ex hb hle hL =>
    have := (List.getElem?_eq_some_iff.1 hb).1
    simp [SV.refs]; omega
theorem LV.nil (h : LV bl z L v) (h0 : v.refs = 0) : LV [] z L v := by
  cases h with
  | lst z' f hz => exact .lst z' f hz
  | slc b ver off L' ex hb hle hL => simp [SV.refs] at h0
end
section
variable {T : FuncId → Option Fun1} {f : FuncId} {F : Fun1} {xs : List SV} {n : Nat} {H : Heap}
theorem call_ro {v : SV} (hT : T f = some F) (hk : F.keep = false) (hs : scal1 v = true)
    (h : ∀ (R : Type) (k : SV → Heap → Option R) (bl : List SBlk) (ro : Nat), (bl = [] ∧ SV.refs.refsL xs = 0 ∨ bl = H.bl) → runK (call1 T n) (fin1 F.res k) F.body [] (env0 xs) ⟨bl, [], ro⟩ () = k v ⟨bl, [], ro⟩) :
    call1 T (n + 1) (.fn f) xs H = some (v, H) := by
  have hfz : ∀ N H', frz N H' depth1 v = some v := fun N H' => by
    cases v <;> simp only [scal1, Bool.false_eq_true] at hs <;> simp [depth1, frz, SV.refs]
  cases hp : pure0 F xs with
  | true =>
    refine call_pure hT hp ?_
    have hr : SV.refs.refsL xs = 0 := by
      unfold pure0 at hp
      simp only [Bool.and_eq_true, beq_iff_eq] at hp
      exact hp.1
    exact (h SV (fun v H' => frz 0 H' depth1 v) [] 0 (.inl ⟨rfl, hr⟩)).trans (hfz _ _)
  | false =>
    refine call_in hT hp ?_
    refine (h _ (fun v H' => leave1 F.keep H v H') H.bl _ (.inr rfl)).trans ?_
    rw [hk, leave_not, hfz]
    simp only [Option.bind_some, trunc_nil, Nat.le_refl, decide_true, cond_true, Option.map_some, List.take_length]
    obtain ⟨bl, es, ro⟩ := H
    simp [Sh.trunc]
theorem stdIdxF_ok {ag : Bool} {z id : Nat} {caps : List SV} {v : SV} {L : List (List SV)} {p : List SV → Bool} (hT : T f = some (stdIdxF ag z)) (hv : LV H.bl z L v) (hz : ∀ r ∈ L, r.length = z) (h1 : ag = false → z = 1) (hm : L.length ≤ maxLen)
    (hc : ∀ r ∈ L, ∀ bl ro, (bl = [] ∧ v.refs = 0 ∧ SV.refs.refsL caps = 0 ∨ bl = H.bl) → call1 T n (.fn id) (el ag r :: caps) ⟨bl, [], ro⟩ = some (.bool (p r), ⟨bl, [], ro⟩))
    (hcr : SV.refs.refsL caps ≤ H.bl.length) : call1 T (n + 1) (.fn f) [v, .fn id caps] H = some (.int .i64 (idx1 p L), H) := by
  refine call_ro hT rfl rfl (fun R k bl ro hbl => ?_)
  have hbl' : bl = [] ∧ v.refs = 0 ∧ SV.refs.refsL caps = 0 ∨ bl = H.bl := by
    rcases hbl with ⟨h1, h2⟩ | h
    · simp only [SV.refs.refsL, SV.refs] at h2
      exact .inl ⟨h1, by omega, by omega⟩
    · exact .inr h
  have hv' : LV bl z L v := by
    rcases hbl' with ⟨h1, h2, _⟩ | h
    · rw [h1]; exact hv.nil h2
    · rw [h]; exact hv
  have hd : decide (max v.refs (SV.refs.refsL caps) ≤ bl.length) = true := by
    have := hv'.refs
    rw [decide_eq_true_eq]
    rcases hbl' with ⟨h1, h2, h3⟩ | h
    · omega
    · rw [h] at this ⊢; omega
  have q1 := hv'.cur [] ro
  have q2 := hv'.curZ [] ro
  have q3 := hv'.len
  simp only [stdIdxF, go_sem, Int.reduceToNat, Nat.reduceAdd, Nat.reduceBEq, Nat.reduceLeDiff, Nat.reduceLT, Nat.reduceMul, Nat.reduceSub, Int.reduceEq, Int.reduceLT, Int.reduceLE, Int.reduceNeg, q1, q3]
  refine loop_rule (fun i => ([(0, v), (1, .fn id caps), (7, .int .i64 L.length), (8, .int .i64 i)], ⟨bl, [], ro⟩)) (fun i => ∀ (j : Nat) r, j < i → L[j]? = some r → p r = false) L.length ?_ (fun j r h => by omega) ?_
  · simp only [go_sem, Int.reduceToNat, Nat.reduceAdd, Nat.reduceBEq, Nat.reduceLeDiff, Nat.reduceLT, Nat.reduceMul, Nat.reduceSub, Int.reduceEq, Int.reduceLT, Int.reduceLE, Int.reduceNeg, Nat.max_zero, hd]
  · intro i hi hP
    rcases Nat.lt_or_ge i L.length with hlt | hge
    · obtain ⟨r, hr'⟩ := getS hlt
      have hmem := List.mem_of_getElem? hr'
      obtain ⟨p', a1, a2⟩ := hv'.at hr'
      have hw := w64_suc hlt hm
      have hcr := hc r hmem bl ro hbl'
      have hld := ld_el (hz r hmem) h1
      cases hp : p r with
      | true =>
        have hx := idx1_at hr' hp hP
        simp only [go_sem, Int.reduceToNat, Nat.reduceAdd, Nat.reduceBEq, Nat.reduceLeDiff, Nat.reduceLT, Nat.reduceMul, Nat.reduceSub, Int.reduceEq, Int.reduceLT, Int.reduceLE, Int.reduceNeg, hlt, q2, a1, a2, hld, hcr, hp, hx]
      | false =>
        simp only [go_sem, Int.reduceToNat, Nat.reduceAdd, Nat.reduceBEq, Nat.reduceLeDiff, Nat.reduceLT, Nat.reduceMul, Nat.reduceSub, Int.reduceEq, Int.reduceLT, Int.reduceLE, Int.reduceNeg, hlt, q2, a1, a2, hld, hcr, hp, hw]
        refine ⟨trivial, ?_, fun j r' hj hr2 => ?_⟩
        · simp only [Nat.max_zero, hd, go_sem, Int.reduceToNat, Nat.reduceAdd, Nat.reduceBEq, Nat.reduceLeDiff, Nat.reduceLT, Nat.reduceMul, Nat.reduceSub, Int.reduceEq, Int.reduceLT, Int.reduceLE, Int.reduceNeg]
        · rcases Nat.lt_or_ge j i with hlt2 | hge2
          · exact hP j r' hlt2 hr2
          · have : j = i := by omega
            subst this
            rw [hr'] at hr2
            cases hr2
            exact hp
    · have hlt : ¬ i < L.length := by omega
      have hx : idx1 p L = -1 := idx1_none (fun j a hj => hP j a (by have := (List.getElem?_eq_some_iff.1 hj).1; omega) hj)
      simp only [go_sem, Int.reduceToNat, Nat.reduceAdd, Nat.reduceBEq, Nat.reduceLeDiff, Nat.reduceLT, Nat.reduceMul, Nat.reduceSub, Int.reduceEq, Int.reduceLT, Int.reduceLE, Int.reduceNeg, hlt, hx]
theorem stdCF_ok {ag : Bool} {z id g : Nat} {caps : List SV} {v : SV} {L : List (List SV)} {p : List SV → Bool} (hT : T f = some (stdCF g)) (hTg : T g = some (stdIdxF ag z)) (hv : LV H.bl z L v) (hz : ∀ r ∈ L, r.length = z) (h1 : ag = false → z = 1) (hm : L.length ≤ maxLen)
    (hc : ∀ r ∈ L, ∀ bl ro, (bl = [] ∧ v.refs = 0 ∧ SV.refs.refsL caps = 0 ∨ bl = H.bl) → call1 T n (.fn id) (el ag r :: caps) ⟨bl, [], ro⟩ = some (.bool (p r), ⟨bl, [], ro⟩))
    (hcr : SV.refs.refsL caps ≤ H.bl.length) : call1 T (n + 2) (.fn f) [v, .fn id caps] H = some (.bool (L.any p), H) := by
  refine call_ro hT rfl rfl (fun R k bl ro hbl => ?_)
  have hbl' : bl = [] ∧ v.refs = 0 ∧ SV.refs.refsL caps = 0 ∨ bl = H.bl := by
    rcases hbl with ⟨h1, h2⟩ | h
    · simp only [SV.refs.refsL, SV.refs] at h2
      exact .inl ⟨h1, by omega, by omega⟩
    · exact .inr h
  have hv' : LV bl z L v := by
    rcases hbl' with ⟨h1, h2, _⟩ | h
    · rw [h1]; exact hv.nil h2
    · rw [h]; exact hv
  have hi := stdIdxF_ok (H := ⟨bl, [], ro⟩) hTg hv' hz h1 hm (fun r hr bl2 ro2 h => hc r hr bl2 ro2 (by
    rcases h with h | h
    · exact .inl h
    · rw [show bl2 = bl from h]; exact hbl')) (by
    rcases hbl' with ⟨h1, h2, h3⟩ | h
    · simp [h3]
    · show SV.refs.refsL caps ≤ bl.length; rw [h]; exact hcr)
  simp only [stdCF, go_sem, Int.reduceToNat, Nat.reduceAdd, Nat.reduceBEq, Nat.reduceLeDiff, Nat.reduceLT, Nat.reduceMul, Nat.reduceSub, Int.reduceEq, Int.reduceLT, Int.reduceLE, Int.reduceNeg, hi, idx1_any]
theorem stdIdx_ok {v : SV} {M : List Int} {x : Int} (hT : T f = some stdIdx) (hv : LV H.bl 1 (iS M) v) (hm : M.length ≤ maxLen) : call1 T (n + 1) (.fn f) [v, .int .i64 x] H = some (.int .i64 (idx1 (fun y => decide (x = y)) M), H) := by
  refine call_ro hT rfl rfl (fun R k bl ro hbl => ?_)
  have hv' : LV bl 1 (iS M) v := by
    rcases hbl with ⟨h1, h2⟩ | h
    · rw [h1]; exact hv.nil (by simp only [SV.refs.refsL, SV.refs] at h2; omega)
    · rw [h]; exact hv
  have hd : decide (v.refs ≤ bl.length) = true := by rw [decide_eq_true_eq]; exact hv'.refs
  have q1 := hv'.cur [] ro
  have q2 := hv'.curZ [] ro
  have q3 := hv'.len
  rw [iS_len] at q3
  simp only [stdIdx, go_sem, Int.reduceToNat, Nat.reduceAdd, Nat.reduceBEq, Nat.reduceLeDiff, Nat.reduceLT, Nat.reduceMul, Nat.reduceSub, Int.reduceEq, Int.reduceLT, Int.reduceLE, Int.reduceNeg, q1, q3]
  refine loop_rule (fun i => ([(0, v), (1, .int .i64 x), (7, .int .i64 M.length), (8, .int .i64 i)], ⟨bl, [], ro⟩)) (fun i => ∀ (j : Nat) y, j < i → M[j]? = some y → decide (x = y) = false) M.length ?_ (fun j r h => by omega) ?_
  · simp only [go_sem, Int.reduceToNat, Nat.reduceAdd, Nat.reduceBEq, Nat.reduceLeDiff, Nat.reduceLT, Nat.reduceMul, Nat.reduceSub, Int.reduceEq, Int.reduceLT, Int.reduceLE, Int.reduceNeg, Nat.max_zero, hd]
  · intro i hi hP
    rcases Nat.lt_or_ge i M.length with hlt | hge
    · obtain ⟨y, hy⟩ := getS hlt
      obtain ⟨p', a1, a2⟩ := hv'.at (i := i) (by rw [iS_get, hy]; rfl)
      have hw := w64_suc hlt hm
      have hld : part1 false 1 [SV.int .i64 y] 0 = some (.int .i64 y) := rfl
      cases hp : decide (x = y) with
      | true =>
        have hx := idx1_at hy hp hP
        simp only [go_sem, Int.reduceToNat, Nat.reduceAdd, Nat.reduceBEq, Nat.reduceLeDiff, Nat.reduceLT, Nat.reduceMul, Nat.reduceSub, Int.reduceEq, Int.reduceLT, Int.reduceLE, Int.reduceNeg, hlt, q2, a1, a2, hld, hp, hx]
      | false =>
        simp only [go_sem, Int.reduceToNat, Nat.reduceAdd, Nat.reduceBEq, Nat.reduceLeDiff, Nat.reduceLT, Nat.reduceMul, Nat.reduceSub, Int.reduceEq, Int.reduceLT, Int.reduceLE, Int.reduceNeg, hlt, q2, a1, a2, hld, hp, hw]
        refine ⟨trivial, ?_, fun j r' hj hr2 => ?_⟩
        · simp only [Nat.max_zero, hd, go_sem, Int.reduceToNat, Nat.reduceAdd, Nat.reduceBEq, Nat.reduceLeDiff, Nat.reduceLT, Nat.reduceMul, Nat.reduceSub, Int.reduceEq, Int.reduceLT, Int.reduceLE, Int.reduceNeg]
        · rcases Nat.lt_or_ge j i with hlt2 | hge2
          · exact hP j r' hlt2 hr2
          · have : j = i := by omega
            subst this
            rw [hy] at hr2
            cases hr2
            exact hp
    · have hlt : ¬ i < M.length := by omega
      have hx : idx1 (fun y => decide (x = y)) M = -1 := idx1_none (fun j a hj => hP j a (by have := (List.getElem?_eq_some_iff.1 hj).1; omega) hj)
      simp only [go_sem, Int.reduceToNat, Nat.reduceAdd, Nat.reduceBEq, Nat.reduceLeDiff, Nat.reduceLT, Nat.reduceMul, Nat.reduceSub, Int.reduceEq, Int.reduceLT, Int.reduceLE, Int.reduceNeg, hlt, hx]
theorem any_mem (x : Int) (M : List Int) : (M.any fun y => decide (x = y)) = decide (x ∈ M) := by
  rw [Bool.eq_iff_iff]; simp
theorem stdCon_ok {v : SV} {M : List Int} {x : Int} {g : Nat} (hT : T f = some (stdCon g)) (hTg : T g = some stdIdx) (hv : LV H.bl 1 (iS M) v) (hm : M.length ≤ maxLen) : call1 T (n + 2) (.fn f) [v, .int .i64 x] H = some (.bool (decide (x ∈ M)), H) := by
  refine call_ro hT rfl rfl (fun R k bl ro hbl => ?_)
  have hv' : LV bl 1 (iS M) v := by
    rcases hbl with ⟨h1, h2⟩ | h
    · rw [h1]; exact hv.nil (by simp only [SV.refs.refsL, SV.refs] at h2; omega)
    · rw [h]; exact hv
  have hi := stdIdx_ok (n := n) (H := ⟨bl, [], ro⟩) (x := x) hTg hv' hm
  simp only [stdCon, go_sem, Int.reduceToNat, Nat.reduceAdd, Nat.reduceBEq, Nat.reduceLeDiff, Nat.reduceLT, Nat.reduceMul, Nat.reduceSub, Int.reduceEq, Int.reduceLT, Int.reduceLE, Int.reduceNeg, hi, idx1_any, any_mem]
theorem stdEq_ok {v w : SV} {L M : List Int} (hT : T f = some stdEq) (hv : LV H.bl 1 (iS L) v) (hw : LV H.bl 1 (iS M) w) (hL : L.length ≤ maxLen) : call1 T (n + 1) (.fn f) [v, w] H = some (.bool (decide (L = M)), H) := by
  refine call_ro hT rfl rfl (fun R k bl ro hbl => ?_)
  have hv' : LV bl 1 (iS L) v := by
    rcases hbl with ⟨h1, h2⟩ | h
    · rw [h1]; exact hv.nil (by simp only [SV.refs.refsL, SV.refs] at h2; omega)
    · rw [h]; exact hv
  have hw' : LV bl 1 (iS M) w := by
    rcases hbl with ⟨h1, h2⟩ | h
    · rw [h1]; exact hw.nil (by simp only [SV.refs.refsL, SV.refs] at h2; omega)
    · rw [h]; exact hw
  have hd : decide (max v.refs w.refs ≤ bl.length) = true := by rw [decide_eq_true_eq]; have := hv'.refs; have := hw'.refs; omega
  have q1 := hv'.cur [] ro
  have q2 := hv'.curZ [] ro
  have q3 := hv'.len
  have r1 := hw'.cur [] ro
  have r2 := hw'.curZ [] ro
  have r3 := hw'.len
  rw [iS_len] at q3 r3
  simp only [stdEq, go_sem, Int.reduceToNat, Nat.reduceAdd, Nat.reduceBEq, Nat.reduceLeDiff, Nat.reduceLT, Nat.reduceMul, Nat.reduceSub, Int.reduceEq, Int.reduceLT, Int.reduceLE, Int.reduceNeg, q1, q3, r1, r3]
  with_reducible refine fork_split (fun hne => ?_) (fun hne => ?_)
  rotate_left
  · have : L ≠ M := fun h => by subst h; simp at hne
    simp only [go_sem, Int.reduceToNat, Nat.reduceAdd, Nat.reduceBEq, Nat.reduceLeDiff, Nat.reduceLT, Nat.reduceMul, Nat.reduceSub, Int.reduceEq, Int.reduceLT, Int.reduceLE, Int.reduceNeg, decide_eq_false this]
  · have hlen : L.length = M.length := by simp only [decide_eq_true_eq] at hne; omega
    simp only [go_sem, Int.reduceToNat, Nat.reduceAdd, Nat.reduceBEq, Nat.reduceLeDiff, Nat.reduceLT, Nat.reduceMul, Nat.reduceSub, Int.reduceEq, Int.reduceLT, Int.reduceLE, Int.reduceNeg, q1, q3]
    refine loop_rule (fun i => ([(0, v), (1, w), (12, .int .i64 L.length), (13, .int .i64 i)], ⟨bl, [], ro⟩)) (fun i => ∀ j : Nat, j < i → L[j]? = M[j]?) L.length ?_ (fun j h => by omega) ?_
    · simp only [go_sem, Int.reduceToNat, Nat.reduceAdd, Nat.reduceBEq, Nat.reduceLeDiff, Nat.reduceLT, Nat.reduceMul, Nat.reduceSub, Int.reduceEq, Int.reduceLT, Int.reduceLE, Int.reduceNeg, Nat.max_zero, hd]
    · intro i hi hI
      rcases Nat.lt_or_ge i L.length with hlt | hge
      · obtain ⟨a, ha⟩ := getS hlt
        have hlt2 : i < M.length := by omega
        obtain ⟨b, hb⟩ := getS hlt2
        obtain ⟨p', a1, a2⟩ := hv'.at (i := i) (by rw [iS_get, ha]; rfl)
        obtain ⟨p2, b1, b2⟩ := hw'.at (i := i) (by rw [iS_get, hb]; rfl)
        have l1 : part1 false 1 [SV.int .i64 a] 0 = some (.int .i64 a) := rfl
        have l2 : part1 false 1 [SV.int .i64 b] 0 = some (.int .i64 b) := rfl
        have hs := w64_suc hlt hL
        simp only [go_sem, Int.reduceToNat, Nat.reduceAdd, Nat.reduceBEq, Nat.reduceLeDiff, Nat.reduceLT, Nat.reduceMul, Nat.reduceSub, Int.reduceEq, Int.reduceLT, Int.reduceLE, Int.reduceNeg, hlt, hlt2, q2, r2, a1, a2, b1, b2, l1, l2]
        with_reducible refine post_fork (fun hab => ?_) (fun hab => ?_)
        rotate_left
        · have hab : a ≠ b := by simpa using hab
          have : L ≠ M := fun h => by subst h; rw [ha] at hb; cases hb; exact hab rfl
          simp only [go_sem, Int.reduceToNat, Nat.reduceAdd, Nat.reduceBEq, Nat.reduceLeDiff, Nat.reduceLT, Nat.reduceMul, Nat.reduceSub, Int.reduceEq, Int.reduceLT, Int.reduceLE, Int.reduceNeg, decide_eq_false this]
        · have hab : a = b := by simpa using hab
          simp only [go_sem, Int.reduceToNat, Nat.reduceAdd, Nat.reduceBEq, Nat.reduceLeDiff, Nat.reduceLT, Nat.reduceMul, Nat.reduceSub, Int.reduceEq, Int.reduceLT, Int.reduceLE, Int.reduceNeg, hlt, hs]
          refine ⟨trivial, ?_, fun j hj => ?_⟩
          · simp only [Nat.max_zero, hd, go_sem, Int.reduceToNat, Nat.reduceAdd, Nat.reduceBEq, Nat.reduceLeDiff, Nat.reduceLT, Nat.reduceMul, Nat.reduceSub, Int.reduceEq, Int.reduceLT, Int.reduceLE, Int.reduceNeg]
          · rcases Nat.lt_or_ge j i with h3 | h3
            · exact hI j h3
            · have : j = i := by omega
              subst this
              rw [ha, hb, hab]
      · have hlt : ¬ i < L.length := by omega
        have : L = M := List.ext_getElem? (fun j => by
          rcases Nat.lt_or_ge j L.length with h3 | h3
          · exact hI j (by omega)
          · rw [List.getElem?_eq_none h3, List.getElem?_eq_none (by omega)])
        simp only [go_sem, Int.reduceToNat, Nat.reduceAdd, Nat.reduceBEq, Nat.reduceLeDiff, Nat.reduceLT, Nat.reduceMul, Nat.reduceSub, Int.reduceEq, Int.reduceLT, Int.reduceLE, Int.reduceNeg, hlt, decide_eq_true this]
def Still (L : List (List SV)) : Prop := ∀ cs ∈ L, ∀ c ∈ cs, c.refs = 0 ∧ ∀ N H d, frz N H (d + 1) c = some c
theorem Still.ints (M : List Int) : Still (iS M) := fun cs hcs c hc => ⟨iS_refs M cs hcs c hc, fun N H d => iS_frz M N H d cs hcs c hc⟩
theorem Still.zero {L : List (List SV)} (h : Still L) : SV.refs.refsL L.flatten = 0 := refs_flat (fun cs hcs c hc => (h cs hcs c hc).1)
theorem Still.fz {L : List (List SV)} (h : Still L) (N H d v n z e) (hn : L.length = n) : fzB N H (d + 1) v 0 n (some (.arr v z L e)) = some (.lst z L e) :=
  fzB_whole N H (d + 1) v n z L e hn (fun cs hcs c hc => (h cs hcs c hc).2 N H d) (fun cs hcs c hc => (h cs hcs c hc).1)
theorem Still.take {L : List (List SV)} (h : Still L) (N H d v n z) (hn : n ≤ L.length) : fzB N H (d + 1) v 0 n (some (.arr v z L false)) = some (.lst z (L.take n) false) := by
  have hs : Still (L.take n) := fun cs hcs c hc => h cs (List.mem_of_mem_take hcs) c hc
  simp only [fzB, List.drop_zero, Nat.zero_add, beq_self_eq_true, Bool.true_and, hn, decide_true, cond_true, Bool.false_and]
  rw [allS_id (fun cs hcs => allS_id (fun c hc => (hs cs hcs c hc).2 N H d))]
  simp [hs.zero]
end
end Go.Sh
namespace Go.Sh
abbrev OO (d : Nat) (o : Op1) : Oper1 := ⟨some d, o, none⟩
abbrev OT (d : Nat) (o : Op1) (g : Nat) : Oper1 := ⟨some d, o, some (g, true)⟩
abbrev OU (d : Nat) (o : Op1) (g : Nat) : Oper1 := ⟨some d, o, some (g, false)⟩
abbrev PT (d x g : Nat) : Oper1 := ⟨some d, .mov (.t x), some (g, true)⟩
abbrev PU (d x g : Nat) : Oper1 := ⟨some d, .mov (.t x), some (g, false)⟩
abbrev IC (n : Int) : Opd := .c (.int .i64 n)
abbrev OM (d x : Nat) : Oper1 := ⟨some d, .mov (.t x), none⟩
abbrev OK (d : Nat) (n : Int) : Oper1 := ⟨some d, .mov (.c (.int .i64 n)), none⟩
abbrev OZ (d : Nat) : Oper1 := ⟨some d, .mov (.c (.lst 0 [] true)), none⟩
abbrev OQ (d : Nat) (b : Bool) : Oper1 := ⟨some d, .mov (.c (.bool b)), none⟩
abbrev OX (d x i : Nat) : Oper1 := ⟨some d, .extract (.t x) i, none⟩
abbrev OF (d n x : Nat) : Oper1 := ⟨some d, .faddr n (.t x), none⟩
abbrev OL (d x : Nat) : Oper1 := ⟨some d, .load false 1 (.t x), none⟩
abbrev OA (d n x : Nat) : Oper1 := ⟨some d, .load true n (.t x), none⟩
abbrev ON (d x : Nat) : Oper1 := ⟨some d, .nilChk (.t x), none⟩
abbrev OE (d x : Nat) : Oper1 := ⟨some d, .len (.t x), none⟩
abbrev OG (d x : Nat) : Oper1 := ⟨some d, .box (.t x), none⟩
abbrev OH (d x : Nat) : Oper1 := ⟨some d, .notB (.t x), none⟩
abbrev OI (d z x i : Nat) : Oper1 := ⟨some d, .iaddrS z (.t x) (.t i), none⟩
abbrev OB (d : Nat) (o : BinOp) (x y : Nat) : Oper1 := ⟨some d, .bin o (.t x) (.t y), none⟩
abbrev OJ (d : Nat) (o : BinOp) (x : Nat) (n : Int) : Oper1 := ⟨some d, .bin o (.t x) (.c (.int .i64 n)), none⟩
abbrev OC (d f : Nat) (xs : List Nat) : Oper1 := ⟨some d, .call (.c (.fn f [])) (xs.map .t), none⟩
abbrev DP : Draw1 := ⟨.pure, [], 0, 0⟩
abbrev DS : Draw1 := ⟨.seg, [], 0, 0⟩
abbrev DB : Draw1 := ⟨.bar, [], 0, 0⟩
abbrev DM (d x : Nat) : Oper1 × Draw1 := (OM d x, DP)
abbrev DD (d : Nat) (o : BinOp) (x y : Nat) : Oper1 × Draw1 := (OB d o x y, DP)
abbrev DN (d x : Nat) : Oper1 × Draw1 := (ON d x, DS)
abbrev DF (d n x : Nat) : Oper1 × Draw1 := (OF d n x, DS)
abbrev DL (d x : Nat) : Oper1 × Draw1 := (OL d x, DS)
abbrev DI (d z x i : Nat) : Oper1 × Draw1 := (OI d z x i, DS)
abbrev DA (d n x : Nat) : Oper1 × Draw1 := (OA d n x, DS)
abbrev DE (d x : Nat) : Oper1 × Draw1 := (OE d x, DS)
abbrev SQ (l : List Oper1) (c : Code1) : Code1 := .seq (.ops l) c
abbrev CS (x : Nat) (c : Code1) : Code1 := .cond (.t x) c .skip
abbrev CX (x i : Nat) : Code1 := .cond (.t x) .skip (.exit i)
end Go.Sh
namespace Go.Sh
set_option linter.unusedSectionVars false
set_option linter.unnecessarySimpa false
set_option linter.unusedVariables false
set_option linter.unusedSimpArgs false
section
variable {A : Type} (bl l : List A) (x : A) (k j : Nat)
theorem fr_get0 : (bl ++ l)[bl.length]? = l[0]? := by rw [List.getElem?_append_right (Nat.le_refl _), Nat.sub_self]
theorem fr_getk : (bl ++ l)[bl.length + k]? = l[k]? := by rw [List.getElem?_append_right (by omega), Nat.add_sub_cancel_left]
theorem fr_set0 : (bl ++ l).set bl.length x = bl ++ l.set 0 x := by rw [List.set_append_right _ _ (Nat.le_refl _), Nat.sub_self]
theorem fr_setk : (bl ++ l).set (bl.length + k) x = bl ++ l.set k x := by rw [List.set_append_right _ _ (by omega), Nat.add_sub_cancel_left]
theorem fr_take0 : (bl ++ l).take bl.length = bl := by simp
theorem fr_takek : (bl ++ l).take (bl.length + k) = bl ++ l.take k := by rw [List.take_append, List.take_of_length_le (by omega)]; simp
theorem fr_drop0 : (bl ++ l).drop bl.length = l := by simp
theorem fr_dropk : (bl ++ l).drop (bl.length + k) = l.drop k := by rw [List.drop_append, List.drop_of_length_le (by omega)]; simp
end
section
variable (a r k j : Nat)
theorem fr_le : decide (a + j ≤ a + k) = decide (j ≤ k) := by rw [decide_eq_decide]; omega
theorem fr_le0 : decide (a ≤ a + k) = true := decide_eq_true (by omega)
theorem fr_lt : decide (a + j < a + k) = decide (j < k) := by rw [decide_eq_decide]; omega
theorem fr_lt0 : decide (a < a + (k + 1)) = true := decide_eq_true (by omega)
theorem fr_lt1 : decide (a + k < a) = false := decide_eq_false (by omega)
theorem fr_min : decide (min r a ≤ a) = true := decide_eq_true (by omega)
theorem fr_mink : decide (min r a ≤ a + k) = true := decide_eq_true (by omega)
theorem fr_beq : (a + j == a + k) = (j == k) := by rw [Bool.eq_iff_iff]; simp
theorem fr_maxle (x y z : Nat) : decide (max x y ≤ z) = (decide (x ≤ z) && decide (y ≤ z)) := by rw [Bool.eq_iff_iff]; simp; omega
theorem fr_refl : decide (a ≤ a) = true := decide_eq_true (Nat.le_refl a)
theorem fr_z : decide (0 ≤ a) = true := decide_eq_true (Nat.zero_le a)
theorem fr_s : decide (a + (k + 1) ≤ a) = false := decide_eq_false (by omega)
theorem fr_beq0 : (a == a + (k + 1)) = false := by simp
theorem fr_beq1 : (a + (k + 1) == a) = false := by simp
end
theorem fr_b {A : Type} {bl l : List A} {b : Nat} {x : A} (h : bl[b]? = some x) : (bl ++ l)[b]? = some x := by
  rw [List.getElem?_append_left (List.getElem?_eq_some_iff.1 h).1]; exact h
theorem call_rox {T : FuncId → Option Fun1} {f : FuncId} {F : Fun1} {xs : List SV} {n : Nat} {H : Heap} {v : SV} (hT : T f = some F) (hk : F.keep = false) (hs : scal1 v = true)
    (h : ∀ (R : Type) (k : SV → Heap → Option R) (bl : List SBlk) (ro : Nat) (r : Option R), (bl = [] ∧ SV.refs.refsL xs = 0 ∨ bl = H.bl) → (∀ ext, k v ⟨bl ++ ext, [], min ro bl.length⟩ = r) →
      runK (call1 T n) (fin1 F.res k) F.body [] (env0 xs) ⟨bl, [], min ro bl.length⟩ () = r) :
    call1 T (n + 1) (.fn f) xs H = some (v, H) := by
  have hfz : ∀ N H', frz N H' depth1 v = some v := fun N H' => by
    cases v <;> simp only [scal1, Bool.false_eq_true] at hs <;> simp [depth1, frz, SV.refs]
  cases hp : pure0 F xs with
  | true =>
    refine call_pure hT hp ?_
    have hr : SV.refs.refsL xs = 0 := by
      unfold pure0 at hp
      simp only [Bool.and_eq_true, beq_iff_eq] at hp
      exact hp.1
    exact h SV (fun v H' => frz 0 H' depth1 v) [] 0 _ (.inl ⟨rfl, hr⟩) (fun ext => hfz _ _)
  | false =>
    refine call_in hT hp ?_
    refine h _ (fun v H' => leave1 F.keep H v H') H.bl H.ro _ (.inr rfl) (fun ext => ?_)
    rw [hk, leave_not, hfz]
    obtain ⟨bl, es, ro⟩ := H
    simp [Sh.trunc]
end Go.Sh
