/-
  THE SHADOW MACHINE, PART J: strings, structs compared, addresses of parts.
-/
import Derived.Test.YteohbocjhfcbdaaShI
namespace Go.Sh
set_option linter.unusedSectionVars false
set_option linter.unusedVariables false
set_option linter.unusedSimpArgs false
set_option linter.unnecessarySimpa false
section
variable {C : Ctx} {ρ : Map} {F : Nat → Prop} {H H' : Heap} {w : World} {e : Env} {a : Act} {s c d : SV}
theorem bytes_eq (p q : ByteArray) : (p.toList == q.toList) = decide (p = q) := by
  have h : ∀ x : ByteArray, x.toList = x.data.toList := fun x => by
    simp [ByteArray.toList_eq]
  rw [h, h]
  by_cases e : p = q
  · subst e; simp
  · have : p.data.toList ≠ q.data.toList := fun h => e (by cases p; cases q; simp at h; rw [h])
    simp [e]
    exact fun h => this (by rw [h])
theorem bin_str {op : BinOp} {t : TypeId} {p q : ByteArray} (h : sbin op (.str p) (.str q) = some s) : ∃ val, (binOp op t (.string p) (.string q)).run C.P w = .ok val w ∧ VR w F ρ s val := by
  cases op <;> simp only [sbin] at h <;> (try (cases h; done))
  case add =>
    replace h := bif_some h
    obtain ⟨hc, h⟩ := h
    cases h
    simp at hc
    refine ⟨_, ?_, .str _⟩
    have : ¬ ((p.size + q.size : Nat) : Int) > IntKind.i64.max := by
      have : IntKind.i64.max = 9223372036854775807 := by decide
      omega
    simp only [binOp, Op.stringOp, if_neg this]
    rfl
  case eql => cases h; exact ⟨_, by simp [binOp, Op.stringOp, bytes_eq, Sem.run, pure], .bool _⟩
  case neq => cases h; exact ⟨_, by simp [binOp, Op.stringOp, bytes_eq, Sem.run, pure], .bool _⟩
theorem bin_bool {op : BinOp} {t : TypeId} {p q : Bool} (ht : C.P.underlying t = some .bool) (h : sbinB op (.bool p) (.bool q) = some s) : ∃ val, (binOp op t (.bool p) (.bool q)).run C.P w = .ok val w ∧ VR w F ρ s val := by
  have he : (Op.equal t (.bool p) (.bool q)).run C.P w = .ok (p == q) w := by
    have h1 : ∀ d, (Op.equalIn (d + 1) t (.bool p) (.bool q)).run C.P w = .ok (p == q) w := fun d => by
      simp only [Op.equalIn, Sem.run_bind, run_underlying ht, Result.andThen]
      rfl
    exact h1 9999
  cases op <;> simp only [sbinB] at h <;> (try (cases h; done))
  case eql => cases h; exact ⟨_, by simp [binOp, he], .bool _⟩
  case neq => cases h; exact ⟨_, by simp [binOp, he], .bool _⟩
/-- What the two operands of a shadow operation are. -/
theorem sbin_kinds {op : BinOp} (h : sbin op c d = some s) : (∃ k p k2 q, c = .int k p ∧ d = .int k2 q) ∨ (∃ p q, c = .str p ∧ d = .str q) := by
  unfold sbin at h
  split at h <;> first | exact .inl ⟨_, _, _, _, rfl, rfl⟩ | exact .inr ⟨_, _, rfl, rfl⟩ | (cases h; done)
theorem ok_bin {op : BinOp} {t : TypeId} {x y : Operand} {x' y' : Opd} (hx : copd x = some x') (hy : copd y = some y')
    (hr : HR C ρ F H w) (he : ER w F ρ e a.tmps) (h : sbin op (ev e x') (ev e y') = some s) :
    OpOK C (do pure (.value (← (do eqGuard op t x y (a.eval x) (a.eval y); binOp op t (a.eval x) (a.eval y))))) ρ F H w s H := by
  have h1 := copd_vr hx he
  have h2 := copd_vr hy he
  generalize ev e x' = c at *
  generalize ev e y' = d at *
  rcases sbin_kinds h with ⟨k, p, k2, q, rfl, rfl⟩ | ⟨p, q, rfl, rfl⟩
  · rw [vr_int h1, vr_int h2]
    obtain ⟨val, r1, r2⟩ := bin_int (C := C) (w := w) (F := F) (ρ := ρ) (t := t) h
    exact ok_binv rfl (by simp) hr r1 r2
  · rw [vr_str h1, vr_str h2]
    obtain ⟨val, r1, r2⟩ := bin_str (C := C) (w := w) (F := F) (ρ := ρ) (t := t) h
    exact ok_binv rfl (by simp) hr r1 r2
theorem ok_binB {op : BinOp} {t : TypeId} {x y : Operand} {x' y' : Opd} (hx : copd x = some x') (hy : copd y = some y')
    (hr : HR C ρ F H w) (he : ER w F ρ e a.tmps) (hb2 : C.P.underlying t = some .bool) (h : sbinB op (ev e x') (ev e y') = some s) :
    OpOK C (do pure (.value (← (do eqGuard op t x y (a.eval x) (a.eval y); binOp op t (a.eval x) (a.eval y))))) ρ F H w s H := by
  have h1 := copd_vr hx he
  have h2 := copd_vr hy he
  generalize ev e x' = c at *
  generalize ev e y' = d at *
  have hk : ∃ p q, c = .bool p ∧ d = .bool q := by
    unfold sbinB at h
    split at h <;> first | exact ⟨_, _, rfl, rfl⟩ | (cases h; done)
  obtain ⟨p, q, rfl, rfl⟩ := hk
  rw [vr_bool h1, vr_bool h2]
  obtain ⟨val, r1, r2⟩ := bin_bool (w := w) (F := F) (ρ := ρ) hb2 h
  exact ok_binv rfl (by simp) hr r1 r2
theorem ok_notB {t : TypeId} {x : Operand} {y : Opd} (hx : copd x = some y) (hr : HR C ρ F H w) (he : ER w F ρ e a.tmps) {b : Bool} (h : ev e y = .bool b) :
    OpOK C (do pure (.value (← Op.unary .not (a.eval x)))) ρ F H w (.bool (!b)) H := by
  have h1 := copd_vr hx he
  rw [h] at h1
  rw [vr_bool h1]
  exact OpOK.val hr (val := .bool (!b)) rfl (.bool _)
theorem ok_negI {x : Operand} {y : Opd} (hx : copd x = some y) (hr : HR C ρ F H w) (he : ER w F ρ e a.tmps) {k : IntKind} {n : Int} (h : ev e y = .int k n) :
    OpOK C (do pure (.value (← Op.unary .neg (a.eval x)))) ρ F H w (.int k (k.wrap (0 - n))) H := by
  have h1 := copd_vr hx he
  rw [h] at h1
  rw [vr_int h1]
  exact OpOK.val hr (val := .int k (k.wrap (0 - n))) rfl (.int _ _)
theorem ok_convI {sr ds : TypeId} {k j : IntKind} {x : Operand} {y : Opd} (hx : copd x = some y) (hs : C.P.underlying sr = some (.int j)) (hd : C.P.underlying ds = some (.int k)) (hr : HR C ρ F H w) (he : ER w F ρ e a.tmps)
    {k' : IntKind} {n : Int} (h : ev e y = .int k' n) : OpOK C (do pure (.value (← convert sr ds (a.eval x)))) ρ F H w (.int k (k.wrap n)) H := by
  have h1 := copd_vr hx he
  rw [h] at h1
  rw [vr_int h1]
  refine OpOK.val hr (val := .int k (k.wrap n)) ?_ (.int _ _)
  unfold convert
  simp only [Sem.run_bind, run_underlying hs, run_underlying hd, Result.andThen]
  rfl
theorem ok_convS {sr ds : TypeId} {x : Operand} {y : Opd} (hx : copd x = some y) (hs : C.P.underlying sr = some .string) (hd : C.P.underlying ds = some .string) (hr : HR C ρ F H w) (he : ER w F ρ e a.tmps)
    {t : ByteArray} (h : ev e y = .str t) : OpOK C (do pure (.value (← convert sr ds (a.eval x)))) ρ F H w (.str t) H := by
  have h1 := copd_vr hx he
  rw [h] at h1
  rw [vr_str h1]
  refine OpOK.val hr (val := .string t) ?_ (.str _)
  unfold convert
  simp only [Sem.run_bind, run_underlying hs, run_underlying hd, Result.andThen]
  rfl
theorem ok_mkfn {f : FuncId} {fs cs : Array Operand} {cs' : List Opd} (hf : fs.isEmpty = true) (hx : copds cs = some cs') (hr : HR C ρ F H w) (he : ER w F ρ e a.tmps) :
    OpOK C (do pure (.value (← Instr.makeFunc (.func f) (fs.map a.eval) (cs.map a.eval)))) ρ F H w (.fn f (cs'.map (ev e))) H := by
  obtain ⟨h1, h2⟩ := copds_vr hx he
  have : fs.map a.eval = #[] := by
    have : fs = #[] := by simpa using hf
    subst this; simp
  rw [this]
  exact OpOK.val hr (val := .func (.func f) #[] (cs.map a.eval)) rfl (.fn (by simpa using h1) h2)
theorem cfields_run {t : TypeId} {fs : List Field} {i : Nat} {f : Field} (h : cfields C.P t = some fs) (hf : fs[i]? = some f) : ∃ gs, C.P.underlying t = some (.struct gs) ∧ gs[i]? = some f := by
  unfold cfields at h
  split at h
  · rename_i gs hu
    cases h
    exact ⟨gs, hu, by simpa using hf⟩
  · cases h
theorem faddr_vr {off : Nat} {v : Value} (hr : HR C ρ F H w) (hc : cur H c = true) (hv : VR w F ρ c v) (h : faddr1 off c = some s) :
    ∃ B o, v = .pointer (some ⟨B, o, none⟩) ∧ VR w F ρ s (.pointer (some ⟨B, o + off, none⟩)) := by
  unfold faddr1 at h
  split at h
  · rename_i b ver i o
    cases h
    obtain ⟨l, h1, h2, h3, rfl⟩ := cur_ptr hr hc hv
    exact ⟨_, _, rfl, .ptr h1 (by omega) rfl (fun _ => ⟨h3, by rw [Nat.add_assoc]⟩)⟩
  · rename_i cs
    cases h
    cases hv with
    | eptr V hF hk h1 hv =>
      refine ⟨_, _, rfl, .eptr (fun j => V (off + j)) hF (fun j c hj => ?_) (fun j c hj => ?_) (fun j c hj => ?_)⟩ <;> rw [List.getElem?_drop] at hj
      · rw [Nat.add_assoc]; exact hk _ c hj
      · exact h1 _ c hj
      · exact hv _ c hj
  · cases h
theorem ok_faddr {t : TypeId} {i n : Nat} {fs : List Field} {f : Field} {x : Operand} {y : Opd} (hx : copd x = some y) (hfs : cfields C.P t = some fs) (hf : fs[i]? = some f) (hn : csz C.P f.type = some (n + 1))
    (hr : HR C ρ F H w) (he : ER w F ρ e a.tmps) (hc : cur H (ev e y) = true) (h : faddr1 f.offset (ev e y) = some s) : OpOK C (do pure (.value (← Instr.fieldAt t (a.eval x) i))) ρ F H w s H := by
  obtain ⟨gs, h1, h2⟩ := cfields_run hfs hf
  obtain ⟨B, o, h3, h4⟩ := faddr_vr hr hc (copd_vr hx he) h
  refine OpOK.val hr ?_ h4
  unfold Instr.fieldAt
  simp only [Sem.run_bind, run_underlying h1, Result.andThen, h2, h3, Instr.sureAddr, fieldPlace, run_sizeOf' hn]
  simp [Sem.run, pure, add_none]
theorem ok_field {t : TypeId} {i n : Nat} {ag : Bool} {fs : List Field} {f : Field} {x : Operand} {y : Opd} {cs : List SV} (hx : copd x = some y) (hfs : cfields C.P t = some fs) (hf : fs[i]? = some f) (hag : cag C.P f.type = some ag)
    (hn : csz C.P f.type = some n) (hr : HR C ρ F H w) (he : ER w F ρ e a.tmps) (hc : ev e y = .agg cs) (h : part1 ag n cs f.offset = some s) : OpOK C (do pure (.value (← Instr.field t (a.eval x) i))) ρ F H w s H := by
  obtain ⟨gs, h1, h2⟩ := cfields_run hfs hf
  have hv := copd_vr hx he
  rw [hc] at hv
  obtain ⟨vs, h3, h4, h5⟩ := vr_agg_cells hv
  obtain ⟨p1, p2⟩ := part1_vr h h5 (by omega)
  suffices hs : ∃ val, (part f.type vs f.offset).run C.P w = .ok val w ∧ VR w F ρ s val by
    obtain ⟨val, r1, r2⟩ := hs
    refine OpOK.val hr ?_ r2
    unfold Instr.field
    simp only [Sem.run_bind, run_underlying h1, Result.andThen, h2, h3, asAgg]
    simpa [Sem.run, pure] using r1
  unfold part
  cases ag with
  | true =>
    refine ⟨_, by simp only [Sem.run_bind, run_isAgg' hag, Result.andThen, if_true, run_sizeOf' hn]; rfl, by simpa using p1 rfl⟩
  | false =>
    obtain ⟨v, k1, k2⟩ := p2 rfl
    rw [Nat.zero_add] at k1
    refine ⟨v, by simp only [Sem.run_bind, run_isAgg' hag, Result.andThen, Bool.false_eq_true, if_false, k1]; rfl, k2⟩
theorem ok_extract {x : Operand} {y : Opd} {vs : List SV} {i : Nat} (hx : copd x = some y) (hr : HR C ρ F H w) (he : ER w F ρ e a.tmps) (hc : ev e y = .tup vs) (h : vs[i]? = some s) :
    OpOK C (do pure (.value (← Instr.extract (a.eval x) i))) ρ F H w s H := by
  have hv := copd_vr hx he
  rw [hc] at hv
  generalize a.eval x = u at *
  cases hv with
  | tup hn hv =>
    rename_i us
    have hlt := (List.getElem?_eq_some_iff.1 h).1
    have hu : us[i]? = some us[i] := Array.getElem?_eq_getElem (by omega)
    refine OpOK.val hr (val := us[i]) ?_ (hv i s _ h hu)
    simp only [Instr.extract, hu]
    rfl
theorem sidx_vr {n i : Nat} {v : Value} (h : sidx n c = some i) (hv : VR w F ρ c v) : ∃ k j, v = .int k j ∧ 0 ≤ j ∧ j < n ∧ i = j.toNat := by
  unfold sidx at h
  split at h
  · rename_i k j
    replace h := bif_some h
    obtain ⟨hc, h⟩ := h
    cases h
    simp at hc
    exact ⟨k, j, vr_int hv, hc.1, hc.2, rfl⟩
  · cases h
theorem ok_iaddrA {t el : TypeId} {len n i : Nat} {x ix : Operand} {x' i' : Opd} (hx : copd x = some x') (hi : copd ix = some i') (hu : C.P.underlying t = some (.array len el)) (hn : csz C.P el = some (n + 1))
    (hr : HR C ρ F H w) (he : ER w F ρ e a.tmps) (hc : cur H (ev e x') = true) (h1 : sidx len (ev e i') = some i) (h : faddr1 (i * (n + 1)) (ev e x') = some s) :
    OpOK C (do pure (.value (← Instr.indexAt t (a.eval x) (a.eval ix)))) ρ F H w s H := by
  obtain ⟨B, o, h3, h4⟩ := faddr_vr hr hc (copd_vr hx he) h
  obtain ⟨k, j, h5, h6, h7, rfl⟩ := sidx_vr h1 (copd_vr hi he)
  refine OpOK.val hr ?_ h4
  unfold Instr.indexAt
  simp only [Sem.run_bind, h5, asIntOf, run_underlying hu, Result.andThen, h3, Instr.sureAddr]
  simp only [pure, Sem.run, Result.andThen, h6, h7, and_self, if_true, Sem.run_bind, run_sizeOf' hn, add_none]
theorem ok_iaddrS {t el : TypeId} {n : Nat} {x ix : Operand} {x' i' : Opd} (hx : copd x = some x') (hi : copd ix = some i') (hu : C.P.underlying t = some (.slice el)) (hn : csz C.P el = some (n + 1))
    (hr : HR C ρ F H w) (he : ER w F ρ e a.tmps) (hc : curZ H (n + 1) (ev e x') = true) (h : siaddr (ev e x') (ev e i') = some s) :
    OpOK C (do pure (.value (← Instr.indexAt t (a.eval x) (a.eval ix)))) ρ F H w s H := by
  have hv := copd_vr hx he
  have hvi := copd_vr hi he
  generalize ev e x' = c at *
  generalize ev e i' = d at *
  suffices hs : ∃ B o len cap k j, a.eval x = .slice (some ⟨B, o, none⟩) len cap ∧ a.eval ix = .int k j ∧ 0 ≤ j ∧ j < len ∧ VR w F ρ s (.pointer (some ⟨B, o + j.toNat * (n + 1), none⟩)) by
    obtain ⟨B, o, len, cap, k, j, h1, h2, h3, h4, h5⟩ := hs
    refine OpOK.val hr ?_ h5
    unfold Instr.indexAt
    simp only [Sem.run_bind, h2, asIntOf, run_underlying hu, Result.andThen, h1, Instr.sureAddr]
    simp only [pure, Sem.run, Result.andThen, h3, h4, and_self, if_true, Sem.run_bind, run_sizeOf' hn, add_none]
  generalize a.eval x = u at *
  unfold siaddr at h
  split at h
  · rename_i z L f
    simp only [Option.bind_eq_some_iff, Option.map_eq_some_iff] at h
    obtain ⟨i, hi', cs, hcs, rfl⟩ := h
    obtain ⟨k, j, h5, h6, h7, rfl⟩ := sidx_vr hi' hvi
    cases hv with
    | lst V hcap hfull hz hat h1 hv =>
      have hzn : z = n + 1 := by
        unfold curZ at hc
        simp at hc
        rcases hc with hc | hc
        · exact hc
        · subst hc; simp at hcs
      subst hzn
      rcases hat with h0 | ⟨B, o, ha, hF, hk⟩
      · subst h0; simp at hcs
      · subst ha
        exact ⟨B, o, _, _, k, j, rfl, h5, h6, h7, .eptr (fun q => V j.toNat q) hF (fun q c hq => hk _ q cs c hcs hq) (fun q c hq => h1 _ q cs c hcs hq) (fun q c hq => hv _ q cs c hcs hq)⟩
  · rename_i b ver off m
    simp only [Option.map_eq_some_iff] at h
    obtain ⟨i, hi', rfl⟩ := h
    obtain ⟨k, j, h5, h6, h7, rfl⟩ := sidx_vr hi' hvi
    obtain ⟨l, z, L, ex, hl, hb, hbr, g1, g2⟩ := cur_slc hr (curZ_cur hc) hv
    have hzn : z = n + 1 := by
      unfold curZ at hc
      simp [hb] at hc
      exact hc
    subst hzn
    cases hvi' : l.virt with
    | true =>
      obtain ⟨_, _, _, rfl⟩ := g1 hvi'
      simp at h7; omega
    | false =>
      obtain ⟨g3, q, rfl, g4⟩ := g2 hvi'
      have := g4 (by omega)
      subst this
      refine ⟨_, _, _, _, k, j, rfl, h5, h6, h7, .ptr hl (Nat.le_of_eq hbr.2.1.symm) rfl (fun _ => ⟨hvi', ?_⟩)⟩
      have e1 : l.esz = n + 1 := hbr.2.2.1
      rw [e1, Nat.add_mul]
      congr 3
      simp [Nat.add_assoc]
  · cases h
end
end Go.Sh
