/-
  THE SHADOW MACHINE, PART RA: structs and arrays compared.
-/
import Derived.Test.YteohbocjhfcbdaaShR
import Derived.Laws.StructEq
namespace Go.Sh
set_option linter.unusedSectionVars false
set_option linter.unusedVariables false
set_option linter.unusedSimpArgs false
set_option linter.unnecessarySimpa false
section
variable {C : Ctx} {ρ : Map} {F : Nat → Prop} {H H' : Heap} {w : World} {e : Env} {a : Act} {s c d : SV}
theorem eqCells_len : ∀ (sh : List LK) (x y : List SV) (r : Bool), eqCells sh x y = some r → x.length = sh.length ∧ y.length = sh.length
  | [], x, y, r, h => by
    unfold eqCells at h
    split at h <;> first | (simp; done) | (simp_all; done)
  | k :: sh, x, y, r, h => by
    unfold eqCells at h
    split at h
    · rename_i h1; cases h1
    · rename_i sh' k1 p1 x' k2 p2 y' h1
      cases h1
      replace h := bif_some h
      simp only [Option.map_eq_some_iff] at h
      obtain ⟨_, r', h2, _⟩ := h
      have := eqCells_len sh x' y' r' h2
      simp [this]
    · rename_i sh' p1 x' p2 y' h1
      cases h1
      simp only [Option.map_eq_some_iff] at h
      obtain ⟨r', h2, _⟩ := h
      have := eqCells_len sh x' y' r' h2
      simp [this]
    · rename_i sh' p1 x' p2 y' h1
      cases h1
      simp only [Option.map_eq_some_iff] at h
      obtain ⟨r', h2, _⟩ := h
      have := eqCells_len sh x' y' r' h2
      simp [this]
    · cases h
theorem eqCells_one {k : LK} {c d : SV} {r : Bool} (h : eqCells [k] [c] [d] = some r) : (∃ q p p', k = .i ∧ c = .int q p ∧ d = .int q p' ∧ r = decide (p = p')) ∨ (∃ p p', k = .b ∧ c = .bool p ∧ d = .bool p' ∧ r = (p == p')) ∨
    (∃ p p', k = .s ∧ c = .str p ∧ d = .str p' ∧ r = decide (p = p')) := by
  unfold eqCells at h
  split at h
  · simp_all
  · rename_i sh q p x q2 p2 y h1 h2 h3
    cases h1; cases h2; cases h3
    replace h := bif_some h
    simp only [Option.map_eq_some_iff] at h
    obtain ⟨hk, r', h3, rfl⟩ := h
    have : r' = true := by simpa [eqCells] using h3.symm
    subst this
    have : q = q2 := by simpa using hk
    subst this
    exact .inl ⟨_, _, _, rfl, rfl, rfl, by simp⟩
  · rename_i sh p x p2 y h1 h2 h3
    cases h1; cases h2; cases h3
    simp only [Option.map_eq_some_iff] at h
    obtain ⟨r', h3, rfl⟩ := h
    have : r' = true := by simpa [eqCells] using h3.symm
    subst this
    exact .inr (.inl ⟨_, _, rfl, rfl, rfl, by simp⟩)
  · rename_i sh p x p2 y h1 h2 h3
    cases h1; cases h2; cases h3
    simp only [Option.map_eq_some_iff] at h
    obtain ⟨r', h3, rfl⟩ := h
    have : r' = true := by simpa [eqCells] using h3.symm
    subst this
    exact .inr (.inr ⟨_, _, rfl, rfl, rfl, by simp⟩)
  · cases h
theorem bif_none' {A : Type} {c : Bool} {x : Option A} {y : A} (h : (bif c then none else x) = some y) : c = false ∧ x = some y := by
  cases c with
  | true => cases h
  | false => exact ⟨rfl, h⟩
theorem eqCells_append : ∀ (s1 s2 : List LK) (x y : List SV) (r : Bool), eqCells (s1 ++ s2) x y = some r →
    ∃ r1 r2, eqCells s1 (x.take s1.length) (y.take s1.length) = some r1 ∧ eqCells s2 (x.drop s1.length) (y.drop s1.length) = some r2 ∧ r = (r1 && r2)
  | [], s2, x, y, r, h => ⟨true, r, by simp [eqCells], by simpa using h, by simp⟩
  | k :: s1, s2, x, y, r, h => by
    simp only [List.cons_append] at h
    unfold eqCells at h
    split at h
    · rename_i h1; cases h1
    · rename_i sh' k1 p1 x' k2 p2 y' h1
      cases h1
      replace h := bif_some h
      simp only [Option.map_eq_some_iff] at h
      obtain ⟨hk, r', h2, rfl⟩ := h
      obtain ⟨r1, r2, h3, h4, rfl⟩ := eqCells_append s1 s2 x' y' r' h2
      exact ⟨decide (p1 = p2) && r1, r2, by simp [eqCells, hk, h3], by simpa using h4, by simp [Bool.and_assoc]⟩
    · rename_i sh' p1 x' p2 y' h1
      cases h1
      simp only [Option.map_eq_some_iff] at h
      obtain ⟨r', h2, rfl⟩ := h
      obtain ⟨r1, r2, h3, h4, rfl⟩ := eqCells_append s1 s2 x' y' r' h2
      exact ⟨(p1 == p2) && r1, r2, by simp [eqCells, h3], by simpa using h4, by simp [Bool.and_assoc]⟩
    · rename_i sh' p1 x' p2 y' h1
      cases h1
      simp only [Option.map_eq_some_iff] at h
      obtain ⟨r', h2, rfl⟩ := h
      obtain ⟨r1, r2, h3, h4, rfl⟩ := eqCells_append s1 s2 x' y' r' h2
      exact ⟨decide (p1 = p2) && r1, r2, by simp [eqCells, h3], by simpa using h4, by simp [Bool.and_assoc]⟩
    · cases h
/-- Rows of leaves, compared. -/
def EqOK (P : Program) (w : World) (F : Nat → Prop) (ρ : Map) (dd : Nat) (t : TypeId) (sh : List LK) : Prop :=
  ∀ (xs ys : Array Value) (cs ds : List SV) (r : Bool) (o : Nat), CellsR w F ρ xs o cs → CellsR w F ρ ys o ds → eqCells sh cs ds = some r → csz P t = some sh.length →
    ∃ u v, (part t xs o).run P w = .ok u w ∧ (part t ys o).run P w = .ok v w ∧ (Op.equalIn dd t u v).run P w = .ok r w
theorem cells_sub {vs : Array Value} {o i n : Nat} {cs : List SV} (h : CellsR w F ρ vs o cs) : CellsR w F ρ vs (o + i) ((cs.drop i).take n) := by
  intro j c hj
  rw [List.getElem?_take] at hj
  split at hj
  · rw [List.getElem?_drop] at hj
    obtain ⟨v, h1, h2, h3⟩ := h _ c hj
    exact ⟨v, by rw [Nat.add_assoc]; exact h1, h2, h3⟩
  · cases hj
theorem cells_extract {vs : Array Value} {o n : Nat} {cs : List SV} (h : CellsR w F ρ vs o cs) (hn : cs.length ≤ n) : CellsR w F ρ (vs.extract o (o + n)) 0 cs := by
  intro j c hj
  obtain ⟨v, h1, h2, h3⟩ := h j c hj
  have hlt := (List.getElem?_eq_some_iff.1 hj).1
  have hlt' := (Array.getElem?_eq_some_iff.1 h1).1
  refine ⟨v, ?_, h2, h3⟩
  rw [Nat.zero_add, Array.getElem?_extract, if_pos (by omega)]
  exact h1
theorem eqLeaf_int {P : Program} {t : TypeId} {k k2 : IntKind} {p q : Int} {dd : Nat} {q0 : IntKind} (hu : P.underlying t = some (.int q0)) (hk : k = k2) : (Op.equalIn (dd + 1) t (.int k p) (.int k2 q)).run P w = .ok (decide (p = q)) w := by
  subst hk
  simp only [Op.equalIn, Sem.run_bind, run_underlying hu, Result.andThen_ok]
  simp only [if_true, Sem.run_pure]
  congr 1
theorem part_leaf {P : Program} {t : TypeId} {vs : Array Value} {o : Nat} {v : Value} (hag : cag P t = some false) (h : vs[o]? = some v) : (part t vs o).run P w = .ok v w := by
  unfold part
  simp only [Sem.run_bind, run_isAgg' hag, Result.andThen, Bool.false_eq_true, if_false, h]
  rfl
theorem part_agg {P : Program} {t : TypeId} {vs : Array Value} {o n : Nat} (hag : cag P t = some true) (hsz : csz P t = some n) : (part t vs o).run P w = .ok (.agg (vs.extract o (o + n))) w := by
  unfold part
  simp only [Sem.run_bind, run_isAgg' hag, Result.andThen, if_true, run_sizeOf' hsz]
  rfl
def stepSh (P : Program) (dd : Nat) (acc : List LK) (f : Field) : Option (List LK) :=
  bif f.name != "_" && f.offset == acc.length then (cshape P dd f.type).bind fun sh => bif (csz P f.type) == some sh.length then some (acc ++ sh) else none else none
theorem eqFields_run {P : Program} {dd d2 : Nat} (ih : ∀ t sh, cshape P dd t = some sh → EqOK P w F ρ d2 t sh) : ∀ (fs : List Field) (acc sh : List LK) (xs ys : Array Value) (cs ds : List SV) (r : Bool),
    fs.foldlM (stepSh P dd) acc = some sh → ∃ rest, sh = acc ++ rest ∧
    (CellsR w F ρ xs acc.length cs → CellsR w F ρ ys acc.length ds → eqCells rest cs ds = some r → (Op.eqFields d2 xs ys fs).run P w = .ok r w)
  | [], acc, sh, xs, ys, cs, ds, r, h => by
    simp at h
    subst h
    refine ⟨[], by simp, fun hx hy hr => ?_⟩
    have : r = true := by
      unfold eqCells at hr
      split at hr <;> simp_all
    subst this
    rfl
  | f :: fs, acc, sh, xs, ys, cs, ds, r, h => by
    rw [List.foldlM_cons] at h
    simp only [bind, Option.bind_eq_some_iff] at h
    obtain ⟨acc', h1, h2⟩ := h
    unfold stepSh at h1
    replace h1 := bif_some h1
    obtain ⟨hc, h1⟩ := h1
    simp only [Bool.and_eq_true, bne_iff_ne, beq_iff_eq] at hc
    simp only [Option.bind_eq_some_iff] at h1
    obtain ⟨shf, h3, h1⟩ := h1
    replace h1 := bif_some h1
    obtain ⟨h4, h1⟩ := h1
    cases h1
    have h4 : csz P f.type = some shf.length := by simpa using h4
    obtain ⟨rest, hrest, _⟩ := eqFields_run ih fs (acc ++ shf) sh xs ys [] [] true h2
    refine ⟨shf ++ rest, by rw [hrest]; simp, fun hx hy hr => ?_⟩
    obtain ⟨r1, r2, k1, k2, rfl⟩ := eqCells_append _ _ _ _ _ hr
    have hx1 := cells_sub (i := 0) (n := shf.length) hx
    have hy1 := cells_sub (i := 0) (n := shf.length) hy
    simp only [Nat.add_zero, List.drop_zero] at hx1 hy1
    obtain ⟨u, v, g1, g2, g3⟩ := ih f.type shf h3 xs ys _ _ r1 acc.length hx1 hy1 k1 h4
    obtain ⟨rest', hrest', hrec⟩ := eqFields_run ih fs (acc ++ shf) sh xs ys (cs.drop shf.length) (ds.drop shf.length) r2 h2
    have : rest' = rest := List.append_cancel_left (hrest'.symm.trans hrest)
    subst this
    have hx2 : CellsR w F ρ xs (acc ++ shf).length (cs.drop shf.length) := by
      intro j c hj
      rw [List.getElem?_drop] at hj
      obtain ⟨v, q1, q2, q3⟩ := hx _ c hj
      exact ⟨v, by rw [List.length_append, Nat.add_assoc]; exact q1, q2, q3⟩
    have hy2 : CellsR w F ρ ys (acc ++ shf).length (ds.drop shf.length) := by
      intro j c hj
      rw [List.getElem?_drop] at hj
      obtain ⟨v, q1, q2, q3⟩ := hy _ c hj
      exact ⟨v, by rw [List.length_append, Nat.add_assoc]; exact q1, q2, q3⟩
    have := hrec hx2 hy2 k2
    simp only [Op.eqFields, ne_eq, hc.1, not_false_eq_true, if_true, Sem.run_bind, hc.2, g1, g2, g3, Result.andThen_ok]
    cases r1 with
    | true => simpa using this
    | false => simp
theorem eqItems_run {P : Program} {d2 : Nat} {t : TypeId} {sh : List LK} (ih : EqOK P w F ρ d2 t sh) (hsz : csz P t = some sh.length) : ∀ (n i : Nat) (xs ys : Array Value) (cs ds : List SV) (r : Bool),
    CellsR w F ρ xs (i * sh.length) cs → CellsR w F ρ ys (i * sh.length) ds → eqCells (List.replicate n sh).flatten cs ds = some r → (Op.eqItems d2 t sh.length xs ys (List.range' i n)).run P w = .ok r w
  | 0, i, xs, ys, cs, ds, r, hx, hy, hr => by
    have : r = true := by
      simp only [List.replicate_zero, List.flatten_nil] at hr
      unfold eqCells at hr
      split at hr <;> simp_all
    subst this
    rfl
  | n + 1, i, xs, ys, cs, ds, r, hx, hy, hr => by
    rw [List.replicate_succ, List.flatten_cons] at hr
    obtain ⟨r1, r2, k1, k2, rfl⟩ := eqCells_append _ _ _ _ _ hr
    have hx1 := cells_sub (i := 0) (n := sh.length) hx
    have hy1 := cells_sub (i := 0) (n := sh.length) hy
    simp only [Nat.add_zero, List.drop_zero] at hx1 hy1
    obtain ⟨u, v, g1, g2, g3⟩ := ih xs ys _ _ r1 _ hx1 hy1 k1 hsz
    have hx2 : CellsR w F ρ xs ((i + 1) * sh.length) (cs.drop sh.length) := by
      intro j c hj
      rw [List.getElem?_drop] at hj
      obtain ⟨v, q1, q2, q3⟩ := hx _ c hj
      exact ⟨v, by rw [Nat.add_mul, Nat.one_mul, Nat.add_assoc]; exact q1, q2, q3⟩
    have hy2 : CellsR w F ρ ys ((i + 1) * sh.length) (ds.drop sh.length) := by
      intro j c hj
      rw [List.getElem?_drop] at hj
      obtain ⟨v, q1, q2, q3⟩ := hy _ c hj
      exact ⟨v, by rw [Nat.add_mul, Nat.one_mul, Nat.add_assoc]; exact q1, q2, q3⟩
    have := eqItems_run ih hsz n (i + 1) xs ys _ _ r2 hx2 hy2 k2
    simp only [List.range'_succ, Op.eqItems, Sem.run_bind, g1, g2, g3, Result.andThen_ok]
    cases r1 with
    | true => simpa using this
    | false => simp
/-- Structs and arrays, from their cells. -/
theorem eqAgg_run {P : Program} {dd D : Nat} {t : TypeId} {sh : List LK} (ih : ∀ t sh, cshape P dd t = some sh → EqOK P w F ρ (D + dd) t sh) (h : cshape P (dd + 1) t = some sh) (hag : cag P t = some true) {xs ys : Array Value} {cs ds : List SV} {r : Bool}
    (hx : CellsR w F ρ xs 0 cs) (hy : CellsR w F ρ ys 0 ds) (hr : eqCells sh cs ds = some r) : (Op.equalIn (D + dd + 1) t (.agg xs) (.agg ys)).run P w = .ok r w := by
  unfold cshape at h
  split at h
  · rename_i hu; simp [cag, hu] at hag
  · rename_i hu; simp [cag, hu] at hag
  · rename_i hu; simp [cag, hu] at hag
  · rename_i fs hu
    replace h := bif_none' h
    obtain ⟨hs, h⟩ := h
    have hf : P.fieldsOf t = fs := by simp [Program.fieldsOf, hu]
    rw [run_equalIn_struct w (D + dd) t xs ys (by rw [hf]; exact hu) hs, hf]
    obtain ⟨rest, h1, h2⟩ := eqFields_run ih fs.toList [] sh xs ys cs ds r h
    simp only [List.nil_append] at h1
    subst h1
    exact h2 hx hy hr
  · rename_i n e hu
    simp only [Option.bind_eq_some_iff] at h
    obtain ⟨she, h1, h⟩ := h
    replace h := bif_some h
    obtain ⟨h2, h⟩ := h
    cases h
    have h2 : csz P e = some she.length := by simpa using h2
    have h3 := h2
    unfold csz at h3
    simp only [Option.map_eq_some_iff] at h3
    obtain ⟨i, hi, hi2⟩ := h3
    have hcells : P.cellsOf e = she.length := by simp [Program.cellsOf, hi, hi2]
    rw [run_equalIn_array w (D + dd) xs ys hu hi, hcells, List.range_eq_range']
    exact eqItems_run (ih e she h1) h2 n 0 xs ys cs ds r (by simpa using hx) (by simpa using hy) hr
  · cases h
theorem eqOK {P : Program} : ∀ (dd : Nat) (D : Nat) (t : TypeId) (sh : List LK), cshape P dd t = some sh → EqOK P w F ρ (D + dd) t sh
  | 0, _, _, _, h => by simp [cshape] at h
  | dd + 1, D, t, sh, h => by
    intro xs ys cs ds r o hx hy hr hsz
    have hlen := eqCells_len sh cs ds r hr
    have leaf : cag P t = some false → ∀ k, sh = [k] → (∀ u v, ∀ c d, VR w F ρ c u → VR w F ρ d v → eqCells [k] [c] [d] = some r → (Op.equalIn (D + dd + 1) t u v).run P w = .ok r w) →
        ∃ u v, (part t xs o).run P w = .ok u w ∧ (part t ys o).run P w = .ok v w ∧ (Op.equalIn (D + dd + 1) t u v).run P w = .ok r w := by
      intro hag k hk hgo
      subst hk
      obtain ⟨c, rfl⟩ : ∃ c, cs = [c] := List.length_eq_one_iff.1 hlen.1
      obtain ⟨d, rfl⟩ : ∃ d, ds = [d] := List.length_eq_one_iff.1 hlen.2
      obtain ⟨u, u1, u2, _⟩ := hx 0 c rfl
      obtain ⟨v, v1, v2, _⟩ := hy 0 d rfl
      exact ⟨u, v, part_leaf hag u1, part_leaf hag v1, hgo u v c d u2 v2 hr⟩
    have agg : cag P t = some true → ∃ u v, (part t xs o).run P w = .ok u w ∧ (part t ys o).run P w = .ok v w ∧ (Op.equalIn (D + dd + 1) t u v).run P w = .ok r w := fun hag =>
      ⟨_, _, part_agg hag hsz, part_agg hag hsz, eqAgg_run (fun t sh h => eqOK dd D t sh h) h hag (cells_extract hx (by omega)) (cells_extract hy (by omega)) hr⟩
    rw [← Nat.add_assoc]
    unfold cshape at h
    split at h
    · rename_i hu
      refine leaf (by simp [cag, hu]) .b (by simpa using h.symm) (fun u v c d hu1 hv1 hr1 => ?_)
      rcases eqCells_one hr1 with ⟨_, _, _, h0, _⟩ | ⟨p, p', _, rfl, rfl, rfl⟩ | ⟨_, _, h0, _⟩
      · cases h0
      · rw [vr_bool hu1, vr_bool hv1, run_equalIn_bool w _ t _ _ hu]
      · cases h0
    · rename_i q hu
      refine leaf (by simp [cag, hu]) .i (by simpa using h.symm) (fun u v c d hu1 hv1 hr1 => ?_)
      rcases eqCells_one hr1 with ⟨q, p, p', _, rfl, rfl, rfl⟩ | ⟨_, _, h0, _⟩ | ⟨_, _, h0, _⟩
      · rw [vr_int hu1, vr_int hv1, eqLeaf_int hu rfl]
      · cases h0
      · cases h0
    · rename_i hu
      refine leaf (by simp [cag, hu]) .s (by simpa using h.symm) (fun u v c d hu1 hv1 hr1 => ?_)
      rcases eqCells_one hr1 with ⟨_, _, _, h0, _⟩ | ⟨_, _, h0, _⟩ | ⟨p, p', _, rfl, rfl, rfl⟩
      · cases h0
      · cases h0
      · rw [vr_str hu1, vr_str hv1, run_equalIn_string w _ t _ _ hu, bytes_eq]
    · rename_i fs hu; exact agg (by simp [cag, hu])
    · rename_i n el hu; exact agg (by simp [cag, hu])
    · cases h
theorem ok_eqAgg {op : BinOp} {neg : Bool} {t : TypeId} {x y : Operand} {x' y' : Opd} {sh : List LK} {cs ds : List SV} {r : Bool} (hop : (op = .eql ∧ neg = false) ∨ (op = .neq ∧ neg = true)) (hx : copd x = some x') (hy : copd y = some y')
    (hm : C.P.eqGuardType C.P.depth t = false) (hsh : cshape C.P 6 t = some sh) (hag : cag C.P t = some true) (hr : HR C ρ F H w) (he : ER w F ρ e a.tmps) (h1 : ev e x' = .agg cs) (h2 : ev e y' = .agg ds) (h : eqCells sh cs ds = some r) :
    OpOK C (do let v ← (do eqGuard op t x y (a.eval x) (a.eval y); binOp op t (a.eval x) (a.eval y)); pure (.value v)) ρ F H w (.bool (neg ^^ r)) H := by
  have v1 := copd_vr hx he
  have v2 := copd_vr hy he
  rw [h1] at v1
  rw [h2] at v2
  obtain ⟨xs, e1, _, c1⟩ := vr_agg_cells v1
  obtain ⟨ys, e2, _, c2⟩ := vr_agg_cells v2
  rw [e1, e2]
  have hq := eqAgg_run (dd := 5) (D := 9994) (fun t sh h => eqOK 5 9994 t sh h) hsh hag c1 c2 h
  have hE : (Op.equal t (.agg xs) (.agg ys)).run C.P w = .ok r w := hq
  refine ⟨.bool (neg ^^ r), w, .inl ?_, Done.same hr (.bool _)⟩
  simp only [Sem.run_bind, run_eqGuard_agg w op t x y xs ys hm, Result.andThen_ok]
  rcases hop with ⟨rfl, rfl⟩ | ⟨rfl, rfl⟩
  · simp [binOp, hE]
  · simp [binOp, hE]
end
end Go.Sh
