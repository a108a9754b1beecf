
import Derived.Laws.StructEq
import Derived.MapKept
import Derived.LoopNIn
import Derived.RangeFuncNested
import Derived.OrdersIn
import Derived.Test.YtcfgikdpokjhpaaGreatB1
namespace Go.Sh
set_option linter.unusedSectionVars false
set_option linter.unusedVariables false
set_option linter.unusedSimpArgs false
set_option linter.unnecessarySimpa false
section
variable {C : Ctx} {ρ : Map} {F : Nat → Prop} {H H' : Heap} {w : World} {e : Env} {a : Act} {s c d : SV}
theorem eqCells_len : ∀ (sh : List LK) (x y : List SV) (r : Bool), eqCells sh x y = some r → x.length = sh.length ∧ y.length = sh.length
  | [], x, y, r, h => by
    unfold eqCells at h
    split at h <;> first | (simp; done) | (simp_all; done)
  | k :: sh, x, y, r, h => by
    unfold eqCells at h
    split at h
    · rename_i h1; cases h1
    · rename_i sh' k1 p1 x' k2 p2 y' h1
      cases h1
      replace h := bif_some h
      simp only [Option.map_eq_some_iff] at h
      obtain ⟨_, r', h2, _⟩ := h
      have := eqCells_len sh x' y' r' h2
      simp [this]
    · rename_i sh' p1 x' p2 y' h1
      cases h1
      simp only [Option.map_eq_some_iff] at h
      obtain ⟨r', h2, _⟩ := h
      have := eqCells_len sh x' y' r' h2
      simp [this]
    · rename_i sh' p1 x' p2 y' h1
      cases h1
      simp only [Option.map_eq_some_iff] at h
      obtain ⟨r', h2, _⟩ := h
      have := eqCells_len sh x' y' r' h2
      simp [this]
    · cases h
theorem eqCells_one {k : LK} {c d : SV} {r : Bool} (h : eqCells [k] [c] [d] = some r) : (∃ q p p', k = .i ∧ c = .int q p ∧ d = .int q p' ∧ r = decide (p = p')) ∨ (∃ p p', k = .b ∧ c = .bool p ∧ d = .bool p' ∧ r = (p == p')) ∨
    (∃ p p', k = .s ∧ c = .str p ∧ d = .str p' ∧ r = decide (p = p')) := by
  unfold eqCells at h
  split at h
  · simp_all
  · rename_i sh q p x q2 p2 y h1 h2 h3
    cases h1; cases h2; cases h3
    replace h := bif_some h
    simp only [Option.map_eq_some_iff] at h
    obtain ⟨hk, r', h3, rfl⟩ := h
    have : r' = true := by simpa [eqCells] using h3.symm
    subst this
    have : q = q2 := by simpa using hk
    subst this
    exact .inl ⟨_, _, _, rfl, rfl, rfl, by simp⟩
  · rename_i sh p x p2 y h1 h2 h3
    cases h1; cases h2; cases h3
    simp only [Option.map_eq_some_iff] at h
    obtain ⟨r', h3, rfl⟩ := h
    have : r' = true := by simpa [eqCells] using h3.symm
    subst this
    exact .inr (.inl ⟨_, _, rfl, rfl, rfl, by simp⟩)
  · rename_i sh p x p2 y h1 h2 h3
    cases h1; cases h2; cases h3
    simp only [Option.map_eq_some_iff] at h
    obtain ⟨r', h3, rfl⟩ := h
    have : r' = true := by simpa [eqCells] using h3.symm
    subst this
    exact .inr (.inr ⟨_, _, rfl, rfl, rfl, by simp⟩)
  · cases h
theorem bif_none' {A : Type} {c : Bool} {x : Option A} {y : A} (h : (bif c then none else x) = some y) : c = false ∧ x = some y := by
  cases c with
  | true => cases h
  | false => exact ⟨rfl, h⟩
theorem eqCells_append : ∀ (s1 s2 : List LK) (x y : List SV) (r : Bool), eqCells (s1 ++ s2) x y = some r →
    ∃ r1 r2, eqCells s1 (x.take s1.length) (y.take s1.length) = some r1 ∧ eqCells s2 (x.drop s1.length) (y.drop s1.length) = some r2 ∧ r = (r1 && r2)
  | [], s2, x, y, r, h => ⟨true, r, by simp [eqCells], by simpa using h, by simp⟩
  | k :: s1, s2, x, y, r, h => by
    simp only [List.cons_append] at h
    unfold eqCells at h
    split at h
    · rename_i h1; cases h1
    · rename_i sh' k1 p1 x' k2 p2 y' h1
      cases h1
      replace h := bif_some h
      simp only [Option.map_eq_some_iff] at h
      obtain ⟨hk, r', h2, rfl⟩ := h
      obtain ⟨r1, r2, h3, h4, rfl⟩ := eqCells_append s1 s2 x' y' r' h2
      exact ⟨decide (p1 = p2) && r1, r2, by simp [eqCells, hk, h3], by simpa using h4, by simp [Bool.and_assoc]⟩
    · rename_i sh' p1 x' p2 y' h1
      cases h1
      simp only [Option.map_eq_some_iff] at h
      obtain ⟨r', h2, rfl⟩ := h
      obtain ⟨r1, r2, h3, h4, rfl⟩ := eqCells_append s1 s2 x' y' r' h2
      exact ⟨(p1 == p2) && r1, r2, by simp [eqCells, h3], by simpa using h4, by simp [Bool.and_assoc]⟩
    · rename_i sh' p1 x' p2 y' h1
      cases h1
      simp only [Option.map_eq_some_iff] at h
      obtain ⟨r', h2, rfl⟩ := h
      obtain ⟨r1, r2, h3, h4, rfl⟩ := eqCells_append s1 s2 x' y' r' h2
      exact ⟨decide (p1 = p2) && r1, r2, by simp [eqCells, h3], by simpa using h4, by simp [Bool.and_assoc]⟩
    · cases h
def EqOK (P : Program) (w : World) (F : Nat → Prop) (ρ : Map) (dd : Nat) (t : TypeId) (sh : List LK) : Prop :=
  ∀ (xs ys : Array Value) (cs ds : List SV) (r : Bool) (o : Nat), CellsR w F ρ xs o cs → CellsR w F ρ ys o ds → eqCells sh cs ds = some r → csz P t = some sh.length →
    ∃ u v, (part t xs o).run P w = .ok u w ∧ (part t ys o).run P w = .ok v w ∧ (Op.equalIn dd t u v).run P w = .ok r w
theorem cells_sub {vs : Array Value} {o i n : Nat} {cs : List SV} (h : CellsR w F ρ vs o cs) : CellsR w F ρ vs (o + i) ((cs.drop i).take n) := by
  intro j c hj
  rw [List.getElem?_take] at hj
  split at hj
  · rw [List.getElem?_drop] at hj
    obtain ⟨v, h1, h2, h3⟩ := h _ c hj
    exact ⟨v, by rw [Nat.add_assoc]; exact h1, h2, h3⟩
  · cases hj
theorem cells_extract {vs : Array Value} {o n : Nat} {cs : List SV} (h : CellsR w F ρ vs o cs) (hn : cs.length ≤ n) : CellsR w F ρ (vs.extract o (o + n)) 0 cs := by
  intro j c hj
  obtain ⟨v, h1, h2, h3⟩ := h j c hj
  have hlt := (List.getElem?_eq_some_iff.1 hj).1
  have hlt' := (Array.getElem?_eq_some_iff.1 h1).1
  refine ⟨v, ?_, h2, h3⟩
  rw [Nat.zero_add, Array.getElem?_extract, if_pos (by omega)]
  exact h1
theorem eqLeaf_int {P : Program} {t : TypeId} {k k2 : IntKind} {p q : Int} {dd : Nat} {q0 : IntKind} (hu : P.underlying t = some (.int q0)) (hk : k = k2) : (Op.equalIn (dd + 1) t (.int k p) (.int k2 q)).run P w = .ok (decide (p = q)) w := by
  subst hk
  simp only [Op.equalIn, Sem.run_bind, run_underlying hu, Result.andThen_ok]
  simp only [if_true, Sem.run_pure]
  congr 1
theorem part_leaf {P : Program} {t : TypeId} {vs : Array Value} {o : Nat} {v : Value} (hag : cag P t = some false) (h : vs[o]? = some v) : (part t vs o).run P w = .ok v w := by
  unfold part
  simp only [Sem.run_bind, run_isAgg' hag, Result.andThen, Bool.false_eq_true, if_false, h]
  rfl
theorem part_agg {P : Program} {t : TypeId} {vs : Array Value} {o n : Nat} (hag : cag P t = some true) (hsz : csz P t = some n) : (part t vs o).run P w = .ok (.agg (vs.extract o (o + n))) w := by
  unfold part
  simp only [Sem.run_bind, run_isAgg' hag, Result.andThen, if_true, run_sizeOf' hsz]
  rfl
def stepSh (P : Program) (dd : Nat) (acc : List LK) (f : Field) : Option (List LK) :=
  bif f.name != "_" && f.offset == acc.length then (cshape P dd f.type).bind fun sh => bif (csz P f.type) == some sh.length then some (acc ++ sh) else none else none
theorem eqFields_run {P : Program} {dd d2 : Nat} (ih : ∀ t sh, cshape P dd t = some sh → EqOK P w F ρ d2 t sh) : ∀ (fs : List Field) (acc sh : List LK) (xs ys : Array Value) (cs ds : List SV) (r : Bool),
    fs.foldlM (stepSh P dd) acc = some sh → ∃ rest, sh = acc ++ rest ∧
    (CellsR w F ρ xs acc.length cs → CellsR w F ρ ys acc.length ds → eqCells rest cs ds = some r → (Op.eqFields d2 xs ys fs).run P w = .ok r w)
  | [], acc, sh, xs, ys, cs, ds, r, h => by
    simp at h
    subst h
    refine ⟨[], by simp, fun hx hy hr => ?_⟩
    have : r = true := by
      unfold eqCells at hr
      split at hr <;> simp_all
    subst this
    rfl
  | f :: fs, acc, sh, xs, ys, cs, ds, r, h => by
    rw [List.foldlM_cons] at h
    simp only [bind, Option.bind_eq_some_iff] at h
    obtain ⟨acc', h1, h2⟩ := h
    unfold stepSh at h1
    replace h1 := bif_some h1
    obtain ⟨hc, h1⟩ := h1
    simp only [Bool.and_eq_true, bne_iff_ne, beq_iff_eq] at hc
    simp only [Option.bind_eq_some_iff] at h1
    obtain ⟨shf, h3, h1⟩ := h1
    replace h1 := bif_some h1
    obtain ⟨h4, h1⟩ := h1
    cases h1
    have h4 : csz P f.type = some shf.length := by simpa using h4
    obtain ⟨rest, hrest, _⟩ := eqFields_run ih fs (acc ++ shf) sh xs ys [] [] true h2
    refine ⟨shf ++ rest, by rw [hrest]; simp, fun hx hy hr => ?_⟩
    obtain ⟨r1, r2, k1, k2, rfl⟩ := eqCells_append _ _ _ _ _ hr
    have hx1 := cells_sub (i := 0) (n := shf.length) hx
    have hy1 := cells_sub (i := 0) (n := shf.length) hy
    simp only [Nat.add_zero, List.drop_zero] at hx1 hy1
    obtain ⟨u, v, g1, g2, g3⟩ := ih f.type shf h3 xs ys _ _ r1 acc.length hx1 hy1 k1 h4
    obtain ⟨rest', hrest', hrec⟩ := eqFields_run ih fs (acc ++ shf) sh xs ys (cs.drop shf.length) (ds.drop shf.length) r2 h2
    have : rest' = rest := List.append_cancel_left (hrest'.symm.trans hrest)
    subst this
    have hx2 : CellsR w F ρ xs (acc ++ shf).length (cs.drop shf.length) := by
      intro j c hj
      rw [List.getElem?_drop] at hj
      obtain ⟨v, q1, q2, q3⟩ := hx _ c hj
      exact ⟨v, by rw [List.length_append, Nat.add_assoc]; exact q1, q2, q3⟩
    have hy2 : CellsR w F ρ ys (acc ++ shf).length (ds.drop shf.length) := by
      intro j c hj
      rw [List.getElem?_drop] at hj
      obtain ⟨v, q1, q2, q3⟩ := hy _ c hj
      exact ⟨v, by rw [List.length_append, Nat.add_assoc]; exact q1, q2, q3⟩
    have := hrec hx2 hy2 k2
    simp only [Op.eqFields, ne_eq, hc.1, not_false_eq_true, if_true, Sem.run_bind, hc.2, g1, g2, g3, Result.andThen_ok]
    cases r1 with
    | true => simpa using this
    | false => simp
theorem eqItems_run {P : Program} {d2 : Nat} {t : TypeId} {sh : List LK} (ih : EqOK P w F ρ d2 t sh) (hsz : csz P t = some sh.length) : ∀ (n i : Nat) (xs ys : Array Value) (cs ds : List SV) (r : Bool),
    CellsR w F ρ xs (i * sh.length) cs → CellsR w F ρ ys (i * sh.length) ds → eqCells (List.replicate n sh).flatten cs ds = some r → (Op.eqItems d2 t sh.length xs ys (List.range' i n)).run P w = .ok r w
  | 0, i, xs, ys, cs, ds, r, hx, hy, hr => by
    have : r = true := by
      simp only [List.replicate_zero, List.flatten_nil] at hr
      unfold eqCells at hr
      split at hr <;> simp_all
    subst this
    rfl
  | n + 1, i, xs, ys, cs, ds, r, hx, hy, hr => by
    rw [List.replicate_succ, List.flatten_cons] at hr
    obtain ⟨r1, r2, k1, k2, rfl⟩ := eqCells_append _ _ _ _ _ hr
    have hx1 := cells_sub (i := 0) (n := sh.length) hx
    have hy1 := cells_sub (i := 0) (n := sh.length) hy
    simp only [Nat.add_zero, List.drop_zero] at hx1 hy1
    obtain ⟨u, v, g1, g2, g3⟩ := ih xs ys _ _ r1 _ hx1 hy1 k1 hsz
    have hx2 : CellsR w F ρ xs ((i + 1) * sh.length) (cs.drop sh.length) := by
      intro j c hj
      rw [List.getElem?_drop] at hj
      obtain ⟨v, q1, q2, q3⟩ := hx _ c hj
      exact ⟨v, by rw [Nat.add_mul, Nat.one_mul, Nat.add_assoc]; exact q1, q2, q3⟩
    have hy2 : CellsR w F ρ ys ((i + 1) * sh.length) (ds.drop sh.length) := by
      intro j c hj
      rw [List.getElem?_drop] at hj
      obtain ⟨v, q1, q2, q3⟩ := hy _ c hj
      exact ⟨v, by rw [Nat.add_mul, Nat.one_mul, Nat.add_assoc]; exact q1, q2, q3⟩
    have := eqItems_run ih hsz n (i + 1) xs ys _ _ r2 hx2 hy2 k2
    simp only [List.range'_succ, Op.eqItems, Sem.run_bind, g1, g2, g3, Result.andThen_ok]
    cases r1 with
    | true => simpa using this
    | false => simp
theorem eqAgg_run {P : Program} {dd D : Nat} {t : TypeId} {sh : List LK} (ih : ∀ t sh, cshape P dd t = some sh → EqOK P w F ρ (D + dd) t sh) (h : cshape P (dd + 1) t = some sh) (hag : cag P t = some true) {xs ys : Array Value} {cs ds : List SV} {r : Bool}
    (hx : CellsR w F ρ xs 0 cs) (hy : CellsR w F ρ ys 0 ds) (hr : eqCells sh cs ds = some r) : (Op.equalIn (D + dd + 1) t (.agg xs) (.agg ys)).run P w = .ok r w := by
  unfold cshape at h
  split at h
  · rename_i hu; simp [cag, hu] at hag
  · rename_i hu; simp [cag, hu] at hag
  · rename_i hu; simp [cag, hu] at hag
  · rename_i fs hu
    replace h := bif_none' h
    obtain ⟨hs, h⟩ := h
    have hf : P.fieldsOf t = fs := by simp [Program.fieldsOf, hu]
    rw [run_equalIn_struct w (D + dd) t xs ys (by rw [hf]; exact hu) hs, hf]
    obtain ⟨rest, h1, h2⟩ := eqFields_run ih fs.toList [] sh xs ys cs ds r h
    simp only [List.nil_append] at h1
    subst h1
    exact h2 hx hy hr
  · rename_i n e hu
    simp only [Option.bind_eq_some_iff] at h
    obtain ⟨she, h1, h⟩ := h
    replace h := bif_some h
    obtain ⟨h2, h⟩ := h
    cases h
    have h2 : csz P e = some she.length := by simpa using h2
    have h3 := h2
    unfold csz at h3
    simp only [Option.map_eq_some_iff] at h3
    obtain ⟨i, hi, hi2⟩ := h3
    have hcells : P.cellsOf e = she.length := by simp [Program.cellsOf, hi, hi2]
    rw [run_equalIn_array w (D + dd) xs ys hu hi, hcells, List.range_eq_range']
    exact eqItems_run (ih e she h1) h2 n 0 xs ys cs ds r (by simpa using hx) (by simpa using hy) hr
  · cases h
theorem eqOK {P : Program} : ∀ (dd : Nat) (D : Nat) (t : TypeId) (sh : List LK), cshape P dd t = some sh → EqOK P w F ρ (D + dd) t sh
  | 0, _, _, _, h => by simp [cshape] at h
  | dd + 1, D, t, sh, h => by
    intro xs ys cs ds r o hx hy hr hsz
    have hlen := eqCells_len sh cs ds r hr
    have leaf : cag P t = some false → ∀ k, sh = [k] → (∀ u v, ∀ c d, VR w F ρ c u → VR w F ρ d v → eqCells [k] [c] [d] = some r → (Op.equalIn (D + dd + 1) t u v).run P w = .ok r w) →
        ∃ u v, (part t xs o).run P w = .ok u w ∧ (part t ys o).run P w = .ok v w ∧ (Op.equalIn (D + dd + 1) t u v).run P w = .ok r w := by
      intro hag k hk hgo
      subst hk
      obtain ⟨c, rfl⟩ : ∃ c, cs = [c] := List.length_eq_one_iff.1 hlen.1
      obtain ⟨d, rfl⟩ : ∃ d, ds = [d] := List.length_eq_one_iff.1 hlen.2
      obtain ⟨u, u1, u2, _⟩ := hx 0 c rfl
      obtain ⟨v, v1, v2, _⟩ := hy 0 d rfl
      exact ⟨u, v, part_leaf hag u1, part_leaf hag v1, hgo u v c d u2 v2 hr⟩
    have agg : cag P t = some true → ∃ u v, (part t xs o).run P w = .ok u w ∧ (part t ys o).run P w = .ok v w ∧ (Op.equalIn (D + dd + 1) t u v).run P w = .ok r w := fun hag =>
      ⟨_, _, part_agg hag hsz, part_agg hag hsz, eqAgg_run (fun t sh h => eqOK dd D t sh h) h hag (cells_extract hx (by omega)) (cells_extract hy (by omega)) hr⟩
    rw [← Nat.add_assoc]
    unfold cshape at h
    split at h
    · rename_i hu
      refine leaf (by simp [cag, hu]) .b (by simpa using h.symm) (fun u v c d hu1 hv1 hr1 => ?_)
      rcases eqCells_one hr1 with ⟨_, _, _, h0, _⟩ | ⟨p, p', _, rfl, rfl, rfl⟩ | ⟨_, _, h0, _⟩
      · cases h0
      · rw [vr_bool hu1, vr_bool hv1, run_equalIn_bool w _ t _ _ hu]
      · cases h0
    · rename_i q hu
      refine leaf (by simp [cag, hu]) .i (by simpa using h.symm) (fun u v c d hu1 hv1 hr1 => ?_)
      rcases eqCells_one hr1 with ⟨q, p, p', _, rfl, rfl, rfl⟩ | ⟨_, _, h0, _⟩ | ⟨_, _, h0, _⟩
      · rw [vr_int hu1, vr_int hv1, eqLeaf_int hu rfl]
      · cases h0
      · cases h0
    · rename_i hu
      refine leaf (by simp [cag, hu]) .s (by simpa using h.symm) (fun u v c d hu1 hv1 hr1 => ?_)
      rcases eqCells_one hr1 with ⟨_, _, _, h0, _⟩ | ⟨_, _, h0, _⟩ | ⟨p, p', _, rfl, rfl, rfl⟩
      · cases h0
      · cases h0
      · rw [vr_str hu1, vr_str hv1, run_equalIn_string w _ t _ _ hu, bytes_eq]
    · rename_i fs hu; exact agg (by simp [cag, hu])
    · rename_i n el hu; exact agg (by simp [cag, hu])
    · cases h
theorem ok_eqAgg {op : BinOp} {neg : Bool} {t : TypeId} {x y : Operand} {x' y' : Opd} {sh : List LK} {cs ds : List SV} {r : Bool} (hop : (op = .eql ∧ neg = false) ∨ (op = .neq ∧ neg = true)) (hx : copd x = some x') (hy : copd y = some y')
    (hm : C.P.eqGuardType C.P.depth t = false) (hsh : cshape C.P 6 t = some sh) (hag : cag C.P t = some true) (hr : HR C ρ F H w) (he : ER w F ρ e a.tmps) (h1 : ev e x' = .agg cs) (h2 : ev e y' = .agg ds) (h : eqCells sh cs ds = some r) :
    OpOK C (do let v ← (do eqGuard op t x y (a.eval x) (a.eval y); binOp op t (a.eval x) (a.eval y)); pure (.value v)) ρ F H w (.bool (neg ^^ r)) H := by
  have v1 := copd_vr hx he
  have v2 := copd_vr hy he
  rw [h1] at v1
  rw [h2] at v2
  obtain ⟨xs, e1, _, c1⟩ := vr_agg_cells v1
  obtain ⟨ys, e2, _, c2⟩ := vr_agg_cells v2
  rw [e1, e2]
  have hq := eqAgg_run (dd := 5) (D := 9994) (fun t sh h => eqOK 5 9994 t sh h) hsh hag c1 c2 h
  have hE : (Op.equal t (.agg xs) (.agg ys)).run C.P w = .ok r w := hq
  refine ⟨.bool (neg ^^ r), w, .inl ?_, Done.same hr (.bool _)⟩
  simp only [Sem.run_bind, run_eqGuard_agg w op t x y xs ys hm, Result.andThen_ok]
  rcases hop with ⟨rfl, rfl⟩ | ⟨rfl, rfl⟩
  · simp [binOp, hE]
  · simp [binOp, hE]
end
end Go.Sh
namespace Go.Sh
set_option linter.unusedSectionVars false
set_option linter.unusedVariables false
set_option linter.unusedSimpArgs false
set_option linter.unnecessarySimpa false
section
variable {C : Ctx} {ρ : Map} {F : Nat → Prop} {H H' : Heap} {w : World} {e : Env} {a : Act} {s c d : SV}
theorem first_len (z m : Nat) (q : Option Addr) (n cap n' cap' : Nat) : Builtin.firstCells z m (.slice q n cap) = Builtin.firstCells z m (.slice q n' cap') := by
  cases q <;> rfl
theorem rd_first (hr : HR C ρ F H w) {z : Nat} (hz : 0 < z) {X : List (List SV)} {v : Value} (hv : VR w F ρ c v) (h : rdL z H c = some X) {m : Nat} (hm : m ≤ X.length) :
    ∃ q cap cells, v = .slice q X.length cap ∧ (Builtin.firstCells z m v).run C.P w = .ok cells w ∧ cells.size = m * z ∧ ∀ ρ1 : Map, SrcR C w F H ρ ρ1 c → RowsR w F ρ1 cells 0 z (X.take m) := by
  have hml : (X.take m).length = m := by simp; omega
  unfold rdL at h
  split at h
  · rename_i z' L f
    have h0 := bif_some h
    obtain ⟨hc, h1⟩ := h0
    have h' : L = X := Option.some.inj h1
    subst h'
    cases hv with
    | lst V hcap hfull hz' hat h1 hv =>
      rename_i q cap
      have hv2 : VR w F ρ (.lst z' (L.take m) false) (.slice q (L.take m).length cap) := by
        refine .lst V (by omega) (fun h => by cases h) (fun i cs hi => hz' i cs ?_) ?_ (fun i j cs c hi hj => h1 i j cs c ?_ hj) (fun i j cs c hi hj => hv i j cs c ?_ hj)
        · rw [List.getElem?_take] at hi; split at hi
          · exact hi
          · cases hi
        · rcases hat with h0 | ⟨B, o, ha, hF, hk⟩
          · left; rw [h0]; simp
          · exact .inr ⟨B, o, ha, hF, fun i j cs c hi hj => hk i j cs c (by
              rw [List.getElem?_take] at hi; split at hi
              · exact hi
              · cases hi) hj⟩
        · rw [List.getElem?_take] at hi; split at hi
          · exact hi
          · cases hi
        · rw [List.getElem?_take] at hi; split at hi
          · exact hi
          · cases hi
      have hrd : rdL z H (.lst z' (L.take m) false) = some (L.take m) := by
        unfold rdL
        simp only [Bool.or_eq_true, beq_iff_eq] at hc
        rcases hc with hc | hc
        · subst hc; simp
        · have : L = [] := by simpa using hc
          subst this; simp
      obtain ⟨q', cap', cells, k0, k1, k2, k3⟩ := rd_run hr hz hv2 hrd
      rw [hml] at k1 k2
      refine ⟨q, cap, cells, rfl, ?_, k2, fun ρ1 _ => k3 ρ1 (fun b ver off n l x hh => by cases hh)⟩
      rw [first_len z m q L.length cap m cap]
      exact k1 w rfl
  · rename_i b ver off n
    split at h
    · rename_i ver' z' L ex hb
      have h0 := bif_some h
      obtain ⟨hc, h1⟩ := h0
      simp only [Bool.and_eq_true, beq_iff_eq, decide_eq_true_eq] at hc
      obtain ⟨⟨rfl, rfl⟩, hle⟩ := hc
      have hX : (L.drop off).take n = X := Option.some.inj h1
      have hXl : X.length = n := by rw [← hX]; simp; omega
      obtain ⟨l, z2, L2, ex2, hl, hb2, hbr, g1, g2⟩ := cur_slc hr (by unfold cur; simp [hb]) hv
      rw [hb] at hb2; cases hb2
      obtain ⟨q, cap, hve⟩ : ∃ q cap, v = .slice q n cap := by
        cases hvi : l.virt with
        | true => obtain ⟨q, p1, p2, p3⟩ := g1 hvi; exact ⟨q, 0, by rw [p1, p3]⟩
        | false => obtain ⟨p1, q, p2, p3⟩ := g2 hvi; exact ⟨q, _, p2⟩
      have hv2 : VR w F ρ (.slc b ver off m) (.slice q m cap) := by
        refine .slc hl (Nat.le_of_eq hbr.2.1.symm) rfl (fun _ => ⟨fun hvi => ?_, fun hvi => ?_⟩)
        · obtain ⟨q', p1, p2, p3⟩ := g1 hvi
          rw [p1] at hve
          have hm0 : m = 0 := by omega
          injection hve with e1 e2 e3
          rw [hm0, ← e1, ← e3]
          exact ⟨q', rfl, p2, rfl⟩
        · obtain ⟨p1, q', p2, p3⟩ := g2 hvi
          rw [p2] at hve
          injection hve with e1 e2 e3
          rw [← e1, ← e3]
          exact ⟨by omega, q', rfl, p3⟩
      have hrd : rdL z' H (.slc b ver off m) = some (X.take m) := by
        have hlm : off + m ≤ L.length := by omega
        unfold rdL
        simp [hb, hlm]
        rw [← hX, List.take_take, Nat.min_eq_left (by omega)]
      obtain ⟨q', cap', cells, k0, k1, k2, k3⟩ := rd_run hr hz hv2 hrd
      rw [hml] at k1 k2
      subst hve
      refine ⟨q, cap, cells, by rw [hXl], ?_, k2, fun ρ1 hs => k3 ρ1 (fun b1 ver1 off1 n1 l1 x1 hh h2 h3 h4 => by cases hh; exact hs _ _ _ _ _ _ rfl h2 h3 h4)⟩
      rw [first_len z' m q n cap m cap]
      exact k1 w rfl
    · cases h
  · cases h
theorem store_rows (hr : HR C ρ F H w) {b v off z : Nat} {L X : List (List SV)} {ex : Bool} {l : Loc} {cells : Array Value} (hb : hget H b = some (.arr v z L ex)) (hl : ρ b = some l) (hbr : BR C w F ρ l (.arr v z L ex))
    (hvi : l.virt = false) (hfit : off + X.length ≤ L.length) (hsz : cells.size = X.length * z) (hrow : ∀ ρ1 : Map, Cutd ρ ρ1 (SV.refs.refsL X.flatten) → RowsR w F ρ1 cells 0 z X) {refs : Nat} (hrefs : SV.refs.refsL X.flatten ≤ refs)
    (hH : hset H b (.arr v z (L.take off ++ X ++ L.drop (off + X.length)) ex) refs = some H') :
    ∃ w', (storeCells ⟨l.blk, l.base + off * z, none⟩ cells.toList).run C.P w = .ok () w' ∧ HR C ρ F H' w' ∧ Ext C ρ F H w ρ F H' w' := by
  obtain ⟨h1, h2, h3, h4, h5, h6, h7, h8⟩ := id hbr
  obtain ⟨vs, ty', fz, g1, g2, g3, g4⟩ := h8 hvi
  have hm : (off + X.length) * z ≤ l.cap * z := Nat.mul_le_mul_right z (by omega)
  rw [Nat.add_mul] at hm
  have hsz' : (spl vs (l.base + off * z) cells.toList).size = vs.size := spl_size (by simp; omega)
  have hlt : l.blk < w.heap.size := (Array.getElem?_eq_some_iff.1 g1).1
  have hst := run_storeCells_spl (P := C.P) l.blk (l.base + off * z) ty' fz cells.toList 0 vs w g1 g2 (by simp; omega) (fun x hx => rows_ok (hrow ρ (.inl rfl)) hsz x hx)
  have hlen : (L.take off ++ X ++ L.drop (off + X.length)).length = L.length := by simp; omega
  have hk : Keeps F w (setB w l.blk (spl vs (l.base + off * z) cells.toList) ty' fz) := setB_keeps hr hb rfl hl hvi
  obtain ⟨r1, r2⟩ := set_cells (vs' := spl vs (l.base + off * z) cells.toList) (ty := ty') (fz := fz) hr hH hb rfl hl hvi (fun _ ρ1 hρ1 hbr1 => by
    obtain ⟨_, _, _, _, _, _, _, q8⟩ := hbr1
    obtain ⟨vs2, ty2, fz2, m1, m2, m3, m4⟩ := q8 hvi
    rw [g1] at m1; cases m1
    have hcut : Cutd ρ ρ1 (SV.refs.refsL X.flatten) := by
      rcases hρ1 with h | ⟨N, hN, h⟩
      · exact .inl h
      · exact .inr ⟨N, by omega, h⟩
    have := rows_spl (xs := cells) h4 m4 (hrow ρ1 hcut) hsz (by omega) (show off + X.length ≤ l.cap by omega) h5 g3
    exact ⟨h1, h2, h3, this.1, by rw [hlen]; exact h5, by rw [hlen]; exact h6, h7, fun _ => ⟨_, ty', fz, setB_same hlt, by rw [hsz']; exact g2, by rw [hsz']; exact g3, fun j cs hj => (this.2 j cs hj).mono hk (fun _ h => h) (Map.le_refl _)⟩⟩)
  exact ⟨_, hst, r1, r2⟩
theorem set_none (hr : HR C ρ F H w) {b v z : Nat} {L : List (List SV)} {ex : Bool} {l : Loc} {refs : Nat} (hb : hget H b = some (.arr v z L ex)) (hl : ρ b = some l) (hbr : BR C w F ρ l (.arr v z L ex))
    (hH : hset H b (.arr v z L ex) refs = some H') : HR C ρ F H' w ∧ Ext C ρ F H w ρ F H' w := by
  obtain ⟨p1, p2⟩ := hr.set (w' := w) (l' := l) hH hb rfl hl (Nat.le_refl _) (fun _ _ _ => rfl) (fun h => .inl ⟨h, rfl⟩) (.inl rfl) (fun _ => by rw [put_self hl]; exact hbr) (fun _ N _ _ h => by rw [put_self hl]; exact h)
  rw [put_self hl] at p1 p2
  exact ⟨p1, p2⟩
theorem refsL_take (X : List (List SV)) (m : Nat) : SV.refs.refsL (X.take m).flatten ≤ SV.refs.refsL X.flatten := by
  have app : ∀ (a b : List SV), SV.refs.refsL a ≤ SV.refs.refsL (a ++ b) ∧ SV.refs.refsL b ≤ SV.refs.refsL (a ++ b) := by
    intro a b
    induction a with
    | nil => simp [SV.refs.refsL]
    | cons x r ih => simp only [List.cons_append, SV.refs.refsL]; omega
  have := (app (X.take m).flatten (X.drop m).flatten).1
  rwa [← List.flatten_append, List.take_append_drop] at this
theorem ok_copy {ats : Array TypeId} {t el ty : TypeId} {z : Nat} (h0 : ats[0]? = some t) (hu : C.P.underlying t = some (.slice el)) (hsz : csz C.P el = some z) (hz : 0 < z) (hr : HR C ρ F H w) {X : List (List SV)} {dv xv : Value}
    (hdv : VR w F ρ d dv) (hxv : VR w F ρ c xv) (hX : rdL z H c = some X) (h : scopy z H X d = some (s, H')) : ∃ val w', (Builtin.copy_ ats ty #[dv, xv]).run C.P w = .ok val w' ∧ Done C ρ F H w s H' val w' := by
  unfold scopy at h
  split at h
  · rename_i b v off n
    split at h
    · rename_i v' z' L ex hg
      replace h := bif_some h
      obtain ⟨hc, h⟩ := h
      simp only [Bool.and_eq_true, beq_iff_eq, decide_eq_true_eq] at hc
      obtain ⟨⟨rfl, rfl⟩, hle⟩ := hc
      simp only [Option.map_eq_some_iff, Prod.mk.injEq] at h
      obtain ⟨H1, hH, rfl, rfl⟩ := h
      obtain ⟨l, z2, L2, ex2, hl, hb2, hbr, g1, g2⟩ := cur_slc hr (by unfold cur; simp [hg]) hdv
      rw [hg] at hb2; cases hb2
      obtain ⟨base, sc, hse⟩ : ∃ base sc, dv = .slice base n sc := by
        cases hvi : l.virt with
        | true => obtain ⟨q, p1, p2, p3⟩ := g1 hvi; exact ⟨q, 0, by rw [p1, p3]⟩
        | false => obtain ⟨p1, q, p2, p3⟩ := g2 hvi; exact ⟨q, _, p2⟩
      obtain ⟨q, cap, cells, rfl, k1, k2, k3⟩ := rd_first (m := min X.length n) hr hz hxv hX (Nat.min_le_left _ _)
      have hXt : X.take n = X.take (min X.length n) := by
        rcases Nat.le_total X.length n with h | h
        · rw [Nat.min_eq_left h, List.take_of_length_le h, List.take_length]
        · rw [Nat.min_eq_right h]
      have hlen : (X.take n).length = min X.length n := by rw [List.length_take, Nat.min_comm]
      have hrun : ∀ w', (match base with | some a => storeCells a cells.toList | none => pure ()).run C.P w = .ok () w' → (Builtin.copy_ ats ty #[dv, .slice q X.length cap]).run C.P w = .ok (.int .i64 (min X.length n : Nat)) w' := by
        intro w' hw
        subst hse
        unfold Builtin.copy_
        simp only [h0, List.getElem?_toArray, List.getElem?_cons_zero, List.getElem?_cons_succ, Sem.run_bind, run_underlying hu, Result.andThen, run_sizeOf' hsz, Builtin.lenOf]
        simp only [pure, Sem.run, Result.andThen, Sem.run_bind, run_sizeOf' hsz]
        rw [show Nat.min X.length n = min X.length n from rfl, k1]
        cases base with
        | none => simp only [pure, Sem.run, Result.ok.injEq, true_and] at hw; subst hw; rfl
        | some ad => simp only [Sem.run_bind, hw, Result.andThen]; rfl
      by_cases hm : min X.length n = 0
      · have hc0 : cells.toList = [] := by
          have : cells.size = 0 := by rw [k2, hm]; simp
          simpa using this
        have hH' : L.take off ++ X.take n ++ L.drop (off + min X.length n) = L := by
          rw [hXt, hm]; simp
        rw [hH'] at hH
        obtain ⟨p1, p2⟩ := set_none hr hg hl hbr hH
        exact ⟨_, w, hrun w (by cases base <;> simp [hc0, storeCells, pure, Sem.run]), ρ, F, .int _ _, p1, p2⟩
      · have hvi : l.virt = false := by
          cases hvi : l.virt with
          | true => obtain ⟨q, p1, p2, p3⟩ := g1 hvi; omega
          | false => rfl
        obtain ⟨p1, q', p2, p3⟩ := g2 hvi
        rw [hse] at p2
        cases p2
        have hcap := hbr.2.2.2.2.1
        have := p3 (by omega)
        subst this
        have hz3 := hbr.2.2.1
        obtain ⟨w', e1, e2, e3⟩ := store_rows (X := X.take n) (cells := cells) (off := off) hr hg hl hbr hvi (by rw [hlen]; omega) (by rw [hlen]; exact k2)
          (fun ρ1 hρ1 => rows_cutd (by rw [hXt]; exact k3 ρ (srcR_self hr)) hρ1) (refs := SV.refs.refsL X.flatten) (refsL_take X n) (by rw [hlen]; exact hH)
        exact ⟨_, w', hrun w' (by rw [hz3]; exact e1), ρ, F, .int _ _, e2, e3⟩
    · cases h
  · cases h
theorem refsL_rep {z : List SV} (hz : SV.refs.refsL z = 0) : ∀ n, SV.refs.refsL (List.replicate n z).flatten = 0
  | 0 => by simp [SV.refs.refsL]
  | n + 1 => by
    have app : ∀ (a b : List SV), SV.refs.refsL a = 0 → SV.refs.refsL b = 0 → SV.refs.refsL (a ++ b) = 0 := by
      intro a b h1 h2
      induction a with
      | nil => exact h2
      | cons x r ih => simp only [List.cons_append, SV.refs.refsL] at h1 ⊢; have := ih (by omega); omega
    rw [List.replicate_succ, List.flatten_cons]
    exact app _ _ hz (refsL_rep hz n)
theorem ok_clear {ats : Array TypeId} {t el ty : TypeId} {z : List SV} (h0 : ats[0]? = some t) (hu : C.P.underlying t = some (.slice el)) (hcz : czero C.P el = some z) (hz : 0 < z.length) (hr : HR C ρ F H w) {xv : Value}
    (hxv : VR w F ρ c xv) (h : sclear z.length z H c = some (s, H')) : ∃ val w', (Builtin.clear_ ats ty #[xv]).run C.P w = .ok val w' ∧ Done C ρ F H w s H' val w' := by
  unfold sclear at h
  split at h
  · rename_i z0 f
    simp only [Option.some.injEq, Prod.mk.injEq] at h
    obtain ⟨rfl, rfl⟩ := h
    cases hxv with
    | lst V hcap hfull hz' hat h1 hv =>
      rename_i q cap
      refine ⟨.tuple #[], w, ?_, Done.same hr (.undef _)⟩
      unfold Builtin.clear_
      simp only [h0, List.getElem?_toArray, List.getElem?_cons_zero, Sem.run_bind, run_underlying hu, Result.andThen]
      cases q <;> rfl
  · rename_i b v off n
    split at h
    · rename_i v' z' L ex hg
      replace h := bif_some h
      obtain ⟨hc, h⟩ := h
      simp only [Bool.and_eq_true, beq_iff_eq, decide_eq_true_eq] at hc
      obtain ⟨⟨rfl, rfl⟩, hle⟩ := hc
      simp only [Option.map_eq_some_iff, Prod.mk.injEq] at h
      obtain ⟨H1, hH, rfl, rfl⟩ := h
      obtain ⟨l, z2, L2, ex2, hl, hb2, hbr, g1, g2⟩ := cur_slc hr (by unfold cur; simp [hg]) hxv
      rw [hg] at hb2; cases hb2
      by_cases hn : n = 0
      · subst hn
        obtain ⟨base, sc, hse⟩ : ∃ base sc, xv = .slice base 0 sc := by
          cases hvi : l.virt with
          | true => obtain ⟨q, p1, p2, p3⟩ := g1 hvi; exact ⟨q, 0, p1⟩
          | false => obtain ⟨p1, q, p2, p3⟩ := g2 hvi; exact ⟨q, _, p2⟩
        have hH' : L.take off ++ List.replicate 0 z ++ L.drop (off + 0) = L := by simp
        rw [hH'] at hH
        obtain ⟨p1, p2⟩ := set_none hr hg hl hbr hH
        refine ⟨.tuple #[], w, ?_, ρ, F, .undef _, p1, p2⟩
        subst hse
        unfold Builtin.clear_
        simp only [h0, List.getElem?_toArray, List.getElem?_cons_zero, Sem.run_bind, run_underlying hu, Result.andThen]
        cases base <;> rfl
      · have hvi : l.virt = false := by
          cases hvi : l.virt with
          | true => obtain ⟨q, p1, p2, p3⟩ := g1 hvi; omega
          | false => rfl
        obtain ⟨p1, q', p2, p3⟩ := g2 hvi
        subst p2
        have hcap := hbr.2.2.2.2.1
        have := p3 (by omega)
        subst this
        have hz3 := hbr.2.2.1
        obtain ⟨i, zv, hi, hzv, k1, k2⟩ := czero_vr (w := w) (F := F) (ρ := ρ) hcz
        have hzsz : (zeroRow zv.cells (n * z.length)).size = n * z.length := by simp [zeroRow]
        have hrow : ∀ ρ1 : Map, RowsR w F ρ1 (zeroRow zv.cells (n * z.length)) 0 z.length (List.replicate n z) := fun ρ1 => by
          obtain ⟨i', zv', hi', hzv', k1', k2'⟩ := czero_vr (w := w) (F := F) (ρ := ρ1) hcz
          rw [hi] at hi'; cases hi'
          rw [hzv] at hzv'; cases hzv'
          exact zeroRow_rows rfl k1' k2' hz
        have hrefs : SV.refs.refsL z = 0 := by
          have key : ∀ (l : List SV), (∀ x ∈ l, x.refs = 0) → SV.refs.refsL l = 0 := by
            intro l
            induction l with
            | nil => intro _; simp [SV.refs.refsL]
            | cons x r ih => intro h; simp only [SV.refs.refsL, h x (by simp), ih (fun y hy => h y (by simp [hy]))]; rfl
          refine key z (fun x hx => ?_)
          obtain ⟨j, hj⟩ := List.mem_iff_getElem?.1 hx
          obtain ⟨i', zv', hi', hzv', k1', k2'⟩ := czero_vr (w := w) (F := F) (ρ := noMap) hcz
          obtain ⟨v', q1, q2, q3⟩ := k2' j x hj
          cases x with
          | ptr => cases q2 with | ptr h _ _ _ => cases h
          | slc => cases q2 with | slc h _ _ _ => cases h
          | yld => cases q2 with | yld h ha => cases h
          | mp => cases q2 with | mp h ha => cases h
          | fn f cs =>
            exfalso
            unfold czero at hcz
            rw [hi] at hcz
            simp only [hzv, Option.bind_eq_some_iff] at hcz
            obtain ⟨z', hz1, hz2⟩ := hcz
            replace hz2 := bif_some hz2
            obtain ⟨_, hz2⟩ := hz2
            cases hz2
            have : ∀ (l : List Value) (r : List SV), allS (l.map (cval 1)) = some r → ∀ x ∈ r, ∃ v ∈ l, cval 1 v = some x := by
              intro l
              induction l with
              | nil => intro r h; simp [allS] at h; subst h; simp
              | cons a l ih =>
                intro r h
                simp only [List.map_cons] at h
                cases ha : cval 1 a with
                | none => rw [ha] at h; simp [allS] at h
                | some y =>
                  rw [ha] at h
                  simp only [allS, Option.map_eq_some_iff] at h
                  obtain ⟨r', h1, rfl⟩ := h
                  intro x hx
                  rcases List.mem_cons.1 hx with rfl | hx
                  · exact ⟨a, by simp, ha⟩
                  · obtain ⟨v, h2, h3⟩ := ih r' h1 x hx
                    exact ⟨v, by simp [h2], h3⟩
            obtain ⟨v, _, hv⟩ := this _ _ hz1 _ hx
            unfold cval at hv
            split at hv <;> first | (cases hv; done) | (simp [Option.bind_eq_some_iff, allS, cond_eq_ite] at hv; done) | skip
            all_goals (simp only [Option.bind_eq_some_iff] at hv; obtain ⟨cs', _, hv⟩ := hv; replace hv := bif_some hv; cases hv.2)
          | bfn f cs =>
            exfalso
            unfold czero at hcz
            rw [hi] at hcz
            simp only [hzv, Option.bind_eq_some_iff] at hcz
            obtain ⟨z', hz1, hz2⟩ := hcz
            replace hz2 := bif_some hz2
            obtain ⟨_, hz2⟩ := hz2
            cases hz2
            have : ∀ (l : List Value) (r : List SV), allS (l.map (cval 1)) = some r → ∀ x ∈ r, ∃ v ∈ l, cval 1 v = some x := by
              intro l
              induction l with
              | nil => intro r h; simp [allS] at h; subst h; simp
              | cons a l ih =>
                intro r h
                simp only [List.map_cons] at h
                cases ha : cval 1 a with
                | none => rw [ha] at h; simp [allS] at h
                | some y =>
                  rw [ha] at h
                  simp only [allS, Option.map_eq_some_iff] at h
                  obtain ⟨r', h1, rfl⟩ := h
                  intro x hx
                  rcases List.mem_cons.1 hx with rfl | hx
                  · exact ⟨a, by simp, ha⟩
                  · obtain ⟨v, h2, h3⟩ := ih r' h1 x hx
                    exact ⟨v, by simp [h2], h3⟩
            obtain ⟨v, _, hv⟩ := this _ _ hz1 _ hx
            unfold cval at hv
            split at hv <;> first | (cases hv; done) | (simp [Option.bind_eq_some_iff, allS, cond_eq_ite] at hv; done) | skip
            all_goals (simp only [Option.bind_eq_some_iff] at hv; obtain ⟨cs', _, hv⟩ := hv; replace hv := bif_some hv; cases hv.2)
          | agg => simp [SV.ok1] at q3
          | tup => simp [SV.ok1] at q3
          | _ => simp [SV.refs]
        have hrefs0 := refsL_rep hrefs n
        obtain ⟨w', e1, e2, e3⟩ := store_rows (X := List.replicate n z) (cells := zeroRow zv.cells (n * z.length)) (off := off) hr hg hl hbr hvi (by simpa using hle) (by simpa using hzsz)
          (fun ρ1 _ => hrow ρ1) (refs := 0) (Nat.le_of_eq hrefs0) (by simpa using hH)
        refine ⟨.tuple #[], w', ?_, ρ, F, .undef _, e2, e3⟩
        unfold Builtin.clear_
        simp only [h0, List.getElem?_toArray, List.getElem?_cons_zero, Sem.run_bind, run_underlying hu, Result.andThen]
        obtain ⟨m, rfl⟩ : ∃ m, n = m + 1 := ⟨n - 1, by omega⟩
        simp only [Sem.run_bind, run_zeroValue' hi hzv, Result.andThen]
        have hzc : Builtin.zeroCells zv.cells (m + 1) = zeroRow zv.cells ((m + 1) * z.length) := by
          unfold Builtin.zeroCells zeroRow; rw [k1]
        rw [hzc]
        rw [hz3] 
        rw [e1]
        rfl
    · cases h
  · cases h
end
end Go.Sh
namespace Go.Sh
set_option linter.unusedSectionVars false
set_option linter.unusedVariables false
set_option linter.unusedSimpArgs false
set_option linter.unnecessarySimpa false
section
variable {C : Ctx} {ρ : Map} {F : Nat → Prop} {H H' : Heap} {w : World} {e : Env} {a : Act} {s c d : SV}
theorem bytes_cells : ∀ (X : List (List SV)) (l : List UInt8) (cells : List Value), toBytes X = some l → cells.length = X.length → (∀ (i : Nat) cs, X[i]? = some cs → ∃ v, cells[i]? = some v ∧ ∀ c, cs = [c] → VR w F ρ c v) →
    ∃ ns : List Int, cells = ns.map (fun n => Value.int .u8 n) ∧ l = ns.map (fun n => UInt8.ofNat n.toNat)
  | [], l, cells, h, hn, _ => by
    simp [toBytes] at h; subst h
    have : cells = [] := List.eq_nil_of_length_eq_zero (by simpa using hn)
    subst this
    exact ⟨[], rfl, rfl⟩
  | x :: X, l, [], h, hn, _ => by simp at hn
  | x :: X, l, v :: cells, h, hn, hv => by
    unfold toBytes at h
    split at h
    · cases ‹x :: X = []›
    · rename_i n r heq
      cases heq
      simp only [Option.map_eq_some_iff] at h
      obtain ⟨l', h, rfl⟩ := h
      obtain ⟨v', h1, h2⟩ := hv 0 _ rfl
      simp at h1; subst h1
      have h3 := vr_int (h2 _ rfl)
      subst h3
      obtain ⟨ns, rfl, rfl⟩ := bytes_cells X l' cells h (by simpa using hn) (fun i cs hi => hv (i + 1) cs (by simpa using hi))
      exact ⟨n :: ns, rfl, rfl⟩
    · cases h
theorem bytes_loop2 {P : Program} (f : Value → ByteArray → Sem (ForInStep ByteArray)) (hf : ∀ n s, f (.int .u8 n) s = pure (.yield (s.push (UInt8.ofNat n.toNat)))) (w : World) : ∀ (ns : List Int) (s : ByteArray),
    (forIn (ns.map (fun n => Value.int .u8 n)) s f : Sem ByteArray).run P w = .ok ⟨s.data ++ (ns.map (fun n => UInt8.ofNat n.toNat)).toArray⟩ w
  | [], s => by
    simp only [List.map_nil, List.forIn_nil]
    show Result.ok s w = _
    simp
  | b :: l, s => by
    simp only [List.map_cons, List.forIn_cons, Sem.run_bind, hf, Sem.run_pure, Result.andThen]
    rw [bytes_loop2 f hf w l]
    congr 1
    cases s
    simp [ByteArray.push]
theorem ok_convBS {sr ds el : TypeId} {x : Operand} {y : Opd} (hx : copd x = some y) (hs : C.P.underlying sr = some (.slice el)) (h8 : C.P.underlying el = some (.int .u8)) (hd : C.P.underlying ds = some .string) (hr : HR C ρ F H w) (he : ER w F ρ e a.tmps)
    {L : List (List SV)} {l : List UInt8} (h : rdL 1 H (ev e y) = some L) (hl : toBytes L = some l) : OpOK C (do pure (.value (← convert sr ds (a.eval x)))) ρ F H w (.str ⟨l.toArray⟩) H := by
  have h1 := copd_vr hx he
  obtain ⟨q, cap, cells, hv, k1, k2, k3⟩ := rd_run hr (by omega) h1 h
  refine OpOK.val hr (val := .string ⟨l.toArray⟩) ?_ (.str _)
  rw [hv] at k1 ⊢
  obtain ⟨ns, e1, e2⟩ := bytes_cells (w := w) (F := F) (ρ := ρ) L l cells.toList hl (by simpa using k2) (fun i cs hi => by
    have hrow := k3 ρ (srcR_self hr)
    have hlen := hrow.1 i cs hi
    match cs, hlen with
    | [c], _ =>
      obtain ⟨v, p1, p2, _⟩ := hrow.2 i _ hi 0 c rfl
      refine ⟨v, by simpa using p1, fun c' hc => by cases hc; exact p2⟩)
  unfold convert
  simp only [Sem.run_bind, run_underlying hs, run_underlying hd, Result.andThen, run_underlying h8]
  have h2 := k1 w rfl
  cases q with
  | none =>
    simp only [Builtin.firstCells, Sem.run_pure, Result.ok.injEq] at h2
    obtain ⟨rfl, _⟩ := h2
    cases ns with
    | nil => subst e2; rfl
    | cons n ns => simp at e1
  | some q =>
    simp only [Builtin.firstCells, Nat.mul_one] at h2
    subst e2
    have e3 : cells = (ns.map (fun n => Value.int .u8 n)).toArray := by rw [← e1]
    subst e3
    simp only [Conv.bytesToString, Sem.run_bind, h2, Result.andThen, List.forIn_toArray]
    rw [bytes_loop2 _ (fun _ _ => rfl)]
    simp [Sem.run_pure]
theorem modify_push {A : Type} (h : Array A) (o : A) (f : A → A) : (h.push o).modify h.size f = h.push (f o) := by
  apply Array.ext_getElem?
  intro i
  rw [Array.getElem?_modify, Array.getElem?_push, Array.getElem?_push]
  by_cases hi : h.size = i
  · subst hi; simp
  · rw [if_neg hi, if_neg (fun e => hi e.symm), if_neg (fun e => hi e.symm)]
theorem push_arrZ (hr : HR C ρ F H w) {L : List (List SV)} {z cap : Nat} {ex : Bool} {vs : Array Value} {ty : TypeId} {fz : Nat × Nat} {w' : World} (hw : w'.heap = w.heap.push (.cells vs ty fz)) (hfz : Thawed fz vs.size) (hcap : L.length ≤ cap) (hex : ex = true → cap = L.length)
    (hsz : cap * z ≤ vs.size) (hc : RowsR w F ρ vs 0 z L) (n : Nat) (hn : n ≤ L.length) (hout : w'.os = w.os ∧ w'.output = w.output := by exact ⟨rfl, rfl⟩) :
    Done C ρ F H w (.slc H.bl.length 0 0 n) (hnew H (.arr 0 z L ex)) (.slice (some ⟨w.heap.size, 0, none⟩) n cap) w' := by
  let l : Loc := { blk := w.heap.size, base := 0, cap := cap, esz := z, ver := 0, virt := false, arr := true }
  have hh : ∀ B, B < w.heap.size → w'.heap[B]? = w.heap[B]? := fun B hB => by
    rw [hw]; simp [Array.getElem?_push, Nat.ne_of_lt hB]
  have hk : Keeps F w w' := fun B hB => hh B (hr.fro B hB)
  have hle : ρ.le (ρ.put H.bl.length l) := fun b l' h => ⟨l', by rw [Map.put_other _ _ (Nat.ne_of_lt (hr.dom b l' h))]; exact h, .inl rfl⟩
  have hp := hr.push (w' := w') (by rw [hw]; simp) hh (.arr 0 z L ex) l (fun _ => ⟨Nat.le_refl _, by rw [hw]; simp [l]⟩)
    ⟨rfl, rfl, rfl, hc.1, hcap, hex, (fun h => by cases h), fun _ => ⟨vs, ty, fz, by rw [hw]; simp [l], hfz, by simpa [l] using hsz, fun i cs hi => by
      have := hc.2 i cs hi
      exact this.mono hk (fun _ h => h) hle⟩⟩ hout
  exact ⟨_, F, .slc (l := l) (Map.put_same _ _ _) (Nat.le_refl _) rfl (fun _ => ⟨(fun h => by cases h), fun _ => ⟨by simp [l]; omega, _, rfl, fun _ => by simp [l]⟩⟩), hp.1, hp.2⟩
theorem ok_convSB {sr ds el : TypeId} {x : Operand} {y : Opd} (hx : copd x = some y) (hs : C.P.underlying sr = some .string) (h8 : C.P.underlying el = some (.int .u8)) (hd : C.P.underlying ds = some (.slice el)) (hr : HR C ρ F H w) (he : ER w F ρ e a.tmps)
    {t : ByteArray} (h : ev e y = .str t) : ∃ val w', (convert sr ds (a.eval x)).run C.P w = .ok val w' ∧ Done C ρ F H w (.slc H.bl.length 0 0 t.size) (hnew H (.arr 0 1 (bytesL t) false)) val w' := by
  have h1 := copd_vr hx he
  rw [h] at h1
  rw [vr_str h1]
  have hl : (bytesL t).length = t.size := by unfold bytesL; rw [List.length_map, Array.length_toList]; rfl
  obtain ⟨cap, hcp⟩ : ∃ cap, (Question.appendCap t.size 0 el).cut (w.tape w.drawn (Question.appendCap t.size 0 el)) = cap := ⟨_, rfl⟩
  have hcap : t.size ≤ cap := by rw [← hcp]; exact Nat.le_add_right _ _
  obtain ⟨elems, hel⟩ : ∃ elems : Array Value, t.data.map (fun b => Value.int .u8 b.toNat) = elems := ⟨_, rfl⟩
  have hes : elems.size = t.size := by rw [← hel, Array.size_map]; rfl
  obtain ⟨cells, hce⟩ : ∃ cells, elems ++ Array.replicate (cap - t.size) (Value.int .u8 0) = cells := ⟨_, rfl⟩
  have hcs : cells.size = cap := by rw [← hce, Array.size_append, hes, Array.size_replicate]; omega
  refine ⟨.slice (some ⟨w.heap.size, 0, none⟩) t.size cap, { w with heap := w.heap.push (.cells cells el (cap, cap + 1)), drawn := w.drawn + 1 }, ?_, push_arrZ hr (vs := cells) (ty := el) (fz := (cap, cap + 1)) rfl ?_ (by rw [hl]; exact hcap) (fun h => by cases h) (by rw [hcs, Nat.mul_one]; exact Nat.le_refl _) ⟨?_, ?_⟩ t.size (by rw [hl]; exact Nat.le_refl _)⟩
  · unfold convert
    simp only [Sem.run_bind, run_underlying hs, run_underlying hd, Result.andThen, run_underlying h8]
    unfold Conv.stringToBytes
    have r1 : (choose (.appendCap t.size 0 el)).run C.P w = .ok cap { w with drawn := w.drawn + 1 } := by rw [← hcp]; rfl
    have r2 : ∀ (w : World) (cs : Array Value), (newRow el cs).run C.P w = .ok ⟨w.heap.size, 0, none⟩ { w with heap := w.heap.push (.cells cs el) } := fun _ _ => rfl
    have r3 : (markStringish ⟨w.heap.size, 0, none⟩).run C.P { w with heap := w.heap.push (.cells cells el), drawn := w.drawn + 1 } = .ok () { w with heap := w.heap.push (.cells cells el (cap, cap + 1)), drawn := w.drawn + 1 } := by
      have e1 : World.shape? { w with heap := w.heap.push (.cells cells el), drawn := w.drawn + 1 } w.heap.size = some (el, cap) := by
        unfold World.shape?
        simp only [Array.getElem?_push_size, hcs]
      have e2 : World.freeze { w with heap := w.heap.push (.cells cells el), drawn := w.drawn + 1 } ⟨w.heap.size, cap, none⟩ 1 = { w with heap := w.heap.push (.cells cells el (cap, cap + 1)), drawn := w.drawn + 1 } := by
        unfold World.freeze
        rw [if_neg (by decide)]
        simp only [modify_push]
        rfl
      show (match World.shape? { w with heap := w.heap.push (.cells cells el), drawn := w.drawn + 1 } w.heap.size with
        | some (_, n) => freeze ⟨w.heap.size, n, none⟩ 1
        | _ => pure () : Sem Unit).run C.P _ = _
      rw [e1]
      show Result.ok () (World.freeze _ _ _) = _
      rw [e2]
    simp only [Sem.run_bind, r1, r2, Result.andThen, hel, hce, r3]
    rfl
  · intro o ho
    rw [hcs] at ho
    simp only [Bool.and_eq_false_iff, decide_eq_false_iff_not]
    left; omega
  · intro i cs hi
    simp only [bytesL, List.getElem?_map, Option.map_eq_some_iff] at hi
    obtain ⟨b, _, rfl⟩ := hi
    rfl
  · intro i cs hi j c hj
    simp only [bytesL, List.getElem?_map, Option.map_eq_some_iff] at hi
    obtain ⟨b, hb, rfl⟩ := hi
    have hj0 : j = 0 := by
      cases j with
      | zero => rfl
      | succ j => simp at hj
    subst hj0
    simp only [List.getElem?_cons_zero, Option.some.injEq] at hj
    subst hj
    have hbi : t.data[i]? = some b := by simpa using hb
    refine ⟨.int .u8 b.toNat, ?_, .int _ _, rfl⟩
    have hi : i < t.data.size := (Array.getElem?_eq_some_iff.1 hbi).1
    rw [show 0 + i * 1 + 0 = i by omega, ← hce, Array.getElem?_append_left (by rw [hes]; exact hi)]
    rw [← hel, Array.getElem?_map, hbi]; rfl
end
end Go.Sh
namespace Go.Sh
set_option linter.unusedSectionVars false
set_option linter.unusedVariables false
set_option linter.unusedSimpArgs false
set_option linter.unnecessarySimpa false
section
variable {C : Ctx} {ρ : Map} {F : Nat → Prop} {H H' : Heap} {w : World} {e : Env} {a : Act} {s c d : SV}
def LKD : LK → TypeDesc → Prop
  | .i, d => ∃ k, d = .int k
  | .s, d => d = .string
  | .b, d => d = .bool
theorem vr_sv {c : SV} {v y : Value} (h : VR w F ρ c v) (hs : svV c = some y) : v = y := by
  unfold svV at hs
  split at hs <;> first | (cases hs; cases h; rfl) | cases hs
theorem sv_vr {c : SV} {y : Value} (hs : svV c = some y) : VR w F ρ c y := by
  unfold svV at hs
  split at hs <;> first | (cases hs; constructor) | cases hs
theorem ba_beq {a b : ByteArray} (h : (a == b) = true) : a = b := by
  cases a with
  | mk x => cases b with
    | mk y =>
      have h' : (x == y) = true := h
      rw [eq_of_beq h']
theorem ba_beq_self (a : ByteArray) : (a == a) = true := by
  cases a with
  | mk x =>
    show (x == x) = true
    exact beq_self_eq_true x
theorem sameK_ok {t : LK} {d : TypeDesc} {k q : SV} {kv qv : Value} {b : Bool} (hd : LKD t d) (h : sameK t k q = some b) (hk : svV k = some kv) (hq : svV q = some qv) : Instr.sameNow d kv qv = some b ∧ (b = true → kv = qv) := by
  unfold sameK at h
  split at h
  · rename_i k1 a k2 b'
    replace h := bif_some h
    obtain ⟨h1, h2⟩ := h
    obtain ⟨kk, rfl⟩ := hd
    cases hk; cases hq; cases h2
    have h1 : k1 = k2 := by simpa using h1
    subst h1
    exact ⟨by simp [Instr.sameNow], fun h => by rw [eq_of_beq h]⟩
  · cases hd
    cases hk; cases hq; cases h
    exact ⟨by simp [Instr.sameNow], fun h => by rw [ba_beq h]⟩
  · cases hd
    cases hk; cases hq; cases h
    exact ⟨by simp [Instr.sameNow], fun h => by rw [eq_of_beq h]⟩
  · cases h
theorem mfind_ok {t : LK} {d : TypeDesc} {k : SV} {kv : Value} (hd : LKD t d) (hk : svV k = some kv) : ∀ (es : List (SV × SV)) (en : List MapEntry) (i : Nat) (r : Option (Nat × SV)), MapR w F ρ en es → mfind t k es i = some r →
    (r = none ∧ Instr.findNow d kv en i = some none) ∨ ∃ j v en1, r = some (i + j, v) ∧ Instr.findNow d kv en i = some (some (i + j, en1.val)) ∧ en[j]? = some en1 ∧ en1.key = kv ∧ v.ok1 = true ∧ VR w F ρ v en1.val
  | [], [], i, r, _, h => by cases h; exact .inl ⟨rfl, rfl⟩
  | [], _ :: _, _, _, hm, _ => hm.elim
  | (_, _) :: _, [], _, _, hm, _ => hm.elim
  | (q, v) :: es, e :: en, i, r, ⟨h1, h2, h3, h4⟩, h => by
    unfold mfind at h
    simp only [Option.bind_eq_some_iff] at h
    obtain ⟨b, hb, h⟩ := h
    obtain ⟨g1, g2⟩ := sameK_ok hd hb hk h1
    cases b with
    | true =>
      cases h
      exact .inr ⟨0, v, e, rfl, by simp [Instr.findNow, g1], rfl, (g2 rfl).symm, h2, h3⟩
    | false =>
      simp only [cond_false] at h
      rcases mfind_ok hd hk es en (i + 1) r h4 h with ⟨p1, p2⟩ | ⟨j, v', e', p1, p2, p3, p4, p5, p6⟩
      · exact .inl ⟨p1, by simp [Instr.findNow, g1, p2]⟩
      · exact .inr ⟨j + 1, v', e', by rw [p1]; congr 2; omega, by simp only [Instr.findNow, g1, p2]; congr 3; omega, by simpa using p3, p4, p5, p6⟩
theorem mapR_app {k v : SV} {e : MapEntry} (hk : svV k = some e.key) (h1 : v.ok1 = true) (hv : VR w F ρ v e.val) : ∀ (en : List MapEntry) (es : List (SV × SV)), MapR w F ρ en es → MapR w F ρ (en ++ [e]) (es ++ [(k, v)])
  | [], [], _ => ⟨hk, h1, hv, trivial⟩
  | _ :: en, (_, _) :: es, ⟨a, b, c, h⟩ => ⟨a, b, c, mapR_app hk h1 hv en es h⟩
  | [], _ :: _, h => h.elim
  | _ :: _, [], h => h.elim
theorem mapR_mod {k v : SV} {kv vv : Value} (hk : svV k = some kv) (h1 : v.ok1 = true) (hv : VR w F ρ v vv) : ∀ (j : Nat) (en : List MapEntry) (es : List (SV × SV)), MapR w F ρ en es → MapR w F ρ (en.modify j fun e => { e with key := kv, val := vv }) (es.set j (k, v))
  | _, [], [], _ => by simp [MapR]
  | 0, e :: en, (q, x) :: es, ⟨a, b, c, h⟩ => by
    rw [List.modify_zero_cons, List.set_cons_zero]
    exact ⟨hk, h1, hv, h⟩
  | j + 1, e :: en, (q, x) :: es, ⟨a, b, c, h⟩ => by
    rw [List.modify_succ_cons, List.set_cons_succ]
    exact ⟨a, b, c, mapR_mod hk h1 hv j en es h⟩
  | _, [], _ :: _, h => h.elim
  | _, _ :: _, [], h => h.elim
theorem cmap_spec {t el : TypeId} {q : LK} (h : cmap C.P t = some (q, el)) : ∃ kt d, C.P.underlying t = some (.map kt el) ∧ C.P.underlying kt = some d ∧ LKD q d ∧ csz C.P el = some 1 ∧ cag C.P el = some false := by
  unfold cmap at h
  split at h
  · rename_i k e hu
    replace h := bif_some h
    obtain ⟨hc, h⟩ := h
    simp only [Bool.and_eq_true, beq_iff_eq] at hc
    split at h
    · rename_i hk; cases h; exact ⟨k, _, hu, hk, ⟨_, rfl⟩, hc.1, hc.2⟩
    · rename_i hk; cases h; exact ⟨k, _, hu, hk, rfl, hc.1, hc.2⟩
    · rename_i hk; cases h; exact ⟨k, _, hu, hk, rfl, hc.1, hc.2⟩
    · cases h
  · cases h
theorem isKey_sv {k : SV} (h : isKey k = true) : ∃ y, svV k = some y := by
  unfold isKey at h
  split at h <;> first | exact ⟨_, rfl⟩ | cases h
theorem checkKey_ok {q : LK} {kt : TypeId} {d : TypeDesc} {k : SV} {kv : Value} (hd : LKD q d) (hu : C.P.underlying kt = some d) (hk : svV k = some kv) (b : Bool) (n : Nat) (w : World) : (Instr.checkKey b (n + 1) kt kv).run C.P w = .ok () w := by
  unfold Instr.checkKey
  simp only [Sem.run_bind, run_underlying hu, Result.andThen]
  unfold svV at hk
  cases q with
  | i => obtain ⟨kk, rfl⟩ := hd; split at hk <;> first | (cases hk; rfl) | cases hk
  | s => cases hd; split at hk <;> first | (cases hk; rfl) | cases hk
  | b => cases hd; split at hk <;> first | (cases hk; rfl) | cases hk
theorem map_at (hr : HR C ρ F H w) {b : Nat} {v : Value} {es : List (SV × SV)} (hv : VR w F ρ (.mp b) v) (hg : hget H b = some (.map es)) : ∃ l en cl, ρ b = some l ∧ v = .map (some l.blk) ∧ l.virt = false ∧ l.arr = false ∧ w.heap[l.blk]? = some (.map en cl) ∧ MapR w F ρ en.toList es := by
  cases hv with
  | mp h ha =>
    obtain ⟨l', h1, h2, h3, en, cl, h4, h5⟩ := hr.live _ _ hg rfl
    rw [h] at h1; cases h1
    exact ⟨_, en, cl, h, rfl, h2, h3, h4, h5⟩
theorem ok_mkmap (hr : HR C ρ F H w) (t : TypeId) : OpOK C (do pure (.value (← Instr.makeMap t none))) ρ F H w (.mp H.bl.length) (hnew H (.map [])) := by
  let l : Loc := { blk := w.heap.size, base := 0, cap := 0, esz := 0, ver := 0, virt := false, arr := false }
  have hh : ∀ B, B < w.heap.size → ({ w with heap := w.heap.push (.map #[] 0) } : World).heap[B]? = w.heap[B]? := fun B hB => by simp [Array.getElem?_push, Nat.ne_of_lt hB]
  have hp := hr.push (w' := { w with heap := w.heap.push (.map #[] 0) }) (by simp) hh (.map []) l (fun _ => ⟨Nat.le_refl _, by simp [l]⟩) ⟨rfl, rfl, #[], 0, by simp [l], trivial⟩
  refine OpOK.valD (val := .map (some w.heap.size)) (w' := { w with heap := w.heap.push (.map #[] 0) }) ?_ ⟨_, F, .mp (l := l) (Map.put_same _ _ _) rfl, hp.1, hp.2⟩
  simp [Instr.makeMap, newObj, Sem.run]
theorem czero1_vr {t : TypeId} {z : SV} (h : czero1 C.P t = some z) : ∃ i v, C.P.info? t = some i ∧ i.zero = some v ∧ VR w F ρ z v := by
  unfold czero1 at h
  split at h
  · rename_i i hi
    split at h
    · rename_i v hv
      simp only [Option.bind_eq_some_iff] at h
      obtain ⟨z', h1, h2⟩ := h
      replace h2 := bif_some h2
      cases h2.2
      exact ⟨i, v, hi, hv, cval_vr 1 h1⟩
    · cases h
  · cases h
theorem ok_mlook {t el : TypeId} {q : LK} {ok : Bool} {z : SV} {x k : Operand} {x' k' : Opd} (hm : cmap C.P t = some (q, el)) (hz : czero1 C.P el = some z) (hx : copd x = some x') (hk : copd k = some k') (hr : HR C ρ F H w) (he : ER w F ρ e a.tmps)
    (h : smlook q ok z H (ev e k') (ev e x') = some (s, H')) : OpOK C (do pure (.value (← Instr.lookup t (a.eval x) (a.eval k) ok))) ρ F H w s H' := by
  obtain ⟨kt, d, hu, huk, hd, hsz, hag⟩ := cmap_spec hm
  unfold smlook at h
  split at h
  · rename_i b hb
    split at h
    · rename_i es hg
      replace h := bif_some h
      obtain ⟨hkey, h⟩ := h
      simp only [Option.map_eq_some_iff, Prod.mk.injEq] at h
      obtain ⟨r, h1, h2, rfl⟩ := h
      have hxv := copd_vr hx he
      rw [hb] at hxv
      obtain ⟨l, en, cl, hl, hv, hvi, har, hw, hM⟩ := map_at hr hxv hg
      have hkv := copd_vr hk he
      obtain ⟨kv, hks⟩ := isKey_sv hkey
      have hke := vr_sv hkv hks
      obtain ⟨i', zv, hi', hzv, hzr⟩ := czero1_vr (w := w) (F := F) (ρ := ρ) hz
      have hck := checkKey_ok (C := C) hd huk hks en.isEmpty 9999 w
      rcases mfind_ok hd hks es en.toList 0 r hM h1 with ⟨rfl, p2⟩ | ⟨j, v, e1, rfl, p2, p3, p4, p5, p6⟩
      · have hrun : (Instr.lookup t (a.eval x) (a.eval k) ok).run C.P w = .ok (if ok then .tuple #[zv, .bool false] else zv) w := by
          unfold Instr.lookup
          rw [hv, hke]
          simp only [Sem.run_bind, run_underlying hu, Result.andThen, MapKept.run_getObj_map hw, Sem.run_pure, hck, MapKept.run_findKey huk p2, run_zeroValue' hi' hzv]
        cases ok with
        | true =>
          cases h2
          refine OpOK.val hr hrun (.tup rfl (fun j c v hj hv => ?_))
          match j with
          | 0 => simp at hj hv; subst hj; subst hv; exact hzr
          | 1 => simp at hj hv; subst hj; subst hv; exact .bool _
          | j + 2 => simp at hj
        | false =>
          cases h2
          exact OpOK.val hr hrun hzr
      · have hrun : (Instr.lookup t (a.eval x) (a.eval k) ok).run C.P w = .ok (if ok then .tuple #[e1.val, .bool true] else e1.val) w := by
          unfold Instr.lookup
          rw [hv, hke]
          simp only [Sem.run_bind, run_underlying hu, Result.andThen, MapKept.run_getObj_map hw, Sem.run_pure, hck, MapKept.run_findKey huk p2]
        have hvr : VR w F ρ v e1.val := p6
        cases ok with
        | true =>
          cases h2
          refine OpOK.val hr hrun (.tup rfl (fun j c v hj hv => ?_))
          match j with
          | 0 => simp at hj hv; subst hj; subst hv; exact hvr
          | 1 => simp at hj hv; subst hj; subst hv; exact .bool _
          | j + 2 => simp at hj
        | false =>
          cases h2
          exact OpOK.val hr hrun hvr
    · cases h
  · cases h
theorem sameBits_sv {k : SV} {kv : Value} (h : svV k = some kv) (n : Nat) : Instr.sameBits n kv kv = true := by
  unfold svV at h
  split at h
  · cases h; unfold Instr.sameBits; simp
  · cases h; unfold Instr.sameBits; simp
  · rename_i s
    cases h
    unfold Instr.sameBits
    exact ba_beq_self s
  · cases h
theorem ok_mupd {t el : TypeId} {q : LK} {x k v : Operand} {x' k' v' : Opd} (hm : cmap C.P t = some (q, el)) (hx : copd x = some x') (hk : copd k = some k') (hvo : copd v = some v') (hr : HR C ρ F H w) (he : ER w F ρ e a.tmps)
    (h : smupd q H (ev e k') (ev e v') (ev e x') = some (s, H')) : ∃ w', (Instr.mapUpdate t (a.eval x) (a.eval k) (a.eval v)).run C.P w = .ok () w' ∧ s = .undef ∧ HR C ρ F H' w' ∧ Ext C ρ F H w ρ F H' w' := by
  obtain ⟨kt, d, hu, huk, hd, hsz, hag⟩ := cmap_spec hm
  unfold smupd at h
  split at h
  · rename_i b hb
    split at h
    · rename_i es hg
      replace h := bif_some h
      obtain ⟨hc, h⟩ := h
      simp only [Bool.and_eq_true, beq_iff_eq] at hc
      obtain ⟨hkey, hv1⟩ := hc
      simp only [Option.bind_eq_some_iff, Option.map_eq_some_iff, Prod.mk.injEq] at h
      obtain ⟨r, h1, H1, hH, rfl, rfl⟩ := h
      have hxv := copd_vr hx he
      rw [hb] at hxv
      obtain ⟨l, en, cl, hl, hv, hvi, har, hw, hM⟩ := map_at hr hxv hg
      obtain ⟨kv, hks⟩ := isKey_sv hkey
      have hke := vr_sv (copd_vr hk he) hks
      have hvr := copd_vr hvo he
      generalize a.eval v = vv at *
      have hck := checkKey_ok (C := C) hd huk hks false 9999 w
      have hlt : l.blk < w.heap.size := (Array.getElem?_eq_some_iff.1 hw).1
      have hown : Own ρ H b l := ⟨⟨_, hg, rfl⟩, hl, hvi⟩
      -- whatever the entries are, the block takes them
      have fin : ∀ (en' : Array MapEntry) (cl' : Nat), (∀ (w' : World) (σ : Map), Keeps F w w' → VR w F σ (ev e v') vv → MapR w F σ en.toList es → MapR w' F σ en'.toList (mput (ev e k') (ev e v') es r)) →
          HR C ρ F H1 (w.putObj l.blk (.map en' cl')) ∧ Ext C ρ F H w ρ F H1 (w.putObj l.blk (.map en' cl')) := by
        intro en' cl' hM'
        have hkeep : ∀ Bk, Bk ≠ l.blk → (w.putObj l.blk (.map en' cl')).heap[Bk]? = w.heap[Bk]? := fun Bk hne => World.putObj_heap_other hne
        have hkk : Keeps F w (w.putObj l.blk (.map en' cl')) := fun Bk hB => hkeep Bk (fun e => (hr.own _ _ hown).1 (e ▸ hB))
        obtain ⟨z1, z2⟩ := hr.set (w' := w.putObj l.blk (.map en' cl')) (l' := l) hH hg rfl hl (by simp) (fun Bk _ h => hkeep Bk (h hvi)) (fun h => .inl ⟨h, rfl⟩) (.inl rfl)
          (fun _ => ⟨hvi, har, en', cl', World.putObj_heap_same hlt, by rw [put_self hl]; exact hM' _ _ hkk hvr hM⟩)
          (fun _ N hN _ hx => by
            obtain ⟨_, _, en2, cl2, g1, g2⟩ := hx
            rw [hw] at g1
            cases g1
            exact ⟨hvi, har, en', cl', World.putObj_heap_same hlt, by rw [put_self hl]; exact hM' _ _ hkk (hvr.cut N hN) g2⟩)
        rw [put_self hl] at z1 z2
        exact ⟨z1, z2⟩
      rcases mfind_ok hd hks es en.toList 0 r hM h1 with ⟨rfl, p2⟩ | ⟨j, v1, e1, rfl, p2, p3, p4, p5, p6⟩
      · obtain ⟨z1, z2⟩ := fin (en.push { key := kv, val := vv, born := cl }) (cl + 1) (fun w' σ hkk hv2 hM2 => by
          rw [Array.toList_push]
          exact mapR_app (e := { key := kv, val := vv, born := cl }) hks hv1 (hv2.mono hkk (fun _ h => h) (Map.le_refl _)) _ _ (hM2.mono hkk (fun _ h => h) (Map.le_refl _)))
        refine ⟨_, ?_, rfl, z1, z2⟩
        unfold Instr.mapUpdate
        rw [hv, hke]
        simp only [Sem.run_bind, run_underlying hu, Result.andThen, MapKept.run_getObj_map hw, hck, MapKept.run_findKey huk p2, MapKept.run_setObj_map _ hw]
        rfl
      · rw [Nat.zero_add] at p2 h1 hH
        have hj : en[j]? = some e1 := by simpa using p3
        obtain ⟨z1, z2⟩ := fin (en.modify j fun e => { e with key := kv, val := vv }) cl (fun w' σ hkk hv2 hM2 => by
          rw [Array.toList_modify, Nat.zero_add]
          exact mapR_mod hks hv1 (hv2.mono hkk (fun _ h => h) (Map.le_refl _)) j _ _ (hM2.mono hkk (fun _ h => h) (Map.le_refl _)))
        refine ⟨_, ?_, rfl, z1, z2⟩
        have hks2 : (Instr.keyThatStays kv kv).run C.P w = .ok kv w := by unfold Instr.keyThatStays; rw [sameBits_sv hks]; rfl
        unfold Instr.mapUpdate
        rw [hv, hke]
        simp only [Sem.run_bind, run_underlying hu, Result.andThen, MapKept.run_getObj_map hw, hck, MapKept.run_findKey huk p2, hj, Option.map_some, Option.getD_some, p4, hks2, MapKept.run_setObj_map _ hw]
        rfl
    · cases h
  · cases h
theorem ok_mupd' {t el : TypeId} {q : LK} {x k v : Operand} {x' k' v' : Opd} (hm : cmap C.P t = some (q, el)) (hx : copd x = some x') (hk : copd k = some k') (hvo : copd v = some v') (hr : HR C ρ F H w) (he : ER w F ρ e a.tmps)
    (h : smupd q H (ev e k') (ev e v') (ev e x') = some (s, H')) : OpOK C (do Instr.mapUpdate t (a.eval x) (a.eval k) (a.eval v); pure .skip) ρ F H w s H' := by
  obtain ⟨w', h1, rfl, h2, h3⟩ := ok_mupd hm hx hk hvo hr he h
  exact ⟨undef, w', .inr ⟨by simp [h1, pure, Sem.run], rfl⟩, ρ, F, .undef _, h2, h3⟩
end
end Go.Sh
namespace Go.Sh
set_option linter.unusedSectionVars false
set_option linter.unusedVariables false
set_option linter.unusedSimpArgs false
set_option linter.unnecessarySimpa false
section
variable {C : Ctx} {ρ : Map} {F : Nat → Prop} {H H' : Heap} {w : World} {e : Env} {a : Act} {s c d : SV}
theorem bif_none {A : Type} {c : Bool} {x : Option A} {y : A} (h : (bif c then none else x) = some y) : c = false ∧ x = some y := by
  cases c with
  | true => cases h
  | false => exact ⟨rfl, h⟩
theorem map_fst {v : Option SV} (h : v.map (·, H) = some (s, H')) : v = some s ∧ H = H' := by
  cases v with
  | none => cases h
  | some v => cases h; exact ⟨rfl, rfl⟩
theorem copds_one {xs : Array Operand} {y : Opd} (h : copds xs = some [y]) : ∃ x, xs = #[x] ∧ copd x = some y := by
  have h1 := allS_some h
  cases xs with
  | mk l =>
    match l, h1 with
    | [x], h1 => simp at h1; exact ⟨x, rfl, h1⟩
    | [], h1 => simp at h1
    | _ :: _ :: _, h1 => simp at h1
theorem copds_two {xs : Array Operand} {y z : Opd} (h : copds xs = some [y, z]) : ∃ x x', xs = #[x, x'] ∧ copd x = some y ∧ copd x' = some z := by
  have h1 := allS_some h
  cases xs with
  | mk l =>
    match l, h1 with
    | [x, x'], h1 => simp at h1; exact ⟨x, x', rfl, h1.1, h1.2⟩
    | [], h1 => simp at h1
    | [_], h1 => simp at h1
    | _ :: _ :: _ :: _, h1 => simp at h1
theorem celem_un {t el : TypeId} (h : celem C.P t = some el) : C.P.underlying t = some (.slice el) := by
  unfold celem at h
  split at h
  · cases h; assumption
  · cases h
def nilV : NK → Value → Option Bool
  | .p, .pointer p => some p.isNone
  | .s, .slice b _ _ => some b.isNone
  | .f, .nilFunc => some true
  | .f, .func _ _ _ => some false
  | _, _ => none
theorem cnil_eq {op : BinOp} {u : TypeDesc} {y : Operand} {x : Opd} {op' : Op1} (h : cnil op u y x = some op') : ∃ k neg, op' = .isNil k neg x := by
  unfold cnil at h
  split at h <;> first | (cases h; done) | (cases h; exact ⟨_, _, rfl⟩)
theorem eqNil_p {P : Program} {d : Nat} {t el : TypeId} {p : Option Addr} (hu : P.underlying t = some (.pointer el)) : (Op.equalIn (d + 1) t (.pointer p) (.pointer none)).run P w = .ok p.isNone w := by
  cases p <;> simp [Op.equalIn, run_underlying hu, Sem.run_bind, Result.andThen, pure, Sem.run]
theorem eqNil_s {P : Program} {d n c : Nat} {t el : TypeId} {p : Option Addr} (hu : P.underlying t = some (.slice el)) : (Op.equalIn (d + 1) t (.slice p n c) (.slice none 0 0)).run P w = .ok p.isNone w := by
  cases p <;> simp [Op.equalIn, run_underlying hu, Sem.run_bind, Result.andThen, pure, Sem.run]
theorem eqNil_f {P : Program} {d : Nat} {t : TypeId} {ps rs vr} (hu : P.underlying t = some (.func ps rs vr)) : (Op.equalIn (d + 1) t .nilFunc .nilFunc).run P w = .ok true w ∧ ∀ f x y, (Op.equalIn (d + 1) t (.func f x y) .nilFunc).run P w = .ok false w := by
  constructor
  · simp [Op.equalIn, run_underlying hu, Sem.run_bind, Result.andThen, pure, Sem.run]
  · intro f x y
    simp [Op.equalIn, run_underlying hu, Sem.run_bind, Result.andThen, pure, Sem.run]
theorem run_cnil {op : BinOp} {u : TypeDesc} {t : TypeId} {x y : Operand} {x' : Opd} {k : NK} {neg b : Bool} {v : Value} (h : cnil op u y x' = some (.isNil k neg x')) (hu : C.P.underlying t = some u) (hb : nilV k v = some b) :
    (do eqGuard op t x y v (a.eval y); binOp op t v (a.eval y) : Sem Value).run C.P w = .ok (.bool (neg ^^ b)) w := by
  have hm : Op.maxDepth = 9999 + 1 := rfl
  unfold cnil at h
  split at h <;> first | (cases h; done) | skip
  all_goals
    cases h
    cases v <;> simp only [nilV, Option.some.injEq, reduceCtorEq] at hb
  all_goals
    subst hb
    simp only [Act.eval, eqGuard, binOp, Op.equal, hm, Sem.run_bind]
    first
    | (simp [eqNil_p hu, Sem.run_bind, Result.andThen, pure, Sem.run]; done)
    | (simp [eqNil_s hu, Sem.run_bind, Result.andThen, pure, Sem.run]; done)
    | (simp [(eqNil_f hu).1, (eqNil_f hu).2, Sem.run_bind, Result.andThen, pure, Sem.run]; done)
theorem isNil_vr (hr : HR C ρ F H w) {k : NK} {b : Bool} {v : Value} (hs : isNil1 H k c = some b) (hv : VR w F ρ c v) : nilV k v = some b := by
  unfold isNil1 at hs
  split at hs
  · cases hs; cases hv; rfl
  · replace hs := bif_some hs
    obtain ⟨hc, hs⟩ := hs
    cases hs
    obtain ⟨l, hl, _, _, hv2⟩ := cur_ptr hr hc hv
    subst hv2
    rfl
  · cases hs; cases hv; rfl
  · cases hs; cases hv; rfl
  · cases hs; cases hv; rfl
  · cases hs; cases hv; rfl
  · rename_i z L f
    cases hL : L.isEmpty with
    | true => rw [hL] at hs; cases hs
    | false =>
      rw [hL] at hs
      cases hs
      cases hv with
      | lst V hcap hfull hz hat h1 hv =>
        rcases hat with h0 | ⟨B, o, ha, _⟩
        · subst h0; cases hL
        · subst ha; rfl
  · rename_i b' v' off n
    replace hs := bif_some hs
    obtain ⟨hc, hs⟩ := hs
    simp only [Bool.and_eq_true, decide_eq_true_eq] at hc
    cases hs
    obtain ⟨l, z2, L2, ex2, hl, hb2, hbr, g1, g2⟩ := cur_slc hr hc.1 hv
    cases hvi : l.virt with
    | true => obtain ⟨q, p1, p2, p3⟩ := g1 hvi; omega
    | false =>
      obtain ⟨p1, q, p2, p3⟩ := g2 hvi
      have := p3 (by omega)
      subst this
      subst p2
      rfl
  · cases hs
theorem ok_isNil {op : BinOp} {u : TypeDesc} {t : TypeId} {x y : Operand} {x' : Opd} {k : NK} {neg b : Bool} (h : cnil op u y x' = some (.isNil k neg x')) (hu : C.P.underlying t = some u) (hx : copd x = some x')
    (hr : HR C ρ F H w) (he : ER w F ρ e a.tmps) (hs : isNil1 H k (ev e x') = some b) : OpOK C (do let v ← (do eqGuard op t x y (a.eval x) (a.eval y); binOp op t (a.eval x) (a.eval y)); pure (.value v)) ρ F H w (.bool (neg ^^ b)) H :=
  OpOK.val hr (run_cnil h hu (isNil_vr hr hs (copd_vr hx he))) (.bool _)
theorem ok_op {o : Oper} {op' : Op1} (h : cop C.P o.op = some op') (hr : HR C ρ F H w) (he : ER w F ρ e a.tmps) (hs : sop e H op' = some (s, H')) : OpOK C (execOp a.eval o) ρ F H w s H' := by
  unfold cop at h
  split at h
  case h_1 x ho =>
    simp only [Option.map_eq_some_iff] at h
    obtain ⟨y, hy, rfl⟩ := h
    simp only [sop, Option.some.injEq, Prod.mk.injEq] at hs
    obtain ⟨rfl, rfl⟩ := hs
    simp only [execOp, ho]
    exact ok_mov hy hr he
  case h_2 x ho =>
    simp only [Option.map_eq_some_iff] at h
    obtain ⟨y, hy, rfl⟩ := h
    simp only [sop, Option.some.injEq, Prod.mk.injEq] at hs
    obtain ⟨rfl, rfl⟩ := hs
    simp only [execOp, ho]
    exact ok_mov hy hr he
  case h_3 c x y ho =>
    split at h
    · rename_i c' x' y' h1 h2 h3
      cases h
      obtain ⟨h4, rfl⟩ := map_fst hs
      simp only [execOp, ho]
      exact ok_pick h1 h2 h3 hr he h4
    · cases h
  case h_4 t ho =>
    simp only [Option.map_eq_some_iff] at h
    obtain ⟨z, hz, rfl⟩ := h
    simp only [sop, Option.some.injEq, Prod.mk.injEq] at hs
    obtain ⟨rfl, rfl⟩ := hs
    simp only [execOp, ho]
    exact ok_alloc hz hr
  case h_5 t x ho =>
    simp only [Option.map_eq_some_iff] at h
    obtain ⟨y, hy, rfl⟩ := h
    simp only [sop, Option.map_eq_some_iff, Prod.mk.injEq] at hs
    obtain ⟨cs, h1, rfl, rfl⟩ := hs
    simp only [execOp, ho]
    exact ok_box hy hr he h1
  case h_6 t ps ho =>
    split at h
    · rename_i z ps' h1 h2
      cases h
      simp only [sop, Option.map_eq_some_iff, Prod.mk.injEq] at hs
      obtain ⟨r, h3, rfl, rfl⟩ := hs
      simp only [execOp, ho]
      exact ok_build h1 h2 hr he h3
    · cases h
  case h_7 t n ps ho =>
    split at h
    · rename_i el hel
      split at h
      · rename_i z zs ps' h1 h2 h3
        replace h := bif_some h
        obtain ⟨hc, h⟩ := h
        cases h
        simp only [Bool.and_eq_true, decide_eq_true_eq, beq_iff_eq] at hc
        simp only [sop, Option.map_eq_some_iff, Prod.mk.injEq] at hs
        obtain ⟨r, h4, rfl, rfl⟩ := hs
        simp only [execOp, ho]
        exact ok_bslice hel h1 h2 h3 hc.1 hc.2 hr he h4
      · cases h
    · cases h
  case h_8 t x ho =>
    split at h
    · rename_i ag n y h1 h2 h3
      cases h
      obtain ⟨h4, rfl⟩ := map_fst hs
      simp only [execOp, ho]
      exact ok_load h1 h2 h3 hr he h4
    · cases h
  case h_9 t x y ho =>
    split at h
    · rename_i n x' y' h1 h2 h3
      cases h
      simp only [sop, Option.map_eq_some_iff, Prod.mk.injEq] at hs
      obtain ⟨H1, h4, rfl, rfl⟩ := hs
      simp only [execOp, ho]
      exact ok_store h1 h2 h3 hr he h4
    · cases h
  case h_10 x ho =>
    simp only [Option.map_eq_some_iff] at h
    obtain ⟨y, hy, rfl⟩ := h
    exact ok_nilChk hy hr he o ho hs
  case h_11 bo t x y yt ho =>
    simp only [execOp, ho]
    split at h
    · rename_i x' y' h1 h2
      have aggs : ∀ (op : BinOp) (neg : Bool), ((op = .eql ∧ neg = false) ∨ (op = .neq ∧ neg = true)) → cag C.P t = some true → (bif C.P.eqGuardType C.P.depth t then none else (cshape C.P 6 t).map (.eqAgg neg · x' y')) = some op' → sop e H op' = some (s, H') →
          OpOK C (do let v ← (do eqGuard op t x y (a.eval x) (a.eval y); binOp op t (a.eval x) (a.eval y)); pure (.value v)) ρ F H w s H' := by
        intro op neg hop hag h hs
        replace h := bif_none h
        obtain ⟨hm, h⟩ := h
        simp only [Option.map_eq_some_iff] at h
        obtain ⟨sh, hsh, rfl⟩ := h
        simp only [sop] at hs
        split at hs
        · rename_i cs ds k1 k2
          simp only [Option.map_eq_some_iff, Prod.mk.injEq] at hs
          obtain ⟨r, k3, rfl, rfl⟩ := hs
          exact ok_eqAgg hop h1 h2 hm hsh hag hr he k1 k2 k3
        · cases hs
      split at h
      · rename_i hu
        exact aggs .eql false (.inl ⟨rfl, rfl⟩) (by simp [cag, hu]) h hs
      · rename_i hu
        exact aggs .neq true (.inr ⟨rfl, rfl⟩) (by simp [cag, hu]) h hs
      · rename_i hu
        exact aggs .eql false (.inl ⟨rfl, rfl⟩) (by simp [cag, hu]) h hs
      · rename_i hu
        exact aggs .neq true (.inr ⟨rfl, rfl⟩) (by simp [cag, hu]) h hs
      · cases h
        obtain ⟨h4, rfl⟩ := map_fst hs
        exact ok_bin h1 h2 hr he h4
      · rename_i hu
        cases h
        obtain ⟨h4, rfl⟩ := map_fst hs
        exact ok_binB h1 h2 hr he hu h4
      · cases h
        obtain ⟨h4, rfl⟩ := map_fst hs
        exact ok_bin h1 h2 hr he h4
      · rename_i u hu
        obtain ⟨k, neg, rfl⟩ := cnil_eq h
        simp only [sop, Option.map_eq_some_iff, Prod.mk.injEq] at hs
        obtain ⟨b, k1, rfl, rfl⟩ := hs
        exact ok_isNil h hu h1 hr he k1
      · cases h
    · cases h
  case h_12 t x ho =>
    simp only [Option.map_eq_some_iff] at h
    obtain ⟨y, hy, rfl⟩ := h
    simp only [sop] at hs
    split at hs
    · rename_i b hb
      cases hs
      simp only [execOp, ho]
      exact ok_notB (t := t) hy hr he hb
    · cases hs
  case h_13 t x ho =>
    split at h
    · simp only [Option.map_eq_some_iff] at h
      obtain ⟨y, hy, rfl⟩ := h
      simp only [sop] at hs
      split at hs
      · rename_i k n hb
        cases hs
        simp only [execOp, ho]
        exact ok_negI hy hr he hb
      · cases hs
    · cases h
  case h_14 sr ds x ho =>
    simp only [execOp, ho]
    split at h
    · cases h
    · rename_i y hy
      split at h
      · rename_i j k h1 h2
        cases h
        simp only [sop] at hs
        split at hs
        · rename_i k' n hb
          cases hs
          exact ok_convI hy h1 h2 hr he hb
        · cases hs
      · rename_i h1 h2
        cases h
        simp only [sop] at hs
        split at hs
        · rename_i b hb
          cases hs
          exact ok_convS hy h1 h2 hr he hb
        · cases hs
      · rename_i el h1 h2
        split at h
        · rename_i h3 h4
          cases h
          simp only [sop, Option.bind_eq_some_iff, Option.map_eq_some_iff, Prod.mk.injEq] at hs
          obtain ⟨L, k1, l, k2, rfl, rfl⟩ := hs
          exact ok_convBS hy h1 h3 h2 hr he k1 k2
        · cases h
      · rename_i el h1 h2
        split at h
        · rename_i h3 h4
          cases h
          simp only [sop] at hs
          split at hs
          · rename_i b hb
            cases hs
            obtain ⟨val, w', k1, k2⟩ := ok_convSB hy h1 h3 h2 hr he hb
            exact OpOK.valD k1 k2
          · cases hs
        · cases h
      · cases h
  case h_15 f fs cs ho =>
    rw [cond_eq_ite] at h
    split at h
    · rename_i hc
      simp only [Option.map_eq_some_iff] at h
      obtain ⟨ys, hy, rfl⟩ := h
      simp only [sop, Option.some.injEq, Prod.mk.injEq] at hs
      obtain ⟨rfl, rfl⟩ := hs
      simp only [execOp, ho]
      exact ok_mkfn hc hy hr he
    · replace h := bif_some h
      obtain ⟨hc, h⟩ := h
      simp only [Option.map_eq_some_iff] at h
      obtain ⟨ys, hy, rfl⟩ := h
      simp only [sop, Option.some.injEq, Prod.mk.injEq] at hs
      obtain ⟨rfl, rfl⟩ := hs
      simp only [execOp, ho]
      exact ok_mkbfn hc hy hr he
  case h_16 t l c ho =>
    split at h
    · rename_i el hel
      split at h
      · rename_i i z l' c' h1 h2 h3 h4
        replace h := bif_none h
        obtain ⟨hb, h⟩ := h
        replace h := bif_some h
        obtain ⟨hz, h⟩ := h
        cases h
        simp only [Bool.or_eq_false_iff, beq_eq_false_iff_ne, beq_iff_eq] at hb hz
        have hu : C.P.underlying t = some (.slice el) := by
          unfold celem at hel
          split at hel
          · cases hel; assumption
          · cases hel
        simp only [sop] at hs
        obtain ⟨val, w', r1, r2⟩ := ok_mkslice hu h1 h2 hz (by omega) (by omega) hr (copd_vr h3 he) (copd_vr h4 he) hs
        simp only [execOp, ho]
        exact OpOK.valD r1 r2
      · cases h
    · cases h
  case h_17 t x lo hi mx ho =>
    simp only [execOp, ho]
    split at h
    · rename_i x' lo' hi' mx' h1 h2 h3 h4
      split at h
      · rename_i el hu
        split at h
        · rename_i n hn
          replace h := bif_none h
          obtain ⟨hb, h⟩ := h
          cases h
          simp only [sop] at hs
          replace hs := bif_some hs
          obtain ⟨hc, hs⟩ := hs
          obtain ⟨h5, rfl⟩ := map_fst hs
          rcases orElse_some h5 with h5 | h5
          rotate_left
          · exact ok_sliceX h1 h2 h3 h4 hu hn hr he hc h5
          refine ok_sliceL h1 h2 h3 h4 hu hn hr he hc (fun hm => ?_) h5
          cases hi' with
          | some v => rfl
          | none => rw [hm] at hb; cases hb
        · cases h
      · rename_i hu
        split at h
        · rename_i hm
          cases h
          have : mx = none := by
            cases mx with
            | none => rfl
            | some v => simp [copdO] at h4
          subst this
          simp only [sop] at hs
          split at hs
          · rename_i b hb
            obtain ⟨h5, rfl⟩ := map_fst hs
            exact ok_sliceS h1 h2 h3 hu hr he hb h5
          · cases hs
        · cases h
      · cases h
    · cases h
  case h_18 t x f ho =>
    simp only [execOp, ho]
    split at h
    · rename_i x' f' h1 h2
      split at h
      · rename_i n h3
        cases h
        simp only [sop] at hs
        replace hs := bif_some hs
        obtain ⟨hc, hs⟩ := hs
        obtain ⟨h5, rfl⟩ := map_fst hs
        simp only [Option.bind_eq_some_iff] at h2
        obtain ⟨fs, h6, h7⟩ := h2
        exact ok_faddr h1 h6 h7 h3 hr he hc h5
      · cases h
    · cases h
  case h_19 t x f ho =>
    simp only [execOp, ho]
    split at h
    · rename_i x' f' h1 h2
      split at h
      · rename_i ag n h3 h4
        cases h
        simp only [sop] at hs
        split at hs
        · rename_i cs hc
          obtain ⟨h5, rfl⟩ := map_fst hs
          simp only [Option.bind_eq_some_iff] at h2
          obtain ⟨fs, h6, h7⟩ := h2
          exact ok_field h1 h6 h7 h3 h4 hr he hc h5
        · cases hs
      · cases h
    · cases h
  case h_20 t x ix ho =>
    simp only [execOp, ho]
    split at h
    · rename_i x' i' h1 h2
      split at h
      · rename_i el hu
        split at h
        · rename_i n hn
          cases h
          simp only [sop] at hs
          replace hs := bif_some hs
          obtain ⟨hc, hs⟩ := hs
          obtain ⟨h5, rfl⟩ := map_fst hs
          exact ok_iaddrS h1 h2 hu hn hr he hc h5
        · cases h
      · rename_i len el hu
        split at h
        · rename_i n hn
          cases h
          simp only [sop] at hs
          replace hs := bif_some hs
          obtain ⟨hc, hs⟩ := hs
          simp only [Option.bind_eq_some_iff] at hs
          obtain ⟨i, h3, hs⟩ := hs
          obtain ⟨h5, rfl⟩ := map_fst hs
          exact ok_iaddrA h1 h2 hu hn hr he hc h3 h5
        · cases h
      · cases h
    · cases h
  case h_21 t x ix ho =>
    simp only [execOp, ho]
    split at h
    · rename_i x' i' h1 h2
      split at h
      · rename_i len el hu
        split at h
        · rename_i ag n h3 h4
          cases h
          simp only [sop] at hs
          split at hs
          · rename_i cs hc
            simp only [Option.bind_eq_some_iff] at hs
            obtain ⟨i, h6, hs⟩ := hs
            obtain ⟨h5, rfl⟩ := map_fst hs
            exact ok_indexA h1 h2 hu h3 h4 hr he hc h6 h5
          · cases hs
        · cases h
      · rename_i hu
        cases h
        simp only [sop] at hs
        split at hs
        · rename_i b hc
          simp only [Option.bind_eq_some_iff, Option.map_eq_some_iff, Prod.mk.injEq] at hs
          obtain ⟨i, h6, y, h7, rfl, rfl⟩ := hs
          exact ok_indexS h1 h2 hu hr he hc h6 h7
        · cases hs
      · cases h
    · cases h
  case h_22 x i ho =>
    simp only [Option.map_eq_some_iff] at h
    obtain ⟨y, hy, rfl⟩ := h
    simp only [sop] at hs
    split at hs
    · rename_i vs hb
      obtain ⟨h4, rfl⟩ := map_fst hs
      simp only [execOp, ho]
      exact ok_extract hy hr he hb h4
    · cases hs
  case h_23 c ho =>
    unfold ccall at h
    split at h
    · split at h
      · cases h; cases hs
      · cases h
    · cases h
    · rename_i b hb
      have hx : ∃ cs, execOp a.eval o = builtin b c.argTypes o.type cs (c.args.map a.eval) := ⟨_, by simp only [execOp, ho, resolve, hb]; rfl⟩
      obtain ⟨cs, hx⟩ := hx
      rw [hx]
      split at h
      · cases h
      · rename_i xs hxs
        split at h
        · rename_i y
          obtain ⟨x, hx1, hy⟩ := copds_one hxs
          rw [hx1]
          simp only [List.map_toArray, List.map_cons, List.map_nil]
          split at h
          · rename_i hu
            cases h
            simp only [Option.bind_eq_some_iff] at hu
            obtain ⟨t0, h0, hu⟩ := hu
            simp only [sop] at hs
            split at hs
            · rename_i b hbb
              cases hs
              exact ok_lenS (ty := o.type) hy h0 hu hr he hbb
            · cases hs
          · rename_i el hu
            cases h
            simp only [Option.bind_eq_some_iff] at hu
            obtain ⟨t0, h0, hu⟩ := hu
            simp only [sop] at hs
            replace hs := bif_some hs
            obtain ⟨hc, hs⟩ := hs
            rw [Option.map_eq_some_iff] at hs
            obtain ⟨n, h1, hs⟩ := hs
            cases hs
            exact ok_lenL (ty := o.type) hy h0 hu hr he hc h1
          · rename_i n el hu
            cases h
            simp only [Option.bind_eq_some_iff] at hu
            obtain ⟨t0, h0, hu⟩ := hu
            simp only [sop, Option.some.injEq, Prod.mk.injEq] at hs
            obtain ⟨rfl, rfl⟩ := hs
            exact ok_lenA (ty := o.type) h0 hu hr
          · cases h
        · split at h
          · cases h
            obtain ⟨h1, rfl⟩ := map_fst hs
            exact ok_max hxs hr he h1
          · cases h
        · split at h
          · cases h
            obtain ⟨h1, rfl⟩ := map_fst hs
            exact ok_min hxs hr he h1
          · cases h
        · rename_i y z
          obtain ⟨x, x', hx1, hy, hy'⟩ := copds_two hxs
          rw [hx1]
          simp only [List.map_toArray, List.map_cons, List.map_nil]
          split at h
          · rename_i el el' h1 h2
            split at h
            · rename_i i hi
              replace h := bif_none h
              obtain ⟨hb, h⟩ := h
              simp only [Bool.or_eq_false_iff, beq_eq_false_iff_ne] at hb
              split at h
              · rename_i zl hzl
                replace h := bif_some h
                obtain ⟨hz, h⟩ := h
                cases h
                simp only [beq_iff_eq] at hz
                simp only [Option.bind_eq_some_iff] at h1 h2
                obtain ⟨t0, h0, h1⟩ := h1
                obtain ⟨t1, h3, h2⟩ := h2
                obtain ⟨i', v, hi', hv, k1, k2⟩ := czero_vr (w := w) (F := F) (ρ := ρ) hzl
                rw [hi] at hi'; cases hi'
                simp only [sop, Option.bind_eq_some_iff] at hs
                obtain ⟨X, hX, hs⟩ := hs
                have hT : ApT C.P c.argTypes el i.size i v := ⟨⟨t0, h0, celem_un h1⟩, ⟨t1, el', h3, h2⟩, hi, rfl, hv, by omega, by omega, by omega⟩
                obtain ⟨val, w', r1, r2⟩ := ok_append hT (ty := o.type) hr (copd_vr hy he) (copd_vr hy' he) hX hs
                exact OpOK.valD r1 r2
              · cases h
            · cases h
          · cases h
        · rename_i y z
          obtain ⟨x, x', hx1, hy, hy'⟩ := copds_two hxs
          rw [hx1]
          simp only [List.map_toArray, List.map_cons, List.map_nil]
          split at h
          · rename_i el el' h1 h2
            split at h
            · rename_i n hn
              cases h
              simp only [Option.bind_eq_some_iff] at h1 h2
              obtain ⟨t0, h0, h1⟩ := h1
              simp only [sop, Option.bind_eq_some_iff] at hs
              obtain ⟨X, hX, hs⟩ := hs
              obtain ⟨val, w', r1, r2⟩ := ok_copy (ty := o.type) h0 (celem_un h1) hn (by omega) hr (copd_vr hy he) (copd_vr hy' he) hX hs
              exact OpOK.valD r1 r2
            · cases h
          · cases h
        · rename_i y
          obtain ⟨x, hx1, hy⟩ := copds_one hxs
          rw [hx1]
          simp only [List.map_toArray, List.map_cons, List.map_nil]
          split at h
          · rename_i el h1
            split at h
            · rename_i zh zt hz
              cases h
              simp only [Option.bind_eq_some_iff] at h1
              obtain ⟨t0, h0, h1⟩ := h1
              simp only [sop] at hs
              obtain ⟨val, w', r1, r2⟩ := ok_clear (ty := o.type) h0 (celem_un h1) hz (by simp) hr (copd_vr hy he) hs
              exact OpOK.valD r1 r2
            · cases h
          · cases h
        · cases h
  case h_24 t ho =>
    cases h
    simp only [sop, Option.some.injEq, Prod.mk.injEq] at hs
    obtain ⟨rfl, rfl⟩ := hs
    simp only [execOp, ho]
    exact ok_mkmap hr t
  case h_25 t m k v ho =>
    simp only [execOp, ho]
    split at h
    · rename_i q el m' k' v' h1 h2 h3 h4
      cases h
      simp only [sop] at hs
      exact ok_mupd' h1 h2 h3 h4 hr he hs
    · cases h
  case h_26 t m k v ho =>
    simp only [execOp, ho]
    split at h
    · rename_i q el m' k' v' h1 h2 h3 h4
      cases h
      simp only [sop] at hs
      exact ok_mupd' h1 h2 h3 h4 hr he hs
    · cases h
  case h_27 t m k ok ho =>
    simp only [execOp, ho]
    split at h
    · rename_i q el m' k' h1 h2 h3
      simp only [Option.map_eq_some_iff] at h
      obtain ⟨z, hz, rfl⟩ := h
      simp only [sop] at hs
      exact ok_mlook h1 hz h2 h3 hr he hs
    · cases h
  case h_28 => cases h
end
end Go.Sh
namespace Go.Sh
set_option linter.unusedSectionVars false
set_option linter.unusedVariables false
set_option linter.unusedSimpArgs false
set_option linter.unnecessarySimpa false
abbrev WF (ro : Option Nat) : Fence := { fn := fun _ => True, depth := none, alive := false, round := ro }
def ArgsR (w : World) (F : Nat → Prop) (ρ : Map) (xs : List SV) (args : Array Value) : Prop := xs.length = args.size ∧ ∀ (j : Nat) c v, xs[j]? = some c → args[j]? = some v → VR w F ρ c v
def CallOK (C : Ctx) (rec : Rec) : Prop := ∀ f xs H v H', rec (.fn f) xs H = some (v, H') → ∀ (ρ : Map) (F : Nat → Prop) (w : World) (args : Array Value), HR C ρ F H w → ArgsR w F ρ xs args →
  (callFunc f args).run C.P w = .ok (.enter f args) w ∧ ∀ n, CallsIn Fence.wide n C.P f args w (fun e w' => ∃ val, e = .returned val ∧ Done C ρ F H w v H' val w')
def YldOK (C : Ctx) (rec : Rec) : Prop := ∀ b xs H v H', rec (.yld b) xs H = some (v, H') → ∀ (ρ : Map) (F : Nat → Prop) (w : World) (args : Array Value) (l : Loc), HR C ρ F H w → ArgsR w F ρ xs args → ρ b = some l →
  ∃ f tmps as1 bd, (Instr.yield l.blk args).run C.P w = .ok (.round l.blk f tmps as1 bd) w ∧ ∀ n, RoundIn Fence.wide n C.P l.blk f tmps as1 bd w (fun e w' => ∃ val, e = .returned val ∧ Done C ρ F H w v H' val w')
def KallOK (C : Ctx) (rec : Rec) : Prop := ∀ f xs H v H', rec (.kfn f) xs H = some (v, H') → ∀ (ρ : Map) (F : Nat → Prop) (w : World) (args : Array Value), HR C ρ F H w → ArgsR w F ρ xs args →
  (callFunc f args).run C.P w = .ok (.enter f args) w ∧ ∀ n, CallsIn Fence.wide n C.P f args w (fun e w' => ∃ val, e = .returned val ∧ Done C ρ F H w v H' val w')
structure RecOK (C : Ctx) (rec : Rec) : Prop where
  call : CallOK C rec
  kall : KallOK C rec
  yld : YldOK C rec
section
variable {C : Ctx} {ρ : Map} {F : Nat → Prop} {H H' : Heap} {w : World} {e : Env} {a : Act} {s c d : SV}
theorem args_append {xs ys : List SV} {vs ws : Array Value} (h : ArgsR w F ρ xs vs) (h' : ArgsR w F ρ ys ws) : ArgsR w F ρ (xs ++ ys) (vs ++ ws) := by
  refine ⟨by simp [h.1, h'.1], fun j c v hc hv => ?_⟩
  rw [List.getElem?_append] at hc
  rw [Array.getElem?_append] at hv
  rw [h.1] at hc
  split at hc
  · rename_i hlt
    rw [if_pos hlt] at hv
    exact h.2 j c v hc hv
  · rename_i hlt
    rw [if_neg hlt] at hv
    exact h'.2 _ c v hc hv
theorem not_defer {o : Oper} {op : Op1} (h : cop C.P o.op = some op) : ∀ c, o.op ≠ .defer c := by
  intro c hc
  rw [hc] at h
  simp [cop] at h
theorem cop_call {P : Program} {o : Op} {f : Opd} {xs : List Opd} (h : cop P o = some (.call f xs)) : ∃ c, o = .call c ∧ ccall P c = some (.call f xs) := by
  unfold cop at h
  split at h
  case h_23 c => exact ⟨c, rfl, h⟩
  all_goals (repeat' split at h)
  all_goals (first | (cases h; done) | (obtain ⟨_, _, h2⟩ := cnil_eq h; cases h2; done) | (simp [Option.map_eq_some_iff, cond_eq_ite] at h; done) | (simp only [cond_eq_ite] at h; repeat' split at h; all_goals (first | (cases h; done) | (simp [Option.map_eq_some_iff] at h; done))))
theorem cop_noK {P : Program} {o : Op} {f : FuncId} {m : Nat} {xs : List Opd} (h : cop P o = some (.callK f m xs)) : False := by
  unfold cop at h
  split at h
  case h_23 c =>
    unfold ccall at h
    repeat' split at h
    all_goals (first | (cases h; done) | (simp [Option.map_eq_some_iff, cond_eq_ite] at h; done) | (repeat' split at h) )
    all_goals (first | (cases h; done) | (simp [Option.map_eq_some_iff, cond_eq_ite] at h; done))
  all_goals (repeat' split at h)
  all_goals (first | (cases h; done) | (obtain ⟨_, _, h2⟩ := cnil_eq h; cases h2; done) | (simp [Option.map_eq_some_iff, cond_eq_ite] at h; done) | (simp only [cond_eq_ite] at h; repeat' split at h; all_goals (first | (cases h; done) | (simp [Option.map_eq_some_iff] at h; done))))
theorem cop_noV {P : Program} {o : Op} {f : FuncId} {xs : List Opd} (h : cop P o = some (.callV f xs)) : False := by
  unfold cop at h
  split at h
  case h_23 c =>
    unfold ccall at h
    repeat' split at h
    all_goals (first | (cases h; done) | (simp [Option.map_eq_some_iff, cond_eq_ite] at h; done) | (repeat' split at h) )
    all_goals (first | (cases h; done) | (simp [Option.map_eq_some_iff, cond_eq_ite] at h; done))
  all_goals (repeat' split at h)
  all_goals (first | (cases h; done) | (obtain ⟨_, _, h2⟩ := cnil_eq h; cases h2; done) | (simp [Option.map_eq_some_iff, cond_eq_ite] at h; done) | (simp only [cond_eq_ite] at h; repeat' split at h; all_goals (first | (cases h; done) | (simp [Option.map_eq_some_iff] at h; done))))
theorem ccall_call {P : Program} {c : Call} {f : Opd} {xs : List Opd} (h : ccall P c = some (.call f xs)) : ∃ g, c.callee = .value g ∧ copd g = some f ∧ copds c.args = some xs := by
  unfold ccall at h
  split at h
  · rename_i g hg
    split at h
    · rename_i f' xs' h1 h2
      cases h
      exact ⟨g, hg, h1, h2⟩
    · cases h
  · cases h
  · exfalso
    repeat' split at h
    all_goals (first | (cases h; done) | (simp [Option.map_eq_some_iff, cond_eq_ite] at h; done) | (repeat' split at h) )
    all_goals (first | (cases h; done) | (simp [Option.map_eq_some_iff, cond_eq_ite] at h; done))
theorem stepK_ok {rec : Rec} (hrec : RecOK C rec) {o : Oper} {f : FuncId} {m : Nat} {xs : List Opd} (hop : cop C.P o.op = some (.call (.c (.fn f [])) xs)) (hs : rec (.kfn f) (xs.map (ev e)) H = some (s, H')) (hr : HR C ρ F H w) (he : ER w F ρ e a.tmps)
    {ro : Option Nat} {n : Nat} {K : Act → World → Prop} {Q : Exit → Act → World → Prop} (hK : ∀ val w', Done C ρ F H w s H' val w' → K (a.put o.dst val) w') : o.wpIn (WF ro) n C.P a w K Q := by
  refine ⟨fun _ _ => trivial, ?_⟩
  rw [Oper.semAt_eq _ _ _ (not_defer hop)]
  obtain ⟨c, ho, hcc⟩ := cop_call hop
  obtain ⟨g, hg, hf, hxs⟩ := ccall_call hcc
  obtain ⟨hn, hv⟩ := copds_vr hxs he
  have hargs : ArgsR w F ρ (xs.map (ev e)) (c.args.map a.eval) := ⟨by simpa using hn, hv⟩
  have hgv := copd_vr hf he
  simp only [ev] at hgv
  have hx0 : execOp a.eval o = (do let d ← Deferred.ofValue (a.eval g) (c.args.map a.eval); invoke d.target d.args) := by
    simp only [execOp, ho, resolve, hg]
  generalize hgval : a.eval g = gv at *
  cases hgv with
  | fn hn2 hv2 =>
    rename_i vs
    have hvs : vs = #[] := Array.eq_empty_of_size_eq_zero (by simpa using hn2.symm)
    subst hvs
    obtain ⟨h1, h2⟩ := hrec.kall _ _ _ _ _ hs ρ F w _ hr hargs
    rw [hx0]
    have hx : (do let d ← Deferred.ofValue (Value.func (.func f) #[] #[]) (c.args.map a.eval); invoke d.target d.args : Sem Next) = callFunc f (c.args.map a.eval) := by
      simp [Deferred.ofValue, invoke]
    rw [hx, h1]
    refine ⟨fun h => by simp at h, CallsIn.mono (h2 _) (fun e' w' he' => ?_)⟩
    obtain ⟨val, rfl, hd⟩ := he'
    exact hK val w' hd
theorem step1_ok {rec : Rec} (hrec : RecOK C rec) {o : Oper} {op : Op1} (hop : cop C.P o.op = some op) (hs : step1 rec e H op = some (s, H')) (hr : HR C ρ F H w) (he : ER w F ρ e a.tmps)
    {ro : Option Nat} {n : Nat} {K : Act → World → Prop} {Q : Exit → Act → World → Prop} (hK : ∀ val w', Done C ρ F H w s H' val w' → K (a.put o.dst val) w') : o.wpIn (WF ro) n C.P a w K Q := by
  refine ⟨fun _ _ => trivial, ?_⟩
  rw [Oper.semAt_eq _ _ _ (not_defer hop)]
  by_cases hc : ∃ f xs, op = .call f xs
  · obtain ⟨f, xs, rfl⟩ := hc
    obtain ⟨c, ho, hcc⟩ := cop_call hop
    obtain ⟨g, hg, hf, hxs⟩ := ccall_call hcc
    obtain ⟨hn, hv⟩ := copds_vr hxs he
    have hargs : ArgsR w F ρ (xs.map (ev e)) (c.args.map a.eval) := ⟨by simpa using hn, hv⟩
    have hgv := copd_vr hf he
    simp only [step1] at hs
    unfold scall at hs
    have key : ∀ (S : Sem Next), (execOp a.eval o) = (do let d ← Deferred.ofValue (a.eval g) (c.args.map a.eval); invoke d.target d.args) := fun _ => by
      simp only [execOp, ho, resolve, hg]
    split at hs
    · rename_i f' cs hfn
      rw [hfn] at hgv
      generalize hgval : a.eval g = gv at *
      cases hgv with
      | fn hn2 hv2 =>
        rename_i vs
        have ha := args_append hargs ⟨hn2, hv2⟩
        obtain ⟨h1, h2⟩ := hrec.call _ _ _ _ _ hs ρ F w _ hr ha
        rw [key (execOp a.eval o)]
        have hx : (do let d ← Deferred.ofValue (Value.func (.func f') #[] vs) (c.args.map a.eval); invoke d.target d.args : Sem Next) = callFunc f' (c.args.map a.eval ++ vs) := by
          simp [Deferred.ofValue, invoke]
        rw [hx, h1]
        refine ⟨fun h => by simp at h, CallsIn.mono (h2 _) (fun e' w' he' => ?_)⟩
        obtain ⟨val, rfl, hd⟩ := he'
        exact hK val w' hd
    · rename_i f' cs hfn
      rw [hfn] at hgv
      generalize hgval : a.eval g = gv at *
      cases hgv with
      | bfn hn2 hv2 =>
        rename_i vs
        have ha := args_append ⟨hn2, hv2⟩ hargs
        obtain ⟨h1, h2⟩ := hrec.call _ _ _ _ _ hs ρ F w _ hr ha
        rw [key (execOp a.eval o)]
        have hx : (do let d ← Deferred.ofValue (Value.func (.func f') vs #[]) (c.args.map a.eval); invoke d.target d.args : Sem Next) = callFunc f' (vs ++ c.args.map a.eval) := by
          simp [Deferred.ofValue, invoke]
        rw [hx, h1]
        refine ⟨fun h => by simp at h, CallsIn.mono (h2 _) (fun e' w' he' => ?_)⟩
        obtain ⟨val, rfl, hd⟩ := he'
        exact hK val w' hd
    · rename_i b hfn
      rw [hfn] at hgv
      generalize hgval : a.eval g = gv at *
      cases hgv with
      | yld h ha =>
        rename_i l
        obtain ⟨f', tmps, as1, bd, h1, h2⟩ := hrec.yld _ _ _ _ _ hs ρ F w _ l hr hargs h
        rw [key (execOp a.eval o)]
        have hx : (do let d ← Deferred.ofValue (Value.func (.yield l.blk) #[] #[]) (c.args.map a.eval); invoke d.target d.args : Sem Next) = Instr.yield l.blk (c.args.map a.eval) := by
          simp [Deferred.ofValue, invoke]
        rw [hx, h1]
        refine ⟨fun h => by simp at h, RoundIn.mono (h2 _) (fun e' w' he' => ?_)⟩
        obtain ⟨val, rfl, hd⟩ := he'
        exact hK val w' hd
    · cases hs
  · have hs' : sop e H op = some (s, H') := by
      unfold step1 at hs
      split at hs
      · exact absurd ⟨_, _, rfl⟩ hc
      · rename_i f m xs
        exfalso
        exact cop_noK hop
      · rename_i f xs
        exfalso
        exact cop_noV hop
      · exact hs
    obtain ⟨val, w', h1, h2⟩ := ok_op hop hr he hs'
    rcases h1 with h1 | ⟨h1, rfl⟩
    · rw [h1]; exact hK _ _ h2
    · rw [h1]; exact hK _ _ h2
end
end Go.Sh
namespace Go.Sh
set_option linter.unusedSectionVars false
set_option linter.unusedVariables false
set_option linter.unusedSimpArgs false
set_option linter.unnecessarySimpa false
section
variable {C : Ctx}
theorem HR.thaw {ρ : Map} {F : Nat → Prop} {H H1 : Heap} {w : World} (hr : HR C ρ F H w) {b : Nat} {x : SBlk} {l : Loc} {refs : Nat} (hH : hset H b .dead refs = some H1) (hb : H.bl[b]? = some x) (hx : x.live = true) (hl : ρ b = some l) (hnl : ∀ r st p, x ≠ .loop r st p) :
    HR C ρ (fun B => F B ∨ (l.virt = false ∧ B = l.blk)) H1 w ∧ Ext C ρ F H w ρ (fun B => F B ∨ (l.virt = false ∧ B = l.blk)) H1 w := by
  obtain ⟨p1, p2⟩ := hr.set (w' := w) (l' := l) (y := .dead) hH hb hx hl (Nat.le_refl _) (fun _ _ _ => rfl) (fun h => .inl ⟨h, rfl⟩) (.inl rfl) (fun h => by cases h) (fun h => by cases h) (fun ⟨r, st, p, h⟩ => absurd h (hnl r st p))
  rw [put_self hl] at p1 p2
  have hro : H.ro ≤ b ∧ b < H.bl.length ∧ H1.bl = H.bl.set b .dead := by
    unfold hset at hH
    replace hH := bif_some hH
    obtain ⟨h1, h2⟩ := hH
    simp at h1
    cases h2
    exact ⟨h1.1, h1.2, rfl⟩
  have hown : ∀ b' l1, Own ρ H1 b' l1 → b' ≠ b ∧ Own ρ H b' l1 := by
    intro b' l1 ⟨⟨y, hy, hyl⟩, hm, hv⟩
    have hne : b' ≠ b := by
      intro e
      subst e
      rw [hro.2.2] at hy
      simp [hro.2.1] at hy
      subst hy; cases hyl
    rw [hro.2.2, List.getElem?_set_ne (Ne.symm hne)] at hy
    exact ⟨hne, ⟨y, hy, hyl⟩, hm, hv⟩
  refine ⟨⟨p1.dom, fun b' y hy hyl => ?_, p1.apart, fun b' l1 ho => ⟨fun h => ?_, (p1.own b' l1 ho).2⟩, fun B hB => ?_⟩, ?_⟩
  · obtain ⟨l1, h1, h2⟩ := p1.live b' y hy hyl
    exact ⟨l1, h1, h2.mono (fun _ _ => rfl) (fun _ h => .inl h) (Map.le_refl _) (fun _ => rfl)⟩
  · rcases h with h | ⟨hv, h⟩
    · exact (p1.own b' l1 ho).1 h
    · obtain ⟨h1, h2⟩ := hown b' l1 ho
      exact h1 (hr.apart b' b l1 l h2 ⟨⟨x, hb, hx⟩, hl, hv⟩ h)
  · rcases hB with h | ⟨hv, h⟩
    · exact p1.fro B h
    · rw [h]; exact (hr.own b l ⟨⟨x, hb, hx⟩, hl, hv⟩).2
  · refine ⟨⟨p2.map, fun _ h => .inl h, fun B hB => ?_, p2.frame, p2.size, p2.old, p2.ro, p2.esc, fun N hN hc h0 b' y l1 hb1 hy hyl hm => (p2.inv N hN hc h0 b' y l1 hb1 hy hyl hm).mono (fun _ _ => rfl) (fun _ h => .inl h) (Map.le_refl _) (fun _ => rfl), p2.lp, p2.ln, p2.out⟩, p2.nd⟩
    rcases hB with h | ⟨hv, h⟩
    · exact .inl h
    · exact .inr (.inr ⟨b, l, ⟨⟨x, hb, hx⟩, hl, hv⟩, hro.1, h.symm⟩)
theorem vr_frozen {ρ ρ' : Map} {F F' : Nat → Prop} {H : Heap} {w : World} (hr : HR C ρ F H w) {b ver off n z : Nat} {L : List (List SV)} {ex : Bool} {val : Value} {l : Loc} (hv : VR w F ρ (.slc b ver off n) val) (hb : hget H b = some (.arr ver z L ex)) (hle : off + n ≤ L.length)
    (h0 : SV.refs.refsL ((L.drop off).take n).flatten = 0) (hl : ρ b = some l) (hFF : ∀ B, F B → F' B) (hF : l.virt = false → F' l.blk) : VR w F' ρ' (.lst z ((L.drop off).take n) false) val := by
  obtain ⟨l', z', L', ex', hl', hb', hbr, g1, g2⟩ := cur_slc hr (by unfold cur; simp [hb]) hv
  rw [hb] at hb'; cases hb'
  rw [hl] at hl'; cases hl'
  obtain ⟨b1, b2, b3, b4, b5, b6, b7, b8⟩ := hbr
  have hlen : ((L.drop off).take n).length = n := by simp; omega
  have hget : ∀ (i : Nat) cs, ((L.drop off).take n)[i]? = some cs → i < n ∧ L[off + i]? = some cs := by
    intro i cs hi
    rw [List.getElem?_take] at hi
    split at hi
    · rw [List.getElem?_drop] at hi; exact ⟨by assumption, hi⟩
    · cases hi
  cases hvi : l.virt with
  | true =>
    obtain ⟨q, rfl, rfl, rfl⟩ := g1 hvi
    have : VR w F' ρ' (.lst z [] false) (.slice q ([] : List (List SV)).length 0) := .lst (fun _ _ => undef) (Nat.le_refl _) (fun _ => rfl) (by simp) (.inl rfl) (by simp) (by simp)
    simpa using this
  | false =>
    obtain ⟨g3, q, rfl, g4⟩ := g2 hvi
    obtain ⟨vs, ty, fz, k1, k2, k3, k4⟩ := b8 hvi
    have hcell : ∀ (i j : Nat) cs c, ((L.drop off).take n)[i]? = some cs → cs[j]? = some c → ∃ v, vs[l.base + (off + i) * z + j]? = some v ∧ VR w F ρ c v ∧ c.ok1 = true := fun i j cs c hi hj => k4 _ cs (hget i cs hi).2 j c hj
    have hq : VR w F' ρ' (.lst z ((L.drop off).take n) false) (.slice q ((L.drop off).take n).length (l.cap - off)) := by
      refine .lst (fun i j => vs.getD (l.base + (off + i) * z + j) undef) (by omega) (fun h => by cases h) (fun i cs hi => b4 _ cs (hget i cs hi).2) ?_ (fun i j cs c hi hj => ?_) (fun i j cs c hi hj => ?_)
      · by_cases hn : n = 0
        · left; subst hn; simp
        · right
          refine ⟨l.blk, l.base + off * z, ?_, hF hvi, fun i j cs c hi hj => ?_⟩
          · rw [g4 (by omega), b3]
          · obtain ⟨v, h1, _⟩ := hcell i j cs c hi hj
            rw [cell_at k1, show l.base + off * z + i * z + j = l.base + (off + i) * z + j by rw [Nat.add_mul]; omega, h1]
            rw [Array.getD_eq_getD_getElem?, h1]; rfl
      · obtain ⟨v, h1, h2, h3⟩ := hcell i j cs c hi hj
        exact h3
      · obtain ⟨v, h1, h2, h3⟩ := hcell i j cs c hi hj
        rw [Array.getD_eq_getD_getElem?, h1]
        have hm : c ∈ ((L.drop off).take n).flatten := List.mem_flatten.2 ⟨cs, List.mem_of_getElem? hi, List.mem_of_getElem? hj⟩
        obtain ⟨m, hm⟩ := List.getElem?_of_mem hm
        have h5 := refsL_le (Nat.le_of_eq h0) m c hm
        have h6 := h2.cut 0 h5
        have : ρ.cut 0 = noMap := by funext b; simp [Map.cut]
        rw [this] at h6
        exact h6.mono (fun _ _ => rfl) hFF (Map.le_refl _)
    rw [hlen] at hq
    exact hq
theorem refs_lt {ρ : Map} {F : Nat → Prop} {w : World} {N : Nat} (hdom : ∀ b l, ρ b = some l → b < N) : ρ.cut N = ρ := by
  funext b
  unfold Map.cut
  split
  · rfl
  · rename_i h
    cases hb : ρ b with
    | none => rfl
    | some l => exact absurd (hdom b l hb) h
theorem cut_cut (ρ : Map) {N M : Nat} (h : M ≤ N) : (ρ.cut N).cut M = ρ.cut M := by
  funext b
  unfold Map.cut
  by_cases hb : b < M
  · simp [hb, show b < N by omega]
  · simp [hb]
structure Trunc (N : Nat) (H0 H H1 : Heap) : Prop where
  le : N ≤ H.bl.length
  clean : Clean N H.esc
  bl : H1.bl = H.bl.take N
  esc0 : ∀ p ∈ H0.esc, p ∈ H1.esc
  esc1 : ∀ p ∈ H.esc, p.1 < N → p ∈ H1.esc
  ro : H1.ro = H0.ro
theorem trunc_spec {N : Nat} {H0 H H1 : Heap} (h : trunc N H0 H = some H1) : Trunc N H0 H H1 := by
  unfold trunc at h
  replace h := bif_some h
  obtain ⟨hc, h⟩ := h
  cases h
  simp only [Bool.and_eq_true, decide_eq_true_eq] at hc
  refine ⟨hc.1, fun p hp => ?_, rfl, fun p hp => List.mem_append_left _ hp, fun p hp hl => List.mem_append_right _ (List.mem_filter.2 ⟨hp, by simpa using hl⟩), rfl⟩
  have := List.all_eq_true.1 hc.2 p hp
  simp only [Bool.not_eq_true', Bool.and_eq_false_iff, decide_eq_false_iff_not] at this
  omega
theorem HR.trunc {ρ0 ρ : Map} {F0 F : Nat → Prop} {H0 H H1 : Heap} {w0 w : World} {N : Nat} (hr0 : HR C ρ0 F0 H0 w0) (hN : H0.bl.length = N) (hr : HR C ρ F H w) (hx : Ext C ρ0 F0 H0 w0 ρ F H w) (ht : Trunc N H0 H H1) :
    HR C (ρ.cut N) F H1 w ∧ Ext C ρ0 F0 H0 w0 (ρ.cut N) F H1 w := by
  have hlen : H1.bl.length = N := by rw [ht.bl, List.length_take]; exact Nat.min_eq_left ht.le
  have hget : ∀ (b : Nat) x, H1.bl[b]? = some x → b < N ∧ H.bl[b]? = some x := by
    intro b x hb
    rw [ht.bl, List.getElem?_take] at hb
    split at hb
    · exact ⟨by assumption, hb⟩
    · cases hb
  have hcut : ∀ b l, ρ.cut N b = some l → b < N ∧ ρ b = some l := by
    intro b l hb
    unfold Map.cut at hb
    split at hb
    · exact ⟨by assumption, hb⟩
    · cases hb
  have hown : ∀ b l, Own (ρ.cut N) H1 b l → Own ρ H b l := by
    intro b l ⟨⟨x, hx, hxl⟩, hm, hv⟩
    exact ⟨⟨x, (hget b x hx).2, hxl⟩, (hcut b l hm).2, hv⟩
  have hinv : InvAt C N ρ F H w := hx.inv N ht.le ht.clean (fun _ b x l hb hbx hxl hl => by
    rw [refs_lt (F := F0) (w := w0) (fun b l h => hN ▸ hr0.dom b l h)]
    obtain ⟨l', h1, h2⟩ := hr0.live b x hbx hxl
    rw [hl] at h1; cases h1
    exact h2)
  refine ⟨⟨fun b l hb => by rw [hlen]; exact (hcut b l hb).1, fun b x hb hxl => ?_, fun b b' l l' h h' e => hr.apart b b' l l' (hown b l h) (hown b' l' h') e, fun b l ho => hr.own b l (hown b l ho), hr.fro⟩, ?_⟩
  · obtain ⟨h1, h2⟩ := hget b x hb
    obtain ⟨l, h3, _⟩ := hr.live b x h2 hxl
    exact ⟨l, by unfold Map.cut; rw [if_pos h1]; exact h3, hinv b x l h1 h2 hxl h3⟩
  · refine ⟨⟨fun b l hb => ?_, hx.fro, hx.new, hx.frame, hx.size, fun b l ho => hx.old b l (hown b l ho), ht.ro, ht.esc0, fun M hM hc h0 b x l hb hbx hxl hl => ?_, hx.lp, by rw [hlen]; omega, hx.out⟩, fun b l hb => hx.nd b l (hcut b l hb).2⟩
    · obtain ⟨l', h1, h2⟩ := hx.map b l hb
      have := hr0.dom b l hb
      exact ⟨l', by unfold Map.cut; rw [if_pos (by omega)]; exact h1, h2⟩
    · rw [hlen] at hM
      rw [cut_cut ρ hM]
      refine hx.inv M (Nat.le_trans hM ht.le) (fun p hp hpc => ?_) h0 b x l hb (hget b x hbx).2 hxl (hcut b l hl).2
      exact hc p (ht.esc1 p hp (by omega)) hpc
end
section
variable {C : Ctx} {ρ ρ0 ρ' : Map} {F F0 F' : Nat → Prop} {H H0 H' H1 : Heap} {w w0 w' : World}
theorem Ext.enter (hr : HR C ρ F H w) (h : Ext C ρ F { bl := H.bl, esc := [], ro := min H.ro H.bl.length } w ρ' F' H' w') (e1 : H1.bl = H'.bl) (e2 : H1.esc = H.esc ++ H'.esc) (e3 : H1.ro = H.ro) : Ext C ρ F H w ρ' F' H1 w' := by
  have hlt : ∀ b l, Own ρ { bl := H.bl, esc := [], ro := min H.ro H.bl.length } b l → Own ρ H b l ∧ b < H.bl.length := fun b l ho => ⟨ho, hr.dom b l ho.2.1⟩
  have hown : ∀ b l, Own ρ' H1 b l → Own ρ' H' b l := fun b l ⟨⟨x, hx, hxl⟩, hm, hv⟩ => ⟨⟨x, e1 ▸ hx, hxl⟩, hm, hv⟩
  refine ⟨⟨fun b l hb => ?_, h.fro, fun B hB => ?_, fun B hB hno => h.frame B hB (fun b l ho hm => hno b l ho (by have := (hlt b l ho).2; simp only at hm; omega)), h.size, fun b l ho => h.old b l (hown b l ho), e3, fun p hp => ?_, fun N hN hc h0 b x l hb hx hxl hl => ?_, h.lp, e1 ▸ h.ln, h.out⟩, h.nd⟩
  · obtain ⟨l', h1, h2⟩ := h.map b l hb
    refine ⟨l', h1, h2.imp id (fun ⟨a, c⟩ => ⟨?_, c⟩)⟩
    have := hr.dom b l hb
    simp only at a
    omega
  · rcases h.new B hB with h1 | h1 | ⟨b, l, h1, h2, h3⟩
    · exact .inl h1
    · exact .inr (.inl h1)
    · have := (hlt b l h1).2
      exact .inr (.inr ⟨b, l, h1, by simp only at h2; omega, h3⟩)
  · rw [e2]; exact List.mem_append_left _ hp
  · rw [e1] at hx hN
    exact h.inv N hN (fun p hp => hc p (by rw [e2]; exact List.mem_append_right _ hp)) h0 b x l hb hx hxl hl
theorem HR.bl (hr : HR C ρ F H w) (e1 : H1.bl = H.bl) : HR C ρ F H1 w :=
  ⟨fun b l h => e1 ▸ hr.dom b l h, fun b x hb hx => hr.live b x (e1 ▸ hb) hx, fun b b' l l' h h' e => hr.apart b b' l l' (by obtain ⟨⟨x, h1, h2⟩, h3⟩ := h; exact ⟨⟨x, e1 ▸ h1, h2⟩, h3⟩) (by obtain ⟨⟨x, h1, h2⟩, h3⟩ := h'; exact ⟨⟨x, e1 ▸ h1, h2⟩, h3⟩) e,
    fun b l h => hr.own b l (by obtain ⟨⟨x, h1, h2⟩, h3⟩ := h; exact ⟨⟨x, e1 ▸ h1, h2⟩, h3⟩), hr.fro⟩
theorem trunc_leave (hr0 : HR C ρ0 F0 H0 w0) (hr : HR C ρ F H w) (hx : Ext C ρ0 F0 { bl := H0.bl, esc := [], ro := min H0.ro H0.bl.length } w0 ρ F H w) (ht : trunc H0.bl.length H0 H = some H1) :
    HR C (ρ.cut H0.bl.length) F H1 w ∧ Ext C ρ0 F0 H0 w0 (ρ.cut H0.bl.length) F H1 w := by
  have hts := trunc_spec ht
  unfold Go.Sh.trunc at ht
  replace ht := bif_some ht
  obtain ⟨hc, ht⟩ := ht
  cases ht
  have hT : Trunc H0.bl.length { bl := H0.bl, esc := [], ro := min H0.ro H0.bl.length } H { bl := H.bl.take H0.bl.length, esc := H.esc.filter (fun p => decide (p.1 < H0.bl.length)), ro := min H0.ro H0.bl.length } :=
    ⟨hts.le, hts.clean, rfl, (fun _ h => by cases h), fun p hp hl => List.mem_filter.2 ⟨hp, by simpa using hl⟩, rfl⟩
  obtain ⟨p1, p2⟩ := HR.trunc (H0 := { bl := H0.bl, esc := [], ro := min H0.ro H0.bl.length }) (hr0.bl rfl) rfl hr hx hT
  exact ⟨p1.bl rfl, p2.enter hr0 rfl rfl rfl⟩
theorem HR.more (hr : HR C ρ F H w) (hFF : ∀ B, F B → F' B) (h : ∀ B, F' B → F B ∨ (B < w.heap.size ∧ ∀ b l, Own ρ H b l → l.blk ≠ B)) : HR C ρ F' H w :=
  ⟨hr.dom, fun b x hb hx => let ⟨l, h1, h2⟩ := hr.live b x hb hx; ⟨l, h1, h2.mono (fun _ _ => rfl) hFF (Map.le_refl _) (fun _ => rfl)⟩, hr.apart,
    fun b l ho => ⟨fun hF => (h _ hF).elim (hr.own b l ho).1 (fun h1 => h1.2 b l ho rfl), (hr.own b l ho).2⟩, fun B hB => (h B hB).elim (hr.fro B) (·.1)⟩
theorem Ext.more (hx : Ext C ρ0 F0 H0 w0 ρ F H w) (hFF : ∀ B, F B → F' B) (h : ∀ B, F' B → F B ∨ w0.heap.size ≤ B) : Ext C ρ0 F0 H0 w0 ρ F' H w :=
  ⟨⟨hx.map, fun B hB => hFF B (hx.fro B hB), fun B hB => (h B hB).elim (hx.new B) (fun h => .inr (.inl h)), hx.frame, hx.size, hx.old, hx.ro, hx.esc,
    fun N hN hc h0 b x l hb hxx hxl hl => (hx.inv N hN hc h0 b x l hb hxx hxl hl).mono (fun _ _ => rfl) hFF (Map.le_refl _) (fun _ => rfl), hx.lp, hx.ln, hx.out⟩, hx.nd⟩
theorem HR.other (hr : HR C ρ F H w) (hx : Ext C ρ0 F0 H0 w0 ρ F H w) (hs : w'.heap.size = w.heap.size) (ho' : w'.os = w.os ∧ w'.output = w.output)
    (hh : ∀ B, (F B ∨ (∃ b l, Own ρ H b l ∧ l.blk = B) ∨ B < w0.heap.size) → w'.heap[B]? = w.heap[B]?) : HR C ρ F H w' ∧ Ext C ρ0 F0 H0 w0 ρ F H w' := by
  have hk : Keeps F w w' := fun B hB => hh B (.inl hB)
  have ho : ∀ b l x, H.bl[b]? = some x → x.live = true → ρ b = some l → l.virt = false → w'.heap[l.blk]? = w.heap[l.blk]? := fun b l x h1 h2 h3 h4 => hh _ (.inr (.inl ⟨b, l, ⟨⟨x, h1, h2⟩, h3, h4⟩, rfl⟩))
  refine ⟨⟨hr.dom, fun b x hb hxl => ?_, hr.apart, fun b l h => ⟨(hr.own b l h).1, hs ▸ (hr.own b l h).2⟩, fun B hB => hs ▸ hr.fro B hB⟩, ?_⟩
  · obtain ⟨l, h1, h2⟩ := hr.live b x hb hxl
    exact ⟨l, h1, h2.mono hk (fun _ h => h) (Map.le_refl _) (fun hv => ho b l x hb hxl h1 hv)⟩
  · refine ⟨⟨hx.map, hx.fro, hx.new, fun B hB hno => (hh B (.inr (.inr hB))).trans (hx.frame B hB hno), hs ▸ hx.size, hx.old, hx.ro, hx.esc, fun N hN hc h0 b x l hb hxx hxl hl => ?_, fun B q hq => ?_, hx.ln, ⟨ho'.1.trans hx.out.1, ho'.2.trans hx.out.2⟩⟩, hx.nd⟩
    · exact (hx.inv N hN hc h0 b x l hb hxx hxl hl).mono hk (fun _ h => h) (Map.le_refl _) (fun hv => ho b l x hxx hxl hl hv)
    · obtain ⟨q', h1⟩ := hx.lp B q hq
      exact ⟨q', (hh B (.inr (.inr (Array.getElem?_eq_some_iff.1 hq).1))).trans h1⟩
theorem frz_ok1 {N : Nat} : ∀ (d : Nat) {v v' : SV}, frz N H d v = some v' → v.ok1 = true → v'.ok1 = true
  | 0, v, v', h, _ => by simp [frz] at h
  | d + 1, v, v', h, h1 => by
    unfold frz at h
    split at h
    · cases h1
    · cases h1
    · rename_i b ver off n
      cases hb : decide (b < N) with
      | true => rw [hb] at h; cases h; rfl
      | false =>
        rw [hb] at h
        simp only [cond_false] at h
        split at h
        · replace h := bif_some h
          obtain ⟨_, h⟩ := h
          simp only [Option.bind_eq_some_iff] at h
          obtain ⟨L', _, h⟩ := h
          replace h := bif_some h
          cases h.2; rfl
        · cases h
    · cases h; rfl
    · cases h; rfl
    · cases h; rfl
    · replace h := bif_some h
      cases h.2; exact h1
theorem frz_vr {N : Nat} (hr : HR C ρ F H w) (hFF : ∀ B, F B → F' B) (hF : ∀ b l, Own ρ H b l → N ≤ b → F' l.blk) : ∀ (d : Nat) {v v' : SV} {val : Value}, frz N H d v = some v' → VR w F ρ v val → VR w F' (ρ.cut N) v' val
  | 0, v, v', val, h, _ => by simp [frz] at h
  | d + 1, v, v', val, h, hv => by
    have ih := fun {v v' val} => frz_vr hr hFF hF d (v := v) (v' := v') (val := val)
    have small : ∀ {v : SV} {val : Value}, v.refs ≤ N → VR w F ρ v val → VR w F' (ρ.cut N) v val := fun h1 h2 => (h2.cut N h1).mono (fun _ _ => rfl) hFF (Map.le_refl _)
    unfold frz at h
    split at h
    · rename_i cs
      simp only [Option.map_eq_some_iff] at h
      obtain ⟨cs', h1, rfl⟩ := h
      obtain ⟨hl, hp⟩ := allS_map h1
      cases hv with
      | agg hn h1' hv' =>
        have hj : ∀ (j : Nat) c', cs'[j]? = some c' → ∃ c, cs[j]? = some c ∧ frz N H d c = some c' := fun j c' hj => by
          have hlt := (List.getElem?_eq_some_iff.1 hj).1
          have hc : cs[j]? = some cs[j] := List.getElem?_eq_getElem (by omega)
          exact ⟨_, hc, hp j _ _ hc hj⟩
        refine .agg (by omega) (fun j c' hjc => ?_) (fun j c' v hjc hjv => ?_)
        · obtain ⟨c, k1, k2⟩ := hj j c' hjc
          exact frz_ok1 d k2 (h1' j c k1)
        · obtain ⟨c, k1, k2⟩ := hj j c' hjc
          exact ih k2 (hv' j c v k1 hjv)
    · rename_i cs
      simp only [Option.map_eq_some_iff] at h
      obtain ⟨cs', h1, rfl⟩ := h
      obtain ⟨hl, hp⟩ := allS_map h1
      cases hv with
      | tup hn hv' =>
        refine .tup (by omega) (fun j c' v hjc hjv => ?_)
        have hlt := (List.getElem?_eq_some_iff.1 hjc).1
        have hc : cs[j]? = some cs[j] := List.getElem?_eq_getElem (by omega)
        exact ih (hp j _ _ hc hjc) (hv' j _ v hc hjv)
    · rename_i b ver off n
      cases hb : decide (b < N) with
      | true =>
        rw [hb] at h; cases h
        exact small (by simp only [SV.refs]; simp at hb; omega) hv
      | false =>
        rw [hb] at h
        simp only [decide_eq_false_iff_not, Nat.not_lt] at hb
        simp only [cond_false] at h
        split at h
        · rename_i ver' z L ex hbl
          replace h := bif_some h
          obtain ⟨hc, h⟩ := h
          simp only [Bool.and_eq_true, beq_iff_eq, decide_eq_true_eq] at hc
          obtain ⟨rfl, hle⟩ := hc
          simp only [Option.bind_eq_some_iff] at h
          obtain ⟨L', hL', h⟩ := h
          replace h := bif_some h
          obtain ⟨h0, h⟩ := h
          cases h
          have h0 : SV.refs.refsL L'.flatten = 0 := by simpa using h0
          obtain ⟨hl1, hp⟩ := allS_map hL'
          obtain ⟨l, z', L2, ex', hl', hb', hbr, g1, g2⟩ := cur_slc hr (by unfold cur; simp [hbl]) hv
          rw [hbl] at hb'; cases hb'
          obtain ⟨b1, b2, b3, b4, b5, b6, b7, b8⟩ := hbr
          have hlen : L'.length = n := by rw [hl1]; simp; omega
          have hget : ∀ (i : Nat) cs', L'[i]? = some cs' → ∃ cs, L[off + i]? = some cs ∧ cs'.length = cs.length ∧ ∀ (j : Nat) c', cs'[j]? = some c' → ∃ c, cs[j]? = some c ∧ frz N H d c = some c' := by
            intro i cs' hi
            have hlt := (List.getElem?_eq_some_iff.1 hi).1
            have hsrc : ((L.drop off).take n)[i]? = some ((L.drop off).take n)[i] := List.getElem?_eq_getElem (by omega)
            obtain ⟨k1, k2⟩ := allS_map (hp i _ _ hsrc hi)
            refine ⟨((L.drop off).take n)[i], ?_, k1, fun j c' hj => ?_⟩
            · rw [← hsrc, List.getElem?_take, if_pos (by omega), List.getElem?_drop]
            · have hlt' := (List.getElem?_eq_some_iff.1 hj).1
              have hcj : (((L.drop off).take n)[i])[j]? = some _ := List.getElem?_eq_getElem (by omega)
              exact ⟨_, hcj, k2 j _ _ hcj hj⟩
          cases hvi : l.virt with
          | true =>
            obtain ⟨q, rfl, rfl, rfl⟩ := g1 hvi
            have : L' = [] := List.eq_nil_of_length_eq_zero hlen
            subst this
            have : VR w F' (ρ.cut N) (.lst z [] (ex && 0 + 0 == L.length)) (.slice q ([] : List (List SV)).length 0) := .lst (fun _ _ => undef) (Nat.le_refl _) (fun _ => rfl) (by simp) (.inl rfl) (by simp) (by simp)
            simpa using this
          | false =>
            obtain ⟨g3, q, rfl, g4⟩ := g2 hvi
            obtain ⟨vs, ty, fz, k1, k2, k3, k4⟩ := b8 hvi
            have hcell : ∀ (i j : Nat) cs' c', L'[i]? = some cs' → cs'[j]? = some c' → ∃ v, vs[l.base + (off + i) * z + j]? = some v ∧ VR w F' (ρ.cut N) c' v ∧ c'.ok1 = true := by
              intro i j cs' c' hi hj
              obtain ⟨cs, h1, _, h3⟩ := hget i cs' hi
              obtain ⟨c, h4, h5⟩ := h3 j c' hj
              obtain ⟨v, h6, h7, h8⟩ := k4 _ cs h1 j c h4
              exact ⟨v, h6, ih h5 h7, frz_ok1 d h5 h8⟩
            have hFl : F' l.blk := hF b l ⟨⟨_, hbl, rfl⟩, hl', hvi⟩ hb
            have hq : VR w F' (ρ.cut N) (.lst z L' (ex && off + n == L.length)) (.slice q L'.length (l.cap - off)) := by
              refine .lst (fun i j => vs.getD (l.base + (off + i) * z + j) undef) (by omega) (fun h => by
                simp only [Bool.and_eq_true, beq_iff_eq] at h
                have := b6 h.1
                omega) (fun i cs' hi => ?_) ?_ (fun i j cs' c' hi hj => ?_) (fun i j cs' c' hi hj => ?_)
              · obtain ⟨cs, h1, h2, _⟩ := hget i cs' hi
                rw [h2]; exact b4 _ cs h1
              · by_cases hn : n = 0
                · left; exact List.eq_nil_of_length_eq_zero (by omega)
                · right
                  refine ⟨l.blk, l.base + off * z, ?_, hFl, fun i j cs' c' hi hj => ?_⟩
                  · rw [g4 (by omega), b3]
                  · obtain ⟨v, h1, _⟩ := hcell i j cs' c' hi hj
                    rw [cell_at k1, show l.base + off * z + i * z + j = l.base + (off + i) * z + j by rw [Nat.add_mul]; omega, h1]
                    rw [Array.getD_eq_getD_getElem?, h1]; rfl
              · obtain ⟨v, h1, h2, h3⟩ := hcell i j cs' c' hi hj
                exact h3
              · obtain ⟨v, h1, h2, h3⟩ := hcell i j cs' c' hi hj
                rw [Array.getD_eq_getD_getElem?, h1]
                have hm : c' ∈ L'.flatten := List.mem_flatten.2 ⟨cs', List.mem_of_getElem? hi, List.mem_of_getElem? hj⟩
                obtain ⟨m, hm⟩ := List.getElem?_of_mem hm
                have h6 := h2.cut 0 (refsL_le (Nat.le_of_eq h0) m c' hm)
                have : (ρ.cut N).cut 0 = noMap := by funext b; simp [Map.cut]
                rw [this] at h6
                exact h6
            rw [hlen] at hq
            exact hq
        · cases h
    · cases h; exact small (Nat.zero_le _) hv
    · cases h; exact small (Nat.zero_le _) hv
    · cases h; exact small (Nat.zero_le _) hv
    · replace h := bif_some h
      obtain ⟨h1, h⟩ := h
      cases h
      exact small (by simpa using h1) hv
theorem own_cut {ρ : Map} {N : Nat} {H H1 : Heap} (hb : H1.bl = H.bl.take N) : ∀ b l, Own (ρ.cut N) H1 b l → Own ρ H b l := by
  intro b l ⟨⟨x, hx, hxl⟩, hm, hv⟩
  rw [hb, List.getElem?_take] at hx
  unfold Map.cut at hm
  split at hx
  · rename_i hlt
    rw [if_pos hlt] at hm
    exact ⟨⟨x, hx, hxl⟩, hm, hv⟩
  · cases hx
theorem leave_ok {keep : Bool} {v v1 : SV} {val : Value} (hr0 : HR C ρ0 F0 H0 w0) (hr : HR C ρ F H w) (hx : Ext C ρ0 F0 { bl := H0.bl, esc := [], ro := min H0.ro H0.bl.length } w0 ρ F H w) (hv : VR w F ρ v val)
    (h : leave1 keep H0 v H = some (v1, H1)) : Done C ρ0 F0 H0 w0 v1 H1 val w := by
  unfold leave1 at h
  cases keep with
  | true =>
    cases h
    exact ⟨ρ, F, hv, hr.bl rfl, hx.enter hr0 rfl rfl rfl⟩
  | false =>
    simp only [cond_false, Option.bind_eq_some_iff, Option.map_eq_some_iff, Prod.mk.injEq] at h
    obtain ⟨v2, hf, H2, ht, rfl, rfl⟩ := h
    obtain ⟨p1, p2⟩ := trunc_leave hr0 hr hx ht
    have hts := trunc_spec ht
    refine ⟨_, fun B => F B ∨ ∃ b l, Own ρ H b l ∧ H0.bl.length ≤ b ∧ l.blk = B, frz_vr hr (fun _ h => .inl h) (fun b l ho hb => .inr ⟨b, l, ho, hb, rfl⟩) _ hf hv, p1.more (fun _ h => .inl h) (fun B hB => ?_), p2.more (fun _ h => .inl h) (fun B hB => ?_)⟩
    · rcases hB with h | ⟨b, l, ho, hb, rfl⟩
      · exact .inl h
      · refine .inr ⟨(hr.own b l ho).2, fun b' l' ho' e => ?_⟩
        have h1 := hr.apart b' b l' l (own_cut hts.bl b' l' ho') ho e
        have h2 := ho'.2.1
        unfold Map.cut at h2
        split at h2
        · omega
        · cases h2
    · rcases hB with h | ⟨b, l, ho, hb, rfl⟩
      · exact .inl h
      · rcases hx.old b l ho with h1 | ⟨l0, h1, _⟩
        · exact .inr h1
        · have := hr0.dom b l0 h1.2.1
          omega
theorem frz_self {N : Nat} {d : Nat} {v : SV} (h1 : v.ok1 = true) (h0 : v.refs = 0) : frz N H (d + 1) v = some v := by
  cases v <;> simp_all [frz, SV.ok1, SV.refs]
theorem allS_self {A : Type} {f : A → Option A} : ∀ (l : List A), (∀ x ∈ l, f x = some x) → allS (l.map f) = some l
  | [], _ => rfl
  | x :: l, h => by
    simp only [List.map_cons, h x (List.mem_cons_self ..), allS, allS_self l (fun y hy => h y (List.mem_cons_of_mem _ hy)), Option.map_some]
theorem ok_blist {e : Env} {a : Act} {s : SV} {o : Oper} {esz n : Nat} {z : List SV} {ps : List (Nat × Opd)} (hop : cop C.P o.op = some (.bslice esz z n ps))
    (hs : sop e H (.blist esz z n ps) = some (s, H')) (hr : HR C ρ F H w) (he : ER w F ρ e a.tmps) : OpOK C (execOp a.eval o) ρ F H w s H' := by
  simp only [sop, Option.map_eq_some_iff, Option.bind_eq_some_iff, Prod.mk.injEq] at hs
  obtain ⟨s', ⟨L, hL, h0⟩, rfl, rfl⟩ := hs
  replace h0 := bif_some h0
  obtain ⟨h0, h1⟩ := h0
  cases h1
  have h0 : SV.refs.refsL L.flatten = 0 := by simpa using h0
  have hlen : L.length = n := by
    have : ∀ (ps : List (Nat × Opd)) (l r : List (List SV)), fillS (ev e) esz l ps = some r → r.length = l.length := by
      intro ps
      induction ps with
      | nil => intro l r h; simp [fillS] at h; rw [h]
      | cons p ps ih =>
        intro l r h
        obtain ⟨i, x⟩ := p
        simp only [fillS, Option.bind_eq_some_iff] at h
        obtain ⟨cs, _, h⟩ := h
        replace h := bif_some h
        have := ih _ _ h.2
        simpa using this
    simpa using this ps _ _ hL
  let Hc : Heap := { bl := H.bl, esc := [], ro := min H.ro H.bl.length }
  have hsop : sop e Hc (.bslice esz z n ps) = some (.slc H.bl.length 0 0 n, hnew Hc (.arr 0 esz L true)) := by simp only [sop, hL, Option.map_some, Hc]
  obtain ⟨val, w', hy, ρ1, F1, d1, d2, d3⟩ := ok_op hop (hr.bl (H1 := Hc) rfl) he hsop
  have hg : hget (hnew Hc (.arr 0 esz L true)) H.bl.length = some (.arr 0 esz L true) := by simp [hget, hnew, Hc]
  obtain ⟨l, hl, hbr⟩ := d2.live _ _ hg rfl
  obtain ⟨b1, b2, b3, b4, b5, b6, b7, b8⟩ := hbr
  have hok : ∀ r ∈ L, ∀ c ∈ r, c.ok1 = true := by
    intro r hr' c hc
    obtain ⟨i, hi⟩ := List.getElem?_of_mem hr'
    obtain ⟨j, hj⟩ := List.getElem?_of_mem hc
    cases hv : l.virt with
    | true =>
      have := b7 hv
      have := (List.getElem?_eq_some_iff.1 hi).1
      omega
    | false =>
      obtain ⟨vs, ty, fz, k1, k2, k3, k4⟩ := b8 hv
      obtain ⟨v, _, _, h⟩ := k4 i r hi j c hj
      exact h
  have hrf : ∀ r ∈ L, ∀ c ∈ r, c.refs = 0 := by
    intro r hr' c hc
    obtain ⟨m, hm⟩ := List.getElem?_of_mem (List.mem_flatten.2 ⟨r, hr', hc⟩)
    have := refsL_le (Nat.le_of_eq h0) m c hm
    omega
  have hfz : allS (((L.drop 0).take n).map fun cs => allS (cs.map (frz H.bl.length (hnew Hc (.arr 0 esz L true)) 7))) = some L := by
    rw [List.drop_zero, List.take_of_length_le (by omega)]
    exact allS_self L (fun r hr' => allS_self r (fun c hc => frz_self (d := 6) (hok r hr' c hc) (hrf r hr' c hc)))
  have hleave : leave1 false H (.slc H.bl.length 0 0 n) (hnew Hc (.arr 0 esz L true)) = some (.lst esz L true, H) := by
    have h1 : frz H.bl.length (hnew Hc (.arr 0 esz L true)) 8 (.slc H.bl.length 0 0 n) = some (.lst esz L true) := by
      unfold frz
      simp only [Nat.lt_irrefl, decide_false, cond_false, hg]
      rw [hfz]
      simp [h0, hlen]
    have h2 : trunc H.bl.length H (hnew Hc (.arr 0 esz L true)) = some H := by
      simp [trunc, hnew, Hc]
    unfold leave1
    simp only [cond_false, depth1, h1, Option.bind_some, h2, Option.map_some]
  exact ⟨val, w', hy, leave_ok hr d2 d3 d1 hleave⟩
theorem box_virt (h1 : HR C ρ F H w) {n b z z' : Nat} (hn : ρ n = some ⟨0, 0, 0, z, 0, true, true⟩) (hb : H.bl[b]? = some (.box [.lst z' [] true])) (hB : hset H b (.box [.slc n 0 0 0]) (n + 1) = some H') :
    HR C ρ F H' w ∧ Ext C ρ F H w ρ F H' w := by
  obtain ⟨l, hl, hbr⟩ := h1.live b _ hb rfl
  have key : ∀ ρ1 ρ2 : Map, ρ2 n = some ⟨0, 0, 0, z, 0, true, true⟩ → BR C w F ρ1 l (.box [.lst z' [] true]) → BR C w F ρ2 l (.box [.slc n 0 0 0]) := by
    intro ρ1 ρ2 hρ ⟨g1, g2, g3, g4, g5, vs', ty, fz, g6, g7, g8, g9⟩
    refine ⟨g1, g2, g3, g4, g5, vs', ty, fz, g6, g7, g8, fun j c hj => ?_⟩
    cases j with
    | succ j => simp at hj
    | zero =>
      simp only [List.getElem?_cons_zero, Option.some.injEq] at hj
      subst hj
      obtain ⟨val, k1, k2, k3⟩ := g9 0 _ rfl
      refine ⟨val, k1, ?_, rfl⟩
      cases k2 with
      | lst V hcap hfull hz hat h1' hv' =>
        have hc := hfull rfl
        simp only [List.length_nil] at hc
        subst hc
        exact .slc hρ (Nat.le_refl _) rfl (fun _ => ⟨fun _ => ⟨_, rfl, rfl, rfl⟩, fun h => by cases h⟩)
  have := h1.set (w' := w) (l' := l) hB hb rfl hl (Nat.le_refl _) (fun _ _ _ => rfl) (fun h => .inl ⟨h, rfl⟩) (.inl rfl)
    (fun _ => by rw [put_self hl]; exact key _ _ hn hbr)
    (fun _ N hN hbN hbr => by rw [put_self hl]; exact key _ _ (by unfold Map.cut; rw [if_pos (by omega)]; exact hn) hbr)
  rwa [put_self hl] at this
theorem ok_allocV {e : Env} {a : Act} {s : SV} {o : Oper} {z : Nat} (hop : cop C.P o.op = some (.alloc [.lst 0 [] true])) (hs : sop e H (.allocV z) = some (s, H')) (hr : HR C ρ F H w) (he : ER w F ρ e a.tmps) : OpOK C (execOp a.eval o) ρ F H w s H' := by
  simp only [sop, Option.map_eq_some_iff, Prod.mk.injEq] at hs
  obtain ⟨H2, hB, rfl, rfl⟩ := hs
  obtain ⟨p1, p2⟩ := hr.push (w' := w) (Nat.le_refl _) (fun _ _ => rfl) (.arr 0 z [] false) ⟨0, 0, 0, z, 0, true, true⟩ (fun h => by cases h) ⟨rfl, rfl, rfl, by simp, by simp, by simp, fun _ => rfl, fun h => by cases h⟩
  have hlen : (hnew H (.arr 0 z [] false)).bl.length = H.bl.length + 1 := by simp [hnew]
  obtain ⟨val, w', hy, ρ2, F2, d1, d2, d3⟩ := ok_op hop p1 (p2.er hr he) (s := .ptr (H.bl.length + 1) 0 0 0) (H' := hnew (hnew H (.arr 0 z [] false)) (.box [.lst 0 [] true])) (by simp only [sop, hlen])
  have hg : (hnew (hnew H (.arr 0 z [] false)) (.box [.lst 0 [] true])).bl[H.bl.length]? = some (.arr 0 z [] false) := by simp [hnew]
  have hgb : (hnew (hnew H (.arr 0 z [] false)) (.box [.lst 0 [] true])).bl[H.bl.length + 1]? = some (.box [.lst 0 [] true]) := by simp [hnew]
  have hn : ρ2 H.bl.length = some ⟨0, 0, 0, z, 0, true, true⟩ := by
    obtain ⟨l', k1, k2⟩ := d3.map H.bl.length _ (Map.put_same _ _ _)
    rcases k2 with rfl | ⟨_, _, k3⟩
    · exact k1
    · obtain ⟨l2, j1, j2⟩ := d2.live _ _ hg rfl
      rw [k1] at j1; cases j1
      have := j2.2.1
      omega
  obtain ⟨q1, q2⟩ := box_virt d2 hn hgb hB
  exact ⟨val, w', hy, ρ2, F2, d1, q1, p2.trans (d3.trans q2)⟩
theorem scal1_vr {ρ ρ' : Map} {F F' : Nat → Prop} {w w' : World} {c : SV} {v : Value} (h : scal1 c = true) (hv : VR w F ρ c v) : VR w' F' ρ' c v := by
  cases c <;> simp only [scal1, Bool.false_eq_true] at h
  · cases hv; exact .bool _
  · cases hv; exact .int _ _
  · cases hv; exact .str _
theorem scal_vr {ρ ρ' : Map} {F F' : Nat → Prop} {w w' : World} {c : SV} {v : Value} (h : scal c = true) (hv : VR w F ρ c v) : VR w' F' ρ' c v := by
  unfold scal at h
  split at h
  · cases hv with
    | tup hn hv => exact .tup hn (fun j c v hj hv' => scal1_vr (List.all_eq_true.1 h c (List.mem_of_getElem? hj)) (hv j c v hj hv'))
  · cases hv with
    | agg hn h1 hv => exact .agg hn h1 (fun j c v hj hv' => scal1_vr (List.all_eq_true.1 h c (List.mem_of_getElem? hj)) (hv j c v hj hv'))
  · exact scal1_vr h hv
theorem stepV_ok {rec : Rec} (hrec : RecOK C rec) {e : Env} {a : Act} {s : SV} {o : Oper} {f : FuncId} {xs : List Opd} (hop : cop C.P o.op = some (.call (.c (.fn f [])) xs)) (hs : vcall rec f (xs.map (ev e)) H = some (s, H')) (hr : HR C ρ F H w) (he : ER w F ρ e a.tmps)
    {ro : Option Nat} {n : Nat} {K : Act → World → Prop} {Q : Exit → Act → World → Prop} (hK : ∀ val w', Done C ρ F H w s H' val w' → K (a.put o.dst val) w') : o.wpIn (WF ro) n C.P a w K Q := by
  refine ⟨fun _ _ => trivial, ?_⟩
  rw [Oper.semAt_eq _ _ _ (not_defer hop)]
  obtain ⟨c, ho, hcc⟩ := cop_call hop
  obtain ⟨g, hg, hf, hxs⟩ := ccall_call hcc
  obtain ⟨hn, hv⟩ := copds_vr hxs he
  have hgv := copd_vr hf he
  simp only [ev] at hgv
  unfold vcall at hs
  simp only [Option.bind_eq_some_iff] at hs
  obtain ⟨vs1, hvs1, r, hrec1, hs⟩ := hs
  replace hs := bif_some hs
  obtain ⟨hsc, hs⟩ := hs
  simp only [Option.some.injEq, Prod.mk.injEq] at hs
  obtain ⟨hs1, hs2⟩ := hs
  subst hs1
  subst hs2
  obtain ⟨r1, r2⟩ := r
  let F2 : Nat → Prop := fun B => F B ∨ ∃ b l, Own ρ H b l ∧ l.blk = B
  have hcut : ρ.cut 0 = noMap := by funext b; simp [Map.cut]
  have hargs : ArgsR w F2 noMap vs1 (c.args.map a.eval) := by
    have key : ∀ (l : List SV) (vs1 : List SV) (vals : List Value), allS (l.map (frz 0 H depth1)) = some vs1 → l.length = vals.length → (∀ (j : Nat) x v, l[j]? = some x → vals[j]? = some v → VR w F ρ x v) →
        vs1.length = vals.length ∧ ∀ (j : Nat) x v, vs1[j]? = some x → vals[j]? = some v → VR w F2 noMap x v := by
      intro l
      induction l with
      | nil => intro vs1 vals h hl _; simp [allS] at h; subst h; exact ⟨hl, fun j x v hj => by simp at hj⟩
      | cons y l ih =>
        intro vs1 vals h hl hv
        simp only [List.map_cons] at h
        cases hy : frz 0 H depth1 y with
        | none => rw [hy] at h; simp [allS] at h
        | some y' =>
          rw [hy] at h
          simp only [allS, Option.map_eq_some_iff] at h
          obtain ⟨vs2, h2, rfl⟩ := h
          cases vals with
          | nil => simp at hl
          | cons val vals =>
            obtain ⟨k1, k2⟩ := ih vs2 vals h2 (by simpa using hl) (fun j x v hj hv' => hv (j + 1) x v (by simpa using hj) (by simpa using hv'))
            refine ⟨by simp [k1], fun j x v hj hv' => ?_⟩
            cases j with
            | zero =>
              simp at hj hv'
              subst hj; subst hv'
              have := frz_vr (F' := F2) hr (fun _ h => .inl h) (fun b l ho _ => .inr ⟨b, l, ho, rfl⟩) _ hy (hv 0 y val rfl rfl)
              rwa [hcut] at this
            | succ j => exact k2 j x v (by simpa using hj) (by simpa using hv')
    obtain ⟨k1, k2⟩ := key (xs.map (ev e)) vs1 (c.args.map a.eval).toList hvs1 (by simpa using hn) (fun j x v hj hv' => hv j x v hj (by simpa using hv'))
    exact ⟨by simpa using k1, fun j x v hj hv' => k2 j x v hj (by simpa using hv')⟩
  have hr0 : HR C noMap F2 { bl := [], esc := [], ro := 0 } w := ⟨(fun b l h => by cases h), (fun b x h => by simp at h), (fun b b' l l' h => by cases h.2.1), (fun b l h => by cases h.2.1), fun B hB => by
    rcases hB with h | ⟨b, l, ho, rfl⟩
    · exact hr.fro B h
    · exact (hr.own b l ho).2⟩
  have hx0 : execOp a.eval o = (do let d ← Deferred.ofValue (a.eval g) (c.args.map a.eval); invoke d.target d.args) := by
    simp only [execOp, ho, resolve, hg]
  generalize hgval : a.eval g = gv at *
  cases hgv with
  | fn hn2 hv2 =>
    rename_i vs
    have hvs : vs = #[] := Array.eq_empty_of_size_eq_zero (by simpa using hn2.symm)
    subst hvs
    obtain ⟨h1, h2⟩ := hrec.call _ _ _ _ _ hrec1 noMap F2 w _ hr0 hargs
    rw [hx0]
    have hx : (do let d ← Deferred.ofValue (Value.func (.func f) #[] #[]) (c.args.map a.eval); invoke d.target d.args : Sem Next) = callFunc f (c.args.map a.eval) := by
      simp [Deferred.ofValue, invoke]
    rw [hx, h1]
    refine ⟨fun h => by simp at h, CallsIn.mono (h2 _) (fun e' w' he' => ?_)⟩
    obtain ⟨val, rfl, ρ1, F1, d1, d2, d3⟩ := he'
    have hno : ∀ b l, ¬ Own noMap { bl := [], esc := [], ro := 0 } b l := fun b l h => by cases h.2.1
    obtain ⟨p1, p2⟩ := hr.same d3.size (fun B hB => d3.frame B hB (fun b l ho => absurd ho (hno b l))) d3.out
    exact hK val w' ⟨ρ, F, scal_vr hsc d1, p1, p2⟩
theorem step1_lit {rec : Rec} (hrec : RecOK C rec) {e : Env} {a : Act} {s : SV} {o : Oper} {op : Op1} {b : LitK} (hop : op = lit1 b ((cop C.P o.op).getD .bad)) (hs : step1 rec e H op = some (s, H')) (hr : HR C ρ F H w) (he : ER w F ρ e a.tmps)
    {ro : Option Nat} {n : Nat} {K : Act → World → Prop} {Q : Exit → Act → World → Prop} (hK : ∀ val w', Done C ρ F H w s H' val w' → K (a.put o.dst val) w') : o.wpIn (WF ro) n C.P a w K Q := by
  cases hc : cop C.P o.op with
  | none =>
    rw [hc] at hop
    have : op = .bad := by rw [hop]; cases b <;> rfl
    subst this
    cases hs
  | some op0 =>
    rw [hc] at hop
    simp only [Option.getD_some] at hop
    by_cases hk : ∃ m g xs, b = .keep m ∧ op0 = .call (.c (.fn g [])) xs
    · obtain ⟨m, g, xs, rfl, rfl⟩ := hk
      subst hop
      exact stepK_ok (m := m) hrec hc hs hr he hK
    by_cases hvw : ∃ g xs, b = .view ∧ op0 = .call (.c (.fn g [])) xs
    · obtain ⟨g, xs, rfl, rfl⟩ := hvw
      subst hop
      exact stepV_ok hrec hc hs hr he hK
    by_cases hl : ∃ esz z n ps, b = .list ∧ op0 = .bslice esz z n ps
    · obtain ⟨esz, z, m, ps, rfl, rfl⟩ := hl
      subst hop
      obtain ⟨val, w', h1, h2⟩ := ok_blist hc hs hr he
      refine ⟨fun _ _ => trivial, ?_⟩
      rw [Oper.semAt_eq _ _ _ (not_defer hc)]
      rcases h1 with h1 | ⟨h1, rfl⟩
      · rw [h1]; exact hK _ _ h2
      · rw [h1]; exact hK _ _ h2
    by_cases hvb : ∃ z, b = .vbox z ∧ op0 = .alloc [.lst 0 [] true]
    · obtain ⟨z, rfl, rfl⟩ := hvb
      subst hop
      obtain ⟨val, w', h1, h2⟩ := ok_allocV hc hs hr he
      refine ⟨fun _ _ => trivial, ?_⟩
      rw [Oper.semAt_eq _ _ _ (not_defer hc)]
      rcases h1 with h1 | ⟨h1, rfl⟩
      · rw [h1]; exact hK _ _ h2
      · rw [h1]; exact hK _ _ h2
    · have : op = op0 := by
        rw [hop]
        unfold lit1
        split
        · exact absurd ⟨_, _, _, _, rfl, rfl⟩ hl
        · exact absurd ⟨_, _, _, rfl, rfl⟩ hk
        · exact absurd ⟨_, _, rfl, rfl⟩ hvw
        · exact absurd ⟨_, rfl, rfl⟩ hvb
        · rfl
      subst this
      exact step1_ok hrec hc hs hr he hK
end
end Go.Sh
namespace Go.Sh
set_option linter.unusedSectionVars false
set_option linter.unusedVariables false
set_option linter.unusedSimpArgs false
set_option linter.unnecessarySimpa false
def MarkAt (ρ : Map) (F : Nat → Prop) (H : Heap) (w : World) (lo D : Nat) : Prop := lo ≤ D ∧ w.heap[D]? = some (.deferred (some [])) ∧ ¬ F D ∧ ∀ b l, Own ρ H b l → l.blk ≠ D
def Marks (ρ : Map) (F : Nat → Prop) (H : Heap) (w : World) (lo : Nat) (ds : List Deferred) : Prop := lo ≤ w.heap.size ∧ ∃ Ds : List Nat, ds.map (·.target) = Ds.map Target.collected ∧ Ds.Nodup ∧
  ∀ D ∈ Ds, MarkAt ρ F H w lo D
structure Base where
  ρ : Map
  F : Nat → Prop
  H : Heap
  w : World
  lo : Nat
def Rel (C : Ctx) (nt : Nat) (B : Base) (e : Env) (H : Heap) (a : Act) (w : World) : Prop :=
  ∃ ρ F, HR C ρ F H w ∧ ER w F ρ e a.tmps ∧ Ext C B.ρ B.F B.H B.w ρ F H w ∧ nt ≤ a.tmps.size ∧ Marks ρ F H w B.lo a.defers
section
variable {C : Ctx} {ρ ρ' : Map} {F F' : Nat → Prop} {H H' : Heap} {w w' : World} {e : Env} {a : Act} {s c d : SV} {B : Base} {nt : Nat}
theorem MarkAt.ext {lo D : Nat} (hx : Ext0 C ρ F H w ρ' F' H' w') (h : MarkAt ρ F H w lo D) : MarkAt ρ' F' H' w' lo D := by
  obtain ⟨k1, k2, k3, k4⟩ := h
  have hlt : D < w.heap.size := (Array.getElem?_eq_some_iff.1 k2).1
  refine ⟨k1, (hx.frame D hlt (fun b l ho _ => k4 b l ho)).trans k2, fun hF => ?_, fun b l ho => ?_⟩
  · rcases hx.new D hF with h | h | ⟨b, l, ho, _, e⟩
    · exact k3 h
    · omega
    · exact k4 b l ho e
  · rcases hx.old b l ho with h4 | ⟨l0, h4, h5⟩
    · omega
    · rw [← h5]; exact k4 b l0 h4
theorem Marks.ext {lo : Nat} (hx : Ext0 C ρ F H w ρ' F' H' w') {ds : List Deferred} (h : Marks ρ F H w lo ds) : Marks ρ' F' H' w' lo ds := by
  obtain ⟨h0, Ds, h1, h2, h3⟩ := h
  exact ⟨Nat.le_trans h0 hx.size, Ds, h1, h2, fun D hD => (h3 D hD).ext hx⟩
theorem Marks.less {lo : Nat} (h : ∀ b l, Own ρ' H' b l → Own ρ H b l) {ds : List Deferred} (hm : Marks ρ F H w lo ds) : Marks ρ' F H' w lo ds := by
  obtain ⟨h0, Ds, h1, h2, h3⟩ := hm
  exact ⟨h0, Ds, h1, h2, fun D hD => let ⟨k1, k2, k3, k4⟩ := h3 D hD; ⟨k1, k2, k3, fun b l ho => k4 b l (h b l ho)⟩⟩
theorem Marks.moved {lo : Nat} (h : ∀ b l, Own ρ' H' b l → ∃ b0 l0, Own ρ H b0 l0 ∧ l0.blk = l.blk) {ds : List Deferred} (hm : Marks ρ F H w lo ds) : Marks ρ' F H' w lo ds := by
  obtain ⟨h0, Ds, h1, h2, h3⟩ := hm
  exact ⟨h0, Ds, h1, h2, fun D hD => let ⟨k1, k2, k3, k4⟩ := h3 D hD; ⟨k1, k2, k3, fun b l ho => by obtain ⟨b0, l0, o, e⟩ := h b l ho; exact e ▸ k4 b0 l0 o⟩⟩
theorem er_put (he : ER w F ρ e a.tmps) {d : Nat} {val : Value} (hd : d < a.tmps.size) (hv : VR w F ρ s val) : ER w F ρ ((d, s) :: e) (a.tmps.setIfInBounds d val) := by
  intro t
  simp only [get]
  by_cases h : t = d
  · subst h
    simp [hd, hv]
  · have h1 : (t == d) = false := by simp [h]
    rw [h1]
    simp only [cond_false]
    have : (a.tmps.setIfInBounds d val).getD t undef = a.tmps.getD t undef := by
      simp only [Array.getD_eq_getD_getElem?, Array.getElem?_setIfInBounds_ne (Ne.symm h)]
    rw [this]
    exact he t
theorem Rel.step (h : Rel C nt B e H a w) {P : Map → (Nat → Prop) → Prop} : ∃ ρ F, HR C ρ F H w ∧ ER w F ρ e a.tmps ∧ ∀ (dst : Option Nat) s H' val w', (∀ d, dst = some d → d < nt) → Done C ρ F H w s H' val w' → Rel C nt B (bind1 e dst s) H' (a.put dst val) w' := by
  obtain ⟨ρ, F, h1, h2, h3, h4, h5⟩ := h
  refine ⟨ρ, F, h1, h2, fun dst s H' val w' hd ⟨ρ', F', k1, k2, k3⟩ => ⟨ρ', F', k2, ?_, h3.trans k3, ?_, ?_⟩⟩
  · cases dst with
    | none => exact k3.er h1 h2
    | some d => exact er_put (k3.er h1 h2) (Nat.lt_of_lt_of_le (hd d rfl) h4) k1
  · cases dst with
    | none => exact h4
    | some d => simpa [Act.put] using h4
  · have : (a.put dst val).defers = a.defers := by cases dst <;> rfl
    rw [this]
    exact h5.ext k3.toExt0
theorem vr_skp {v : Value} (h : VR w F ρ .skp v) : v = undef := by cases h; rfl
theorem getD_bool {t : Array Value} {i : Nat} {b : Bool} (h : t.getD i undef = .bool b) : t[i]? = some (.bool b) := by
  rw [Array.getD_eq_getD_getElem?] at h
  cases hi : t[i]? with
  | none => rw [hi] at h; cases h
  | some v => rw [hi] at h; simp at h; rw [h]
theorem yielded_und {ops : Array Oper} {t : Array Value} {j i : Nat} (ht : ops[j]?.bind (·.dst) = some i) (htv : t.getD i undef = undef) : yielded ops t j = none := by
  rw [Array.getD_eq_getD_getElem?] at htv
  simp only [yielded, ht, Option.bind_some]
  cases hi : t[i]? with
  | none => rfl
  | some v => rw [hi] at htv; simp only [Option.getD_some] at htv; rw [htv]; rfl
theorem runOps_part {f : FuncId} {rec : Rec} (hrec : RecOK C rec) {ops : Array Oper} {ro : Option Nat} {n : Nat} {Q : Exit → Act → World → Prop} {R : Type} {k : Env → Heap → Option R} {r : R}
    {rest : List Nat} {m : Nat} (hm : m ≤ ops.size) (hk : ∀ e' H' a' w', k e' H' = some r → Rel C nt B e' H' a' w' → wpOpsIn (WF ro) n C.P ops Q rest a' w') :
    ∀ (j i : Nat) (l : List Oper1), i + j = m → allS (((ops.toList.take m).drop i).map (coper C.P C.pol f nt ops)) = some l → ∀ e H a w, runOps rec l e H k () = some r → Rel C nt B e H a w → wpOpsIn (WF ro) n C.P ops Q (List.range' i j ++ rest) a w := by
  intro j
  induction j with
  | zero =>
    intro i l hi hl e H a w h hrel
    rw [List.drop_of_length_le (by simp; omega)] at hl
    simp [allS] at hl
    subst hl
    exact hk e H a w h hrel
  | succ j ih =>
    intro i l hi hl e H a w h hrel
    have hlt : i < ops.size := by omega
    rw [List.drop_eq_getElem_cons (by simp; omega), List.map_cons] at hl
    rw [List.getElem_take] at hl
    cases hco : coper C.P C.pol f nt ops ops.toList[i] with
    | none => rw [hco] at hl; simp [allS] at hl
    | some o1 =>
      rw [hco] at hl
      simp only [allS, Option.map_eq_some_iff] at hl
      obtain ⟨l', hl', rfl⟩ := hl
      have ih' := ih (i + 1) l' (by omega) hl'
      have hoi : ops[i]? = some ops.toList[i] := by simp [hlt]
      generalize ops.toList[i] = o at *
      simp only [List.range'_succ, List.cons_append, wpOpsIn, hoi]
      unfold coper at hco
      replace hco := bif_none hco
      obtain ⟨hdst, hco⟩ := hco
      have hd : ∀ d, o.dst = some d → d < nt := fun d hd => by
        rw [hd] at hdst; simpa using hdst
      obtain ⟨ρ, F, hr, he, hput⟩ := hrel.step (P := fun _ _ => True)
      have hgo : ∀ op1, op1 = lit1 (lk C.pol f o.dst) ((cop C.P o.op).getD .bad) → onSome (step1 rec e H op1) (fun r => runOps rec l' (bind1 e o.dst r.1) r.2 k ()) () = some r → o.wpIn (WF ro) n C.P a w (wpOpsIn (WF ro) n C.P ops Q (List.range' (i + 1) j ++ rest)) Q := by
        intro op1 hop h
        cases hs : step1 rec e H op1 with
        | none => rw [hs] at h; cases h
        | some p =>
          rw [hs] at h
          obtain ⟨s, H'⟩ := p
          simp only [onSome] at h
          exact step1_lit hrec hop hs hr he (fun val w' hdn => ih' _ _ _ _ h (hput o.dst s H' val w' hd hdn))
      split at hco
      · rename_i hg
        cases hco
        simp only [runOps] at h
        have hw : Region.wanted o (yielded ops a.tmps) = true := by simp [Region.wanted, hg]
        rw [hw, if_pos rfl]
        exact hgo _ rfl h
      · rename_i j' want hg
        split at hco
        · rename_i t ht
          cases hco
          simp only [runOps] at h
          unfold onGuard at h
          split at h
          · rename_i b hb
            have htv : a.tmps.getD t undef = .bool b := by
              have := he t
              rw [hb] at this
              exact vr_bool this
            have hy : yielded ops a.tmps j' = some b := by
              simp only [yielded, ht, Option.bind_some, getD_bool htv]
            unfold fork at h
            dsimp only at h
            cases hbw : (b == want) with
            | true =>
              rw [hbw] at h
              have hw : Region.wanted o (yielded ops a.tmps) = true := by
                simp only [Region.wanted, hg, hy]; simpa using hbw
              rw [hw, if_pos rfl]
              exact hgo _ rfl h
            | false =>
              rw [hbw] at h
              have hw : ¬ Region.wanted o (yielded ops a.tmps) = true := by
                simp only [Region.wanted, hg, hy]; simpa using hbw
              rw [if_neg hw]
              exact ⟨fun _ _ => trivial, ih' _ _ _ _ h (hput o.dst .skp H undef w hd (Done.same hr .skp))⟩
          · rename_i hb
            have htv : a.tmps.getD t undef = undef := by
              have := he t
              rw [hb] at this
              exact vr_skp this
            have hy : yielded ops a.tmps j' = none := by
              rw [Array.getD_eq_getD_getElem?] at htv
              simp only [yielded, ht, Option.bind_some]
              cases hi : a.tmps[t]? with
              | none => rfl
              | some v => rw [hi] at htv; simp only [Option.getD_some] at htv; rw [htv]; rfl
            have hw : ¬ Region.wanted o (yielded ops a.tmps) = true := by
              simp only [Region.wanted, hg, hy]; simp
            rw [if_neg hw]
            exact ⟨fun _ _ => trivial, ih' _ _ _ _ h (hput o.dst .skp H undef w hd (Done.same hr .skp))⟩
          · cases h
        · cases hco
theorem runOps_ok {f : FuncId} {rec : Rec} (hrec : RecOK C rec) {ops : Array Oper} {ro : Option Nat} {n : Nat} {Q : Exit → Act → World → Prop} {R : Type} {k : Env → Heap → Option R} {r : R}
    (hk : ∀ e' H' a' w', k e' H' = some r → Rel C nt B e' H' a' w' → Q .normal a' w') :
    ∀ (j i : Nat) (l : List Oper1), i + j = ops.size → allS ((ops.toList.drop i).map (coper C.P C.pol f nt ops)) = some l → ∀ e H a w, runOps rec l e H k () = some r → Rel C nt B e H a w → wpOpsIn (WF ro) n C.P ops Q (List.range' i j) a w := by
  intro j i l hi hl e H a w h hrel
  have := runOps_part hrec (f := f) (ops := ops) (ro := ro) (n := n) (Q := Q) (rest := []) (m := ops.size) (Nat.le_refl _) (k := k) (r := r) (fun e' H' a' w' h hr => hk e' H' a' w' h hr) j i l hi (by
    rw [List.take_of_length_le (by simp)]; exact hl) e H a w h hrel
  simpa using this
end
end Go.Sh
namespace Go.Sh
set_option linter.unusedSectionVars false
set_option linter.unusedVariables false
set_option linter.unusedSimpArgs false
set_option linter.unnecessarySimpa false
def exitOf : SEx → Exit
  | .normal => .normal
  | .exit id => .exit id
  | .ret => .ret
section
variable {C : Ctx} {rec : Rec} {f : FuncId} {nt : Nat}
def CodeOK (C : Ctx) (rec : Rec) (nt : Nat) (c : Code) (c1 : Code1) : Prop :=
  ∀ (ro : Option Nat) (n : Nat) (B : Base) (Q : Exit → Act → World → Prop) (R : Type) (k : SEx → Env → Heap → Option R) (r : R) (e : Env) (H : Heap) (a : Act) (w : World),
    (∀ l, ro = some l → ∃ q, B.w.heap[l]? = some (.loop q)) → run rec c1 e H k () = some r → (∀ x e' H' a' w', k x e' H' = some r → Rel C nt B e' H' a' w' → Q (exitOf x) a' w') → Rel C nt B e H a w → c.wpIn (WF ro) n C.P Q a w
theorem freeze_ok {B : Base} {e : Env} {H H1 : Heap} {a : Act} {w : World} {t : Nat} {v : SV} (h : frzT H (get e t) = some (v, H1)) (hr : Rel C nt B e H a w) : Rel C nt B ((t, v) :: e) H1 a w := by
  obtain ⟨ρ, F, h1, h2, h3, h4, h5⟩ := hr
  have put : ∀ {w : World} {F : Nat → Prop} {ρ : Map}, ER w F ρ e a.tmps → VR w F ρ v (a.tmps.getD t undef) → ER w F ρ ((t, v) :: e) a.tmps := fun he hv i => by
    simp only [get]
    cases hi : (i == t) with
    | true =>
      have : i = t := by simpa using hi
      subst this
      exact hv
    | false => exact he i
  unfold frzT at h
  split at h
  · rename_i b ver off n hbe
    split at h
    · rename_i ver' z L ex hb
      replace h := bif_some h
      obtain ⟨hc, h⟩ := h
      simp only [Bool.and_eq_true, beq_iff_eq, decide_eq_true_eq] at hc
      obtain ⟨⟨rfl, hle⟩, h0⟩ := hc
      simp only [Option.map_eq_some_iff, Prod.mk.injEq] at h
      obtain ⟨H2, hH, rfl, rfl⟩ := h
      obtain ⟨l, hl, hbr⟩ := h1.live b _ hb rfl
      obtain ⟨p1, p2⟩ := h1.thaw hH hb rfl hl (fun _ _ _ h => by cases h)
      have hv := h2 t
      rw [hbe] at hv
      exact ⟨ρ, _, p1, put (p2.er h1 h2) (vr_frozen h1 hv hb hle h0 hl (fun _ h => .inl h) (fun h => .inr ⟨h, rfl⟩)), h3.trans p2, h4, h5.ext p2.toExt0⟩
    · cases h
  · rename_i z L f hbe
    cases h
    have hv := h2 t
    rw [hbe] at hv
    exact ⟨ρ, F, h1, put h2 hv, h3, h4, h5⟩
  · cases h
theorem freezes_ok {c : Code} {c1 : Code1} (h : CodeOK C rec nt c c1) : ∀ ts, CodeOK C rec nt c (freezes c1 ts)
  | [] => h
  | t :: ts => by
    intro ro n B Q R k r e H a w hro hrun hk hrel
    simp only [freezes, run] at hrun
    unfold onSome at hrun
    split at hrun
    · rename_i p hp
      exact freezes_ok h ts ro n B Q R k r _ _ a w hro hrun hk (freeze_ok hp hrel)
    · cases hrun
end
end Go.Sh
namespace Go.Sh
set_option linter.unusedSectionVars false
set_option linter.unusedVariables false
set_option linter.unusedSimpArgs false
set_option linter.unnecessarySimpa false
section
variable {C : Ctx} {rec : Rec} {f : FuncId} {nt : Nat}
theorem loop1_spec {f : Env × Heap → Option Out} {s : Env × Heap} {o : Out} (h : loop1 f s = some o) : ∃ m, iter1 f m s = some o := by
  unfold loop1 at h
  split at h
  · exact ⟨_, h⟩
  · cases h
theorem virt_box {B : Base} {e : Env} {H H1 : Heap} {a : Act} {w : World} {b z j : Nat} {cs : List SV} {z' : Nat} (hg : hget H b = some (.box cs)) (hj : cs[j]? = some (.lst z' [] true))
    (hB : hset (hnew H (.arr 0 z [] false)) b (.box (cs.set j (.slc H.bl.length 0 0 0))) (H.bl.length + 1) = some H1) (hr : Rel C nt B e H a w) : Rel C nt B e H1 a w := by
  obtain ⟨ρ, F, h1, h2, h3, h4, h5⟩ := hr
  obtain ⟨p1, p2⟩ := h1.push (w' := w) (Nat.le_refl _) (fun _ _ => rfl) (.arr 0 z [] false) ⟨0, 0, 0, z, 0, true, true⟩ (fun h => by cases h) ⟨rfl, rfl, rfl, by simp, by simp, by simp, fun _ => rfl, fun h => by cases h⟩
  have hb : H.bl[b]? = some (.box cs) := hg
  have hlt := (List.getElem?_eq_some_iff.1 hb).1
  obtain ⟨l, hl, _⟩ := h1.live b _ hb rfl
  have hb1 : (hnew H (.arr 0 z [] false)).bl[b]? = some (.box cs) := by
    simp only [hnew]; rw [List.getElem?_append_left hlt]; exact hb
  have hl1 : (ρ.put H.bl.length ⟨0, 0, 0, z, 0, true, true⟩) b = some l := by rw [Map.put_other _ _ (Nat.ne_of_lt hlt)]; exact hl
  have hps : (ρ.put H.bl.length ⟨0, 0, 0, z, 0, true, true⟩).put b l = ρ.put H.bl.length ⟨0, 0, 0, z, 0, true, true⟩ := put_self hl1
  have key : ∀ ρ2 : Map, ρ2 H.bl.length = some ⟨0, 0, 0, z, 0, true, true⟩ → BR C w F ρ2 l (.box cs) → BR C w F ρ2 l (.box (cs.set j (.slc H.bl.length 0 0 0))) := by
    intro ρ2 hρ ⟨g1, g2, g3, g4, g5, vs', ty, fz, g6, g7, g8, g9⟩
    refine ⟨g1, g2, g3, g4, by rw [List.length_set]; exact g5, vs', ty, fz, g6, g7, by rw [List.length_set]; exact g8, fun i c hi => ?_⟩
    by_cases e : j = i
    · subst e
      have hjl := (List.getElem?_eq_some_iff.1 hj).1
      simp only [List.getElem?_set_self hjl, Option.some.injEq] at hi
      subst hi
      obtain ⟨val, k1, k2, k3⟩ := g9 _ _ hj
      refine ⟨val, k1, ?_, rfl⟩
      cases k2 with
      | lst V hcap hfull hz hat h1' hv' =>
        have hc := hfull rfl
        simp only [List.length_nil] at hc
        subst hc
        exact .slc hρ (Nat.le_refl _) rfl (fun _ => ⟨fun _ => ⟨_, rfl, rfl, rfl⟩, fun h => by cases h⟩)
    · rw [List.getElem?_set_ne e] at hi
      exact g9 i c hi
  obtain ⟨q1, q2⟩ := p1.set (w' := w) (l' := l) hB hb1 rfl hl1 (Nat.le_refl _) (fun _ _ _ => rfl) (fun h => .inl ⟨h, rfl⟩) (.inl rfl)
    (fun _ => by
      rw [hps]
      obtain ⟨l2, k1, k2⟩ := p1.live b _ hb1 rfl
      rw [hl1] at k1; cases k1
      exact key _ (Map.put_same _ _ _) k2)
    (fun _ N hN hbN hbr => by
      rw [hps]
      exact key _ (by unfold Map.cut; rw [if_pos (by omega)]; exact Map.put_same _ _ _) hbr)
  rw [hps] at q1 q2
  have hE := p2.trans q2
  exact ⟨_, F, q1, hE.er h1 h2, h3.trans hE, h4, h5.ext hE.toExt0⟩
theorem virt_ok {B : Base} {a : Act} {w : World} : ∀ (vs : List (Nat × Nat)) {e e' : Env} {H H' : Heap}, virt1 vs e H = some (e', H') → Rel C nt B e H a w → Rel C nt B e' H' a w
  | [], e, e', H, H', h, hr => by cases h; exact hr
  | (t, z) :: vs, e, e', H, H', h, hr => by
    simp only [virt1] at h
    split at h
    · rename_i z' hbe
      refine virt_ok vs h ?_
      obtain ⟨ρ, F, h1, h2, h3, h4, h5⟩ := hr
      have hv := h2 t
      rw [hbe] at hv
      obtain ⟨p1, p2⟩ := h1.push (w' := w) (Nat.le_refl _) (fun _ _ => rfl) (.arr 0 z [] false) ⟨0, 0, 0, z, 0, true, true⟩ (fun h => by cases h) ⟨rfl, rfl, rfl, by simp, by simp, by simp, fun _ => rfl, fun h => by cases h⟩
      refine ⟨_, F, p1, ?_, h3.trans p2, h4, h5.ext p2.toExt0⟩
      intro i
      simp only [get]
      cases hi : (i == t) with
      | true =>
        have : i = t := by simpa using hi
        subst this
        simp only [cond_true]
        generalize a.tmps.getD i undef = val at hv
        cases hv with
        | lst V hcap hfull hz hat h1' hv' =>
          have hc := hfull rfl
          simp only [List.length_nil] at hc
          subst hc
          exact .slc (Map.put_same _ _ _) (Nat.le_refl _) rfl (fun _ => ⟨fun _ => ⟨_, rfl, rfl, rfl⟩, fun h => by cases h⟩)
      | false => exact p2.er h1 h2 i
    · rename_i b v i o hbe
      simp only [Option.bind_eq_some_iff] at h
      obtain ⟨H1, hB, h⟩ := h
      refine virt_ok vs h ?_
      unfold virtB at hB
      split at hB
      · rename_i z' hg
        exact virt_box (j := 0) hg rfl (by simpa using hB) hr
      · rename_i cs _ hg
        cases hj : cs[z / 1000]? with
        | none => rw [hj] at hB; cases hB
        | some y =>
          rw [hj] at hB
          unfold virtC at hB
          split at hB
          · rename_i heq
            cases heq
            exact virt_box hg hj hB hr
          · cases hB
      · cases hB
    · rename_i z' x L' hbe
      refine virt_ok vs h ?_
      obtain ⟨ρ, F, h1, h2, h3, h4, h5⟩ := hr
      obtain ⟨p1, p2⟩ := h1.push (w' := w) (Nat.le_refl _) (fun _ _ => rfl) (.arr 0 z [] false) ⟨0, 0, 0, z, 0, true, true⟩ (fun h => by cases h) ⟨rfl, rfl, rfl, by simp, by simp, by simp, fun _ => rfl, fun h => by cases h⟩
      exact ⟨_, F, p1, p2.er h1 h2, h3.trans p2, h4, h5.ext p2.toExt0⟩
    · cases h
theorem move_ok {B : Base} {N : Nat} {e e' : Env} {H H' : Heap} {a : Act} {w : World} {t h z b v n : Nat} (hN : B.H.bl.length = N) (hr0 : HR C B.ρ B.F B.H B.w) (hb : N ≤ b) (hh : h < N) (hg : get e t = .slc b v 0 n)
    (hm : moveB H t h z b v n e (hget H h) (hget H b) = some (e', H')) (hr : Rel C nt B e H a w) : Rel C nt B e' H' a w := by
  unfold moveB at hm
  split at hm
  · rename_i o1 o2 z0 ex0 v' z' L ex k1 k2
    replace hm := bif_some hm
    obtain ⟨hc, hm⟩ := hm
    simp only [Option.some.injEq, Prod.mk.injEq] at hm
    obtain ⟨rfl, rfl⟩ := hm
    simp only [Bool.and_eq_true, beq_iff_eq, decide_eq_true_eq, Bool.not_eq_true', beq_eq_false_iff_ne] at hc
    obtain ⟨⟨⟨⟨⟨hz, hv⟩, hn⟩, hro⟩, hne⟩, hrf⟩ := hc
    subst hv
    subst hz
    have k1 : H.bl[h]? = some (.arr 0 z0 [] ex0) := k1
    have k2 : H.bl[b]? = some (.arr v z' L ex) := k2
    obtain ⟨ρ, F, h1, h2, h3, h4, h5⟩ := hr
    obtain ⟨lh, hlh, hbh⟩ := h1.live h _ k1 rfl
    obtain ⟨lb, hlb, hbb⟩ := h1.live b _ k2 rfl
    obtain ⟨b1, b2, b3, b4, b5, b6, b7, b8⟩ := hbb
    have hhv : lh.ver = 0 := hbh.2.1
    have hha : lh.arr = true := hbh.1
    have hhl := (List.getElem?_eq_some_iff.1 k1).1
    have hbl := (List.getElem?_eq_some_iff.1 k2).1
    let l' : Loc := { lb with ver := v + 1 }
    have hle : ρ.le (ρ.put h l') := fun c l hl => by
      by_cases e : c = h
      · subst e
        rw [hlh] at hl; cases hl
        exact ⟨l', Map.put_same _ _ _, .inr ⟨hha, by show lh.ver < v + 1; omega⟩⟩
      · exact ⟨l, by rw [Map.put_other _ _ e]; exact hl, .inl rfl⟩
    have hgh : ((H.bl.set h (.arr (v + 1) z' L ex)).set b .dead)[h]? = some (.arr (v + 1) z' L ex) := by
      rw [List.getElem?_set_ne (Ne.symm hne)]; simp [hhl]
    have hgb : ((H.bl.set h (.arr (v + 1) z' L ex)).set b .dead)[b]? = some .dead := by simp [hbl]
    have hgo : ∀ c, c ≠ h → c ≠ b → ((H.bl.set h (.arr (v + 1) z' L ex)).set b .dead)[c]? = H.bl[c]? := fun c e1 e2 => by
      rw [List.getElem?_set_ne (Ne.symm e2), List.getElem?_set_ne (Ne.symm e1)]
    have hbr : ∀ ρ1 ρ2 : Map, (∀ c v, VR w F ρ1 c v → c.refs = 0 → VR w F ρ2 c v) → BR C w F ρ1 lb (.arr v z' L ex) → BR C w F ρ2 l' (.arr (v + 1) z' L ex) := by
      intro ρ1 ρ2 hvr ⟨c1, c2, c3, c4, c5, c6, c7, c8⟩
      refine ⟨c1, rfl, c3, c4, c5, c6, c7, fun hv => ?_⟩
      obtain ⟨vs, ty, fz, d1, d2, d3, d4⟩ := c8 hv
      refine ⟨vs, ty, fz, d1, d2, d3, fun i cs hi j c hj => ?_⟩
      obtain ⟨val, e1, e2, e3⟩ := d4 i cs hi j c hj
      obtain ⟨m, hm⟩ := List.getElem?_of_mem (List.mem_flatten.2 ⟨cs, List.mem_of_getElem? hi, List.mem_of_getElem? hj⟩)
      have := refsL_le (Nat.le_of_eq hrf) m c hm
      exact ⟨val, e1, hvr c val e2 (by omega), e3⟩
    have own' : ∀ c l, Own (ρ.put h l') { H with bl := (H.bl.set h (.arr (v + 1) z' L ex)).set b .dead } c l → (c = h ∧ l = l' ∧ Own ρ H b lb) ∨ (c ≠ h ∧ c ≠ b ∧ Own ρ H c l) := by
      intro c l ⟨⟨x, g1, g2⟩, g3, g4⟩
      simp only at g1
      by_cases e1 : c = h
      · subst e1
        rw [Map.put_same] at g3; cases g3
        exact .inl ⟨rfl, rfl, ⟨_, k2, rfl⟩, hlb, g4⟩
      · by_cases e2 : c = b
        · subst e2
          rw [hgb] at g1; cases g1; cases g2
        · rw [hgo c e1 e2] at g1
          rw [Map.put_other _ _ e1] at g3
          exact .inr ⟨e1, e2, ⟨x, g1, g2⟩, g3, g4⟩
    have bout : ∀ l, ¬ Own B.ρ B.H b l := fun l ho => by have := hr0.dom b l ho.2.1; omega
    refine ⟨ρ.put h l', F, ⟨fun c l hc => ?_, fun c x hc hx => ?_, fun c c' l1 l2 o1 o2 he => ?_, fun c l o => ?_, h1.fro⟩, fun i => ?_, ⟨⟨fun c l hl => ?_, h3.fro, h3.new, h3.frame, h3.size, fun c l o => ?_, h3.ro, h3.esc, fun M hM hcl h0 c x l hcM hx hxl hl => ?_, h3.lp, by
        simp only [List.length_set]; exact h3.ln, h3.out⟩, fun c l hl => ?_⟩, h4, h5.moved (fun c l o => ?_)⟩
    · simp only [List.length_set]
      by_cases e : c = h
      · subst e; exact hhl
      · rw [Map.put_other _ _ e] at hc; exact h1.dom c l hc
    · simp only at hc
      by_cases e1 : c = h
      · subst e1
        rw [hgh] at hc; cases hc
        exact ⟨l', Map.put_same _ _ _, hbr ρ _ (fun c v hv _ => hv.mono (fun _ _ => rfl) (fun _ h => h) hle) ⟨b1, b2, b3, b4, b5, b6, b7, b8⟩⟩
      · by_cases e2 : c = b
        · subst e2; rw [hgb] at hc; cases hc; cases hx
        · rw [hgo c e1 e2] at hc
          obtain ⟨l, g1, g2⟩ := h1.live c x hc hx
          exact ⟨l, by rw [Map.put_other _ _ e1]; exact g1, g2.mono (fun _ _ => rfl) (fun _ h => h) hle (fun _ => rfl)⟩
    · rcases own' c l1 o1 with ⟨e1, f1, p1⟩ | ⟨e1, e2, p1⟩ <;> rcases own' c' l2 o2 with ⟨e3, f3, p3⟩ | ⟨e3, e4, p3⟩
      · rw [e1, e3]
      · subst f1
        exact absurd (h1.apart c' b l2 lb p3 p1 he.symm) e4
      · subst f3
        exact absurd (h1.apart c b l1 lb p1 p3 he) e2
      · exact h1.apart c c' l1 l2 p1 p3 he
    · rcases own' c l o with ⟨e1, f1, p1⟩ | ⟨e1, e2, p1⟩
      · subst f1; exact h1.own b lb p1
      · exact h1.own c l p1
    · simp only [get]
      cases hi : (i == t) with
      | true =>
        have : i = t := by simpa using hi
        subst this
        have hv := h2 i
        rw [hg] at hv
        simp only [cond_true]
        generalize a.tmps.getD i undef = val at hv
        cases hv with
        | slc h' hv' hc' ha' =>
          rw [hlb] at h'; cases h'
          exact .slc (Map.put_same _ _ _) (Nat.le_refl _) hc' (fun _ => ha' b2.symm)
      | false => exact (h2 i).mono (fun _ _ => rfl) (fun _ h => h) hle
    · obtain ⟨l1, g1, g2⟩ := h3.map c l hl
      by_cases e : c = h
      · subst e
        rw [hlh] at g1; cases g1
        refine ⟨l', Map.put_same _ _ _, .inr ⟨h3.ro ▸ hro, ?_, ?_⟩⟩
        · rcases g2 with rfl | ⟨_, q, _⟩
          · exact hha
          · exact q
        · rcases g2 with rfl | ⟨_, _, q⟩
          · show lh.ver < v + 1; omega
          · omega
      · exact ⟨l1, by rw [Map.put_other _ _ e]; exact g1, g2⟩
    · rcases own' c l o with ⟨e1, f1, p1⟩ | ⟨e1, e2, p1⟩
      · subst f1
        rcases h3.old b lb p1 with q | ⟨l0, q, _⟩
        · exact .inl q
        · exact absurd q (bout l0)
      · exact h3.old c l p1
    · simp only [List.length_set] at hM
      simp only at hx
      by_cases e1 : c = h
      · subst e1
        rw [hgh] at hx; cases hx
        rw [Map.put_same] at hl; cases hl
        exact hbr ρ _ (fun c v hv h0 => (hv.mono (fun _ _ => rfl) (fun _ h => h) hle).cut M (by omega)) ⟨b1, b2, b3, b4, b5, b6, b7, b8⟩
      · by_cases e2 : c = b
        · subst e2; rw [hgb] at hx; cases hx; cases hxl
        · rw [hgo c e1 e2] at hx
          rw [Map.put_other _ _ e1] at hl
          refine (h3.inv M hM hcl h0 c x l hcM hx hxl hl).mono (fun _ _ => rfl) (fun _ h => h) (fun c1 l1 g => ?_) (fun _ => rfl)
          unfold Map.cut at g ⊢
          split at g
          · rename_i g2
            rw [if_pos g2]
            exact hle c1 l1 g
          · cases g
    · by_cases e : c = h
      · subst e
        exact h3.nd c lh hlh
      · rw [Map.put_other _ _ e] at hl; exact h3.nd c l hl
    · rcases own' c l o with ⟨e1, f1, p1⟩ | ⟨e1, e2, p1⟩
      · subst f1; exact ⟨b, lb, p1, rfl⟩
      · exact ⟨c, l, p1, rfl⟩
  · cases hm
theorem rehome_ok {B : Base} {N : Nat} {a : Act} {w : World} (hN : B.H.bl.length = N) (hr0 : HR C B.ρ B.F B.H B.w) : ∀ (vs : List (Nat × Nat)) (h : Nat) {e e' : Env} {H H' : Heap}, rehome vs h N e H = some (e', H') → Rel C nt B e H a w → Rel C nt B e' H' a w
  | [], h, e, e', H, H', hm, hr => by cases hm; exact hr
  | (t, z) :: vs, h, e, e', H, H', hm, hr => by
    simp only [rehome] at hm
    split at hm
    · rename_i b v n hg
      cases hc : (decide (N ≤ b) && decide (h < N)) with
      | true =>
        rw [hc] at hm
        simp only [cond_true, Option.bind_eq_some_iff] at hm
        obtain ⟨s, hs, hm⟩ := hm
        simp only [Bool.and_eq_true, decide_eq_true_eq] at hc
        exact rehome_ok hN hr0 vs (h + 1) hm (move_ok hN hr0 hc.1 hc.2 hg hs hr)
      | false =>
        rw [hc] at hm
        exact rehome_ok hN hr0 vs (h + 1) hm hr
    · exact rehome_ok hN hr0 vs (h + 1) hm hr
theorem Ext.esc_in {ρ ρ' : Map} {F F' : Nat → Prop} {H H' : Heap} {w w' : World} (h : Ext C ρ F { H with esc := [] } w ρ' F' H' w') : Ext C ρ F H w ρ' F' { H' with esc := H.esc ++ H'.esc } w' :=
  ⟨⟨h.map, h.fro, h.new, h.frame, h.size, h.old, h.ro, fun p hp => List.mem_append_left _ hp, fun N hN hc h0 => h.inv N hN (fun p hp => hc p (List.mem_append_right _ hp)) h0, h.lp, h.ln, h.out⟩, h.nd⟩
theorem get_live (e : Env) (t : Nat) : ∀ l : List Nat, get (live1 l e) t = bif l.contains t then get e t else .undef
  | [] => rfl
  | i :: l => by
    have ih := get_live e t l
    unfold live1 at ih ⊢
    simp only [List.map_cons, get, List.contains_cons, ih]
    cases h : (t == i) with
    | true =>
      have : t = i := by simpa using h
      subst this; simp
    | false => simp
theorem refs_live (e : Env) (N : Nat) : ∀ l : List Nat, SV.refs.refsL ((live1 l e).map (·.2)) ≤ N → ∀ t ∈ l, (get e t).refs ≤ N
  | [], _, t, ht => by cases ht
  | i :: l, h, t, ht => by
    unfold live1 at h
    simp only [List.map_cons, SV.refs.refsL] at h
    rcases List.mem_cons.1 ht with rfl | ht
    · omega
    · exact refs_live e N l (by unfold live1; omega) t ht
theorem head_ok {B : Base} {N : Nat} {p : LoopPol} {e e' : Env} {H H' : Heap} {a : Act} {w : World} (hN : B.H.bl.length = N) (hr0 : HR C B.ρ B.F B.H B.w) (h : head1 p N B.H (e, H) = some (e', H')) (hr : Rel C nt B e H a w) :
    Rel C nt B e' H' a w := by
  unfold head1 at h
  simp only [Option.bind_eq_some_iff] at h
  obtain ⟨⟨e2, H2⟩, hre, h⟩ := h
  replace hr := rehome_ok hN hr0 _ _ hre hr
  unfold head0 at h
  cases hk : keepL p.live with
  | true =>
    rw [hk] at h
    simp only [cond_true, Option.some.injEq, Prod.mk.injEq] at h
    obtain ⟨rfl, rfl⟩ := h
    obtain ⟨ρ, F, h1, h2, h3, h4, h5⟩ := hr
    refine ⟨ρ, F, h1, fun t => ?_, h3, h4, h5⟩
    rw [get_live]
    cases hm : p.live.tail.contains t with
    | false => exact .undef _
    | true => exact h2 t
  | false =>
  rw [hk] at h
  simp only [cond_false] at h
  replace h := bif_some h
  obtain ⟨hc, h⟩ := h
  simp only [Option.map_eq_some_iff, Prod.mk.injEq] at h
  obtain ⟨H1, ht, rfl, rfl⟩ := h
  obtain ⟨ρ, F, h1, h2, h3, h4, h5⟩ := hr
  have hts := trunc_spec ht
  obtain ⟨p1, p2⟩ := hr0.trunc hN h1 h3 hts
  refine ⟨_, F, p1, fun t => ?_, p2, h4, h5.less (own_cut hts.bl)⟩
  rw [get_live]
  cases hm : p.live.contains t with
  | false => exact .undef _
  | true =>
    simp only [cond_true]
    exact (h2 t).cut N (refs_live e2 N p.live (by simpa using hc) t (by simpa using hm))
theorem ok_loop {c : Code} {c1 : Code1} {p : LoopPol} (h : CodeOK C rec nt c c1) : CodeOK C rec nt (.loop c) (.loop p c1) := by
  intro ro n B Q R k r e H a w hro hrun hk hrel
  simp only [run] at hrun
  unfold onSome at hrun
  split at hrun
  rotate_left
  · cases hrun
  rename_i s hs
  dsimp only at hrun
  split at hrun
  rotate_left
  · cases hrun
  rename_i o ho
  obtain ⟨e1, H1⟩ := s
  obtain ⟨ρ1, F1, q1, q2, q3, q4, q5⟩ := virt_ok _ hs hrel
  obtain ⟨m, hm⟩ := loop1_spec ho
  let B1 : Base := ⟨ρ1, F1, { H1 with esc := [] }, w, B.lo⟩
  have hB1 : HR C B1.ρ B1.F B1.H B1.w := ⟨q1.dom, q1.live, q1.apart, q1.own, q1.fro⟩
  have hro1 : ∀ l, ro = some l → ∃ q, B1.w.heap[l]? = some (.loop q) := fun l hl => let ⟨q, hq⟩ := hro l hl; q3.lp l q hq
  have back : ∀ e' H' a' w', Rel C nt B1 e' H' a' w' → Rel C nt B e' { H' with esc := H1.esc ++ H'.esc } a' w' := by
    intro e' H' a' w' ⟨ρ', F', k1, k2, k3, k4, k5⟩
    exact ⟨ρ', F', ⟨k1.dom, k1.live, k1.apart, k1.own, k1.fro⟩, k2, q3.trans (Ext.esc_in k3), k4, k5⟩
  refine wpIn_loop_rounds m ?_
  have key : ∀ (m : Nat) (e : Env) (H : Heap) (a : Act) (w : World), iter1 (fun s' => (head1 p H1.bl.length { H1 with esc := [] } s').bind fun s' => run rec c1 s'.1 s'.2 (fun x e H => some (x, e, H)) ()) m (e, H) = some o →
      Rel C nt B1 e H a w → Code.roundsIn (WF ro) n C.P c Q m a w := by
    intro m
    induction m with
    | zero => intro e H a w hi; cases hi
    | succ m ih =>
      intro e H a w hi hr
      simp only [iter1] at hi
      cases hh : head1 p H1.bl.length { H1 with esc := [] } (e, H) with
      | none => rw [hh] at hi; simp at hi
      | some s2 =>
        rw [hh] at hi
        obtain ⟨e', H'⟩ := s2
        simp only [Option.bind_some] at hi
        cases hrn : run rec c1 e' H' (fun x e H => some (x, e, H)) () with
        | none => rw [hrn] at hi; simp at hi
        | some out =>
          rw [hrn] at hi
          have hr' : Rel C nt B1 e' H' a w := head_ok (B := B1) rfl hB1 hh hr
          refine h ro n B1 _ _ (fun x e H => some (x, e, H)) out e' H' a w hro1 hrn (fun x e2 H2 a2 w2 hx hr2 => ?_) hr'
          cases hx
          cases x with
          | normal => exact ih e2 H2 a2 w2 hi hr2
          | exit id =>
            simp only [Option.some.injEq] at hi
            subst hi
            exact hk (.exit id) _ _ _ _ hrun (back _ _ _ _ hr2)
          | ret =>
            simp only [Option.some.injEq] at hi
            subst hi
            exact hk .ret _ _ _ _ hrun (back _ _ _ _ hr2)
  exact key m e1 { H1 with esc := [] } a w hm ⟨ρ1, F1, hB1, q2, Ext.refl _ _ _ _, q4, q5⟩
theorem enter_ok {P : Program} {w : World} {ro : Option Nat} (hro : ∀ l, ro = some l → ∃ q, w.heap[l]? = some (.loop q)) (fn : FuncId) (tmps : Array Value) (ps : Array Tmp) (x y : Code) :
    ∃ l mark w1 dn, (Instr.enterLoop fn tmps ps x y ro).run P w = .ok (l, mark) w1 ∧ w.heap.size ≤ l ∧ l < w1.heap.size ∧
      w1.heap[l]? = some (.loop { state := .ready, pending := none, fn, tmps, params := ps, assign := x, body := y, defers := dn }) ∧ (∀ B, B < w.heap.size → w1.heap[B]? = w.heap[B]?) ∧ w.heap.size ≤ w1.heap.size ∧ (w1.os = w.os ∧ w1.output = w.output) ∧
      (mark = [] ∨ ∃ D, mark = [{ target := .collected D, args := #[] }] ∧ w.heap.size ≤ D ∧ D ≠ l ∧ w1.heap[D]? = some (.deferred (some []))) := by
  have hal : ∀ (w : World) (o : Obj) (B : Nat), B < w.heap.size → (w.alloc o).heap[B]? = w.heap[B]? := by
    intro w o B hB
    show (w.heap.push o)[B]? = _
    rw [Array.getElem?_push]
    split
    · omega
    · rfl
  cases ro with
  | none =>
    refine ⟨_, _, _, w.heap.size, run_enterLoop_outer fn tmps ps x y, by omega, by simp, ?_, fun B hB => ?_, by simp; omega, ⟨rfl, rfl⟩, .inr ⟨w.heap.size, rfl, Nat.le_refl _, by omega, ?_⟩⟩
    · have := World.alloc_heap_new (w.alloc (.deferred (some []))) (.loop { state := .ready, pending := none, fn, tmps, params := ps, assign := x, body := y, defers := w.heap.size })
      simpa using this
    · rw [hal _ _ _ (by simp; omega), hal _ _ _ hB]
    · rw [hal _ _ _ (by simp)]
      exact World.alloc_heap_new _ _
  | some l0 =>
    obtain ⟨q, hq⟩ := hro l0 rfl
    exact ⟨_, _, _, q.defers, run_enterLoop_inner hq fn tmps ps x y, Nat.le_refl _, by simp, World.alloc_heap_new _ _, fun B hB => hal _ _ _ hB, by simp, ⟨rfl, rfl⟩, .inl rfl⟩
theorem ok_rangeF {g : Operand} {g' : Opd} {ps : Array Tmp} {x y : Code} {x1 y1 : Code1} (hrec : RecOK C rec) (hg : copd g = some g') (hps : ∀ t ∈ ps.toList, t < nt) (hx : ccode C.P C.pol f nt x = some x1) (hy : ccode C.P C.pol f nt y = some y1) :
    CodeOK C rec nt (.rangeFunc g ps x y) (.rangeF g' ps.toList x1 y1) := by
  intro ro n B Q R k r e H a w hro hrun hk hrel
  simp only [run] at hrun
  unfold onSome at hrun
  split at hrun
  rotate_left
  · cases hrun
  rename_i p hp
  obtain ⟨s, H2⟩ := p
  dsimp only at hrun
  split at hrun
  rotate_left
  · cases hrun
  rename_i q0 st pend hb2
  obtain ⟨hst, H3, hH3, hrun⟩ : st ≠ .busy ∧ ∃ H3, hset H2 H.bl.length (.loop q0 .exhausted pend) 0 = some H3 ∧ k pend e H3 = some r := by
    split at hrun
    · cases hrun
    · rename_i hne
      split at hrun
      · rename_i H3 hH3
        exact ⟨hne, H3, hH3, hrun⟩
      · cases hrun
  obtain ⟨ρ, F, q1, q2, q3, q4, q5⟩ := hrel
  have hgv := copd_vr hg q2
  unfold fcall at hp
  split at hp
  rotate_left
  · cases hp
  rename_i f' cs hfn
  rw [hfn] at hgv
  generalize hgval : a.eval g = gv at *
  cases hgv with
  | fn hn2 hv2 =>
    rename_i vs
    refine wpIn_rangeFunc (fun fn _ => ?_)
    obtain ⟨l, mark, w1, dn, henter, hl0, hl1, hl2, hl3, hl4, hl5, hmark⟩ := enter_ok (P := C.P) (w := w) (ro := ro) (fun l hl => let ⟨q, hq⟩ := hro l hl; q3.lp l q hq) fn a.tmps ps x y
    have hkp : Keeps F w w1 := fun B hB => hl3 B (q1.fro B hB)
    have hle : ρ.le (ρ.put H.bl.length ⟨l, 0, 0, 0, 0, false, false⟩) := fun b l' h => ⟨l', by rw [Map.put_other _ _ (Nat.ne_of_lt (q1.dom b l' h))]; exact h, .inl rfl⟩
    obtain ⟨p1, p2⟩ := q1.push hl4 hl3 (.loop ⟨e, ps.toList, x1, y1⟩ .ready .normal) ⟨l, 0, 0, 0, 0, false, false⟩ (fun _ => ⟨hl0, hl1⟩)
      ⟨rfl, rfl, _, hl2, rfl, rfl, rfl, ⟨f, nt, q4, hps, hx, hy⟩, fun t => (q2 t).mono hkp (fun _ h => h) hle⟩ hl5
    have hargs : ArgsR w1 F (ρ.put H.bl.length ⟨l, 0, 0, 0, 0, false, false⟩) ([.yld H.bl.length] ++ cs) (#[.func (.yield l) #[] #[]] ++ vs) := by
      refine args_append ⟨rfl, fun j c v hc hv => ?_⟩ ⟨hn2, fun j c v hc hv => (hv2 j c v hc hv).mono hkp (fun _ h => h) hle⟩
      cases j with
      | zero =>
        simp at hc hv
        subst hc; subst hv
        exact .yld (l := ⟨l, 0, 0, 0, 0, false, false⟩) (Map.put_same _ _ _) rfl
      | succ j => simp at hc
    obtain ⟨c1, c2⟩ := hrec.call _ _ _ _ _ hp _ F w1 _ p1 hargs
    refine ⟨l, mark, w1, { target := .fn (.func f') vs, args := #[] ++ #[.func (.yield l) #[] #[]] }, w1, f', #[.func (.yield l) #[] #[]] ++ vs, w1, henter, ?_, fun _ _ => trivial, ?_, fun h => by simp at h, ?_⟩
    · have hc : a.eval (.const (.func (.yield l) #[] #[])) = .func (.yield l) #[] #[] := rfl
      unfold resolve
      simp only [rangeCall, hgval, Deferred.ofValue, List.map_toArray, List.map_cons, List.map_nil, hc]
      rfl
    · simpa [invoke] using c1
    · refine CallsIn.mono (c2 _) (fun e' w3 he' => ?_)
      obtain ⟨val, rfl, ρ3, F3, _, d2, d3⟩ := he'
      obtain ⟨l3, m1, m2⟩ := d3.map H.bl.length _ (Map.put_same _ _ _)
      have m3 : l3 = ⟨l, 0, 0, 0, 0, false, false⟩ := by
        rcases m2 with h | ⟨_, h, _⟩
        · exact h
        · cases h
      subst m3
      obtain ⟨l4, m4, m5⟩ := d2.live _ _ hb2 rfl
      rw [m1] at m4; cases m4
      obtain ⟨_, _, q, g1, g2, g3, g4, g5, g6⟩ := id m5
      have hlt : l < w3.heap.size := (Array.getElem?_eq_some_iff.1 g1).1
      have hown : Own ρ3 H2 H.bl.length ⟨l, 0, 0, 0, 0, false, false⟩ := ⟨⟨_, hb2, rfl⟩, m1, rfl⟩
      have hkeep : ∀ Bk, Bk ≠ l → (w3.putObj l (.loop { q with state := .exhausted })).heap[Bk]? = w3.heap[Bk]? := fun Bk hne => World.putObj_heap_other hne
      have hkk : Keeps F3 w3 (w3.putObj l (.loop { q with state := .exhausted })) := fun Bk hB => hkeep Bk (fun e => (d2.own _ _ hown).1 (e ▸ hB))
      obtain ⟨z1, z2⟩ := d2.set (w' := w3.putObj l (.loop { q with state := .exhausted })) (l' := ⟨l, 0, 0, 0, 0, false, false⟩) hH3 hb2 rfl m1 (by simp) (fun Bk _ h => hkeep Bk (h rfl)) (fun h => .inl ⟨h, rfl⟩) (.inl rfl)
        (fun _ => by
          rw [put_self m1]
          exact ⟨rfl, rfl, { q with state := .exhausted }, World.putObj_heap_same hlt, rfl, g3, g4, g5, fun t => (g6 t).mono hkk (fun _ h => h) (Map.le_refl _)⟩)
        (fun _ N _ _ hbr => by
          rw [put_self m1]
          obtain ⟨_, _, q', b1, b2, b3, b4, b5, b6⟩ := hbr
          rw [g1] at b1; cases b1
          exact ⟨rfl, rfl, { q with state := .exhausted }, World.putObj_heap_same hlt, rfl, b3, b4, b5, fun t => (b6 t).mono hkk (fun _ h => h) (Map.le_refl _)⟩)
        (fun _ => ⟨_, _, _, rfl⟩)
      rw [put_self m1] at z1 z2
      have hxt := p2.trans (d3.trans z2)
      have hm1 : Marks (ρ.put H.bl.length ⟨l, 0, 0, 0, 0, false, false⟩) F (hnew H (.loop ⟨e, ps.toList, x1, y1⟩ .ready .normal)) w1 B.lo (mark ++ a.defers) := by
        have hm0 := q5.ext p2.toExt0
        rcases hmark with rfl | ⟨D, rfl, h1, h2, h3⟩
        · exact hm0
        · obtain ⟨k0, Ds', k1', k2', k3'⟩ := q5
          refine ⟨Nat.le_trans k0 hl4, D :: Ds', by simp [k1'], List.nodup_cons.2 ⟨fun hD => ?_, k2'⟩, fun D' hD' => ?_⟩
          · have := (Array.getElem?_eq_some_iff.1 (k3' D hD).2.1).1
            omega
          · rcases List.mem_cons.1 hD' with rfl | hD'
            · refine ⟨by omega, h3, fun hF => ?_, fun b l' ho => ?_⟩
              · have := q1.fro _ hF; omega
              · rcases p2.old b l' ho with h4 | ⟨l0, h4, h5⟩
                · obtain ⟨⟨xx, hxx, hxl⟩, hm, hv⟩ := ho
                  by_cases hbl : b = H.bl.length
                  · subst hbl
                    rw [Map.put_same] at hm; cases hm
                    exact fun e => h2 e.symm
                  · rw [Map.put_other _ _ hbl] at hm
                    have hlt := q1.dom b l' hm
                    have ho' : Own ρ H b l' := ⟨⟨xx, by simpa [hnew, List.getElem?_append_left hlt] using hxx, hxl⟩, hm, hv⟩
                    have := (q1.own b l' ho').2
                    omega
                · have := (q1.own b l0 h4).2
                  omega
            · exact (k3' D' hD').ext p2.toExt0
      have hrel' : Rel C nt B e H3 { a with defers := mark ++ a.defers } (w3.putObj l (.loop { q with state := .exhausted })) :=
        ⟨ρ3, F3, z1, hxt.er q1 q2, q3.trans hxt, q4, (hm1.ext (d3.trans z2).toExt0)⟩
      have hend := run_endLoop (P := C.P) g1 (by rw [g2]; exact hst)
      refine ⟨_, _, hend, ?_⟩
      rw [g3] at hrel' ⊢
      cases pend with
      | normal => exact hk .normal _ _ _ _ hrun hrel'
      | exit id => exact wpIn_exit (hk (.exit id) _ _ _ _ hrun hrel')
      | ret => exact wpIn_ret (hk .ret _ _ _ _ hrun hrel')
end
end Go.Sh
namespace Go.Sh
set_option linter.unusedSectionVars false
set_option linter.unusedVariables false
set_option linter.unusedSimpArgs false
set_option linter.unnecessarySimpa false
section
variable {C : Ctx} {rec : Rec} {e e' : Env} {H H' : Heap} {s : SV}
theorem map_pure {v : Option SV} (h : v.map (·, H) = some (s, H')) : H' = H ∧ ∀ H2 : Heap, v.map (·, H2) = some (s, H2) := by
  cases v with
  | none => cases h
  | some v => cases h; exact ⟨rfl, fun _ => rfl⟩
theorem pure_op {op : Op1} (hp : pure1 op = true) (h : step1 rec e H op = some (s, H')) : H' = H ∧ ∀ H2, step1 rec e H2 op = some (s, H2) := by
  cases op <;> try (exfalso; simp only [pure1, Bool.false_eq_true] at hp; done)
  case mov x => simp only [step1, sop] at h ⊢; cases h; exact ⟨rfl, fun _ => rfl⟩
  case pick => exact map_pure h
  case build =>
    simp only [step1, sop, Option.map_eq_some_iff, Prod.mk.injEq] at h ⊢
    obtain ⟨v, h1, rfl, rfl⟩ := h
    exact ⟨rfl, fun H2 => ⟨v, h1, by simp⟩⟩
  case blist => exact map_pure h
  case bin => exact map_pure h
  case binB => exact map_pure h
  case eqAgg neg n x y =>
    simp only [step1, sop] at h ⊢
    split at h
    · rename_i a b h1 h2
      simp only [Option.map_eq_some_iff, Prod.mk.injEq] at h ⊢
      obtain ⟨v, h1, rfl, rfl⟩ := h
      exact ⟨rfl, fun H2 => ⟨v, h1, by simp⟩⟩
    · cases h
  case notB x => simp only [step1, sop] at h ⊢; split at h <;> first | (cases h; done) | (rename_i b hb; cases h; first | exact ⟨rfl, fun _ => rfl⟩ | (rw [hb]; exact ⟨rfl, fun _ => rfl⟩))
  case negI x => simp only [step1, sop] at h ⊢; split at h <;> first | (cases h; done) | (rename_i k b hb; cases h; first | exact ⟨rfl, fun _ => rfl⟩ | (rw [hb]; exact ⟨rfl, fun _ => rfl⟩))
  case convI k x => simp only [step1, sop] at h ⊢; split at h <;> first | (cases h; done) | (rename_i k b hb; cases h; first | exact ⟨rfl, fun _ => rfl⟩ | (rw [hb]; exact ⟨rfl, fun _ => rfl⟩))
  case convS x => simp only [step1, sop] at h ⊢; split at h <;> first | (cases h; done) | (rename_i b hb; cases h; first | exact ⟨rfl, fun _ => rfl⟩ | (rw [hb]; exact ⟨rfl, fun _ => rfl⟩))
  case mkbfn => simp only [step1, sop] at h ⊢; cases h; exact ⟨rfl, fun _ => rfl⟩
  case mkfn => simp only [step1, sop] at h ⊢; cases h; exact ⟨rfl, fun _ => rfl⟩
  case field ag n off x => simp only [step1, sop] at h ⊢; split at h <;> first | (cases h; done) | (rename_i b hb; exact map_pure h)
  case indexA ag n len x ix =>
    simp only [step1, sop] at h ⊢
    split at h
    · rename_i b hb
      try rw [hb]
      simp only [Option.bind_eq_some_iff] at h ⊢
      obtain ⟨i, h1, h2⟩ := h
      obtain ⟨h3, h4⟩ := map_pure h2
      exact ⟨h3, fun H2 => ⟨i, h1, h4 H2⟩⟩
    · cases h
  case indexS x ix =>
    simp only [step1, sop] at h ⊢
    split at h
    · rename_i b hb
      try rw [hb]
      simp only [Option.bind_eq_some_iff, Option.map_eq_some_iff, Prod.mk.injEq] at h ⊢
      obtain ⟨i, h1, v, h2, rfl, rfl⟩ := h
      exact ⟨rfl, fun H2 => ⟨i, h1, v, h2, by simp⟩⟩
    · cases h
  case extract x i => simp only [step1, sop] at h ⊢; split at h <;> first | (cases h; done) | (rename_i b hb; exact map_pure h)
  case lenS x => simp only [step1, sop] at h ⊢; split at h <;> first | (cases h; done) | (rename_i b hb; cases h; first | exact ⟨rfl, fun _ => rfl⟩ | (rw [hb]; exact ⟨rfl, fun _ => rfl⟩))
  case lenA => simp only [step1, sop] at h ⊢; cases h; exact ⟨rfl, fun _ => rfl⟩
  case maxI => exact map_pure h
  case minI => exact map_pure h
  case sliceS x lo hi => simp only [step1, sop] at h ⊢; split at h <;> first | (cases h; done) | (rename_i b hb; exact map_pure h)
theorem ev_congr {x : Opd} {xs : List Opd} (hx : x ∈ xs) (h : ∀ t ∈ opTmps.f xs, get e t = get e' t) : ev e x = ev e' x := by
  cases x with
  | c v => rfl
  | t n => exact h n (by unfold opTmps.f; exact List.mem_filterMap.2 ⟨.t n, hx, rfl⟩)
theorem evs_congr {xs ys : List Opd} (hx : ∀ x ∈ xs, x ∈ ys) (h : ∀ t ∈ opTmps.f ys, get e t = get e' t) : xs.map (ev e) = xs.map (ev e') :=
  List.map_congr_left (fun x hm => ev_congr (hx x hm) h)
theorem evo_congr {x : Option Opd} {ys : List Opd} (hx : ∀ y ∈ x, y ∈ ys) (h : ∀ t ∈ opTmps.f ys, get e t = get e' t) : x.map (ev e) = x.map (ev e') := by
  cases x with
  | none => rfl
  | some x => simp only [Option.map_some]; rw [ev_congr (hx x rfl) h]
theorem fillP_congr {f g : Opd → SV} : ∀ (ps : List (Nat × Nat × Opd)) (z : List SV), (∀ p ∈ ps, f p.2.2 = g p.2.2) → fillP f z ps = fillP g z ps
  | [], _, _ => rfl
  | (off, n, x) :: ps, z, h => by
    simp only [fillP]
    rw [show f x = g x from h (off, n, x) (List.mem_cons_self ..)]
    congr 1
    funext cs
    cases (cs.length == n && decide (off + n ≤ z.length)) with
    | true => exact fillP_congr ps _ (fun p hp => h p (List.mem_cons_of_mem _ hp))
    | false => rfl
theorem fillS_congr {f g : Opd → SV} {esz : Nat} : ∀ (ps : List (Nat × Opd)) (z : List (List SV)), (∀ p ∈ ps, f p.2 = g p.2) → fillS f esz z ps = fillS g esz z ps
  | [], _, _ => rfl
  | (i, x) :: ps, z, h => by
    simp only [fillS]
    rw [show f x = g x from h (i, x) (List.mem_cons_self ..)]
    congr 1
    funext cs
    cases (cs.length == esz && decide (i < z.length)) with
    | true => exact fillS_congr ps _ (fun p hp => h p (List.mem_cons_of_mem _ hp))
    | false => rfl
theorem step1_congr {o : Oper1} (h : ∀ t ∈ opTmps o, get e t = get e' t) : step1 rec e H o.op = step1 rec e' H o.op := by
  obtain ⟨dst, op, g⟩ := o
  unfold opTmps at h
  replace h := fun t ht => h t (List.mem_append_left _ ht)
  dsimp only at h ⊢
  cases op
  case mov x => dsimp only at h; simp only [step1, sop, ev_congr (x := x) (by simp) h]
  case pick c a b => dsimp only at h; simp only [step1, sop, ev_congr (x := c) (by simp) h, ev_congr (x := a) (by simp) h, ev_congr (x := b) (by simp) h]
  case box x => dsimp only at h; simp only [step1, sop, ev_congr (x := x) (by simp) h]
  case alloc z => rfl
  case allocV z => rfl
  case build z ps =>
    dsimp only at h
    simp only [step1, sop]
    rw [fillP_congr ps z (fun p hp => ev_congr (List.mem_map.2 ⟨p, hp, rfl⟩) h)]
  case bslice esz z n ps =>
    dsimp only at h
    simp only [step1, sop]
    rw [fillS_congr ps _ (fun p hp => ev_congr (List.mem_map.2 ⟨p, hp, rfl⟩) h)]
  case blist esz z n ps =>
    dsimp only at h
    simp only [step1, sop]
    rw [fillS_congr ps _ (fun p hp => ev_congr (List.mem_map.2 ⟨p, hp, rfl⟩) h)]
  case load ag n a => dsimp only at h; simp only [step1, sop, ev_congr (x := a) (by simp) h]
  case store n a x => dsimp only at h; simp only [step1, sop, ev_congr (x := a) (by simp) h, ev_congr (x := x) (by simp) h]
  case nilChk x => dsimp only at h; simp only [step1, sop, ev_congr (x := x) (by simp) h]
  case bin op x y => dsimp only at h; simp only [step1, sop, ev_congr (x := x) (by simp) h, ev_congr (x := y) (by simp) h]
  case binB op x y => dsimp only at h; simp only [step1, sop, ev_congr (x := x) (by simp) h, ev_congr (x := y) (by simp) h]
  case eqAgg neg n x y => dsimp only at h; simp only [step1, sop, ev_congr (x := x) (by simp) h, ev_congr (x := y) (by simp) h]
  case notB x => dsimp only at h; simp only [step1, sop, ev_congr (x := x) (by simp) h]
  case isNil k neg x => dsimp only at h; simp only [step1, sop, ev_congr (x := x) (by simp) h]
  case negI x => dsimp only at h; simp only [step1, sop, ev_congr (x := x) (by simp) h]
  case convI k x => dsimp only at h; simp only [step1, sop, ev_congr (x := x) (by simp) h]
  case convS x => dsimp only at h; simp only [step1, sop, ev_congr (x := x) (by simp) h]
  case convBS x => dsimp only at h; simp only [step1, sop, ev_congr (x := x) (by simp) h]
  case convSB x => dsimp only at h; simp only [step1, sop, ev_congr (x := x) (by simp) h]
  case mkfn f cs => dsimp only at h; simp only [step1, sop, evs_congr (xs := cs) (fun _ h => h) h]
  case mkbfn f cs => dsimp only at h; simp only [step1, sop, evs_congr (xs := cs) (fun _ h => h) h]
  case mkslice esz z bytes l c => dsimp only at h; simp only [step1, sop, ev_congr (x := l) (by simp) h, ev_congr (x := c) (by simp) h]
  case sliceL esz x lo hi mx =>
    dsimp only at h
    simp only [step1, sop, ev_congr (x := x) (by simp) h, evo_congr (x := lo) (by simp +contextual) h, evo_congr (x := hi) (by simp +contextual) h, evo_congr (x := mx) (by simp +contextual) h]
  case sliceS x lo hi =>
    dsimp only at h
    simp only [step1, sop, ev_congr (x := x) (by simp) h, evo_congr (x := lo) (by simp +contextual) h, evo_congr (x := hi) (by simp +contextual) h]
  case faddr off x => dsimp only at h; simp only [step1, sop, ev_congr (x := x) (by simp) h]
  case field ag n off x => dsimp only at h; simp only [step1, sop, ev_congr (x := x) (by simp) h]
  case iaddrS esz x ix => dsimp only at h; simp only [step1, sop, ev_congr (x := x) (by simp) h, ev_congr (x := ix) (by simp) h]
  case iaddrA len esz x ix => dsimp only at h; simp only [step1, sop, ev_congr (x := x) (by simp) h, ev_congr (x := ix) (by simp) h]
  case indexA ag n len x ix => dsimp only at h; simp only [step1, sop, ev_congr (x := x) (by simp) h, ev_congr (x := ix) (by simp) h]
  case indexS x ix => dsimp only at h; simp only [step1, sop, ev_congr (x := x) (by simp) h, ev_congr (x := ix) (by simp) h]
  case extract x i => dsimp only at h; simp only [step1, sop, ev_congr (x := x) (by simp) h]
  case len x => dsimp only at h; simp only [step1, sop, ev_congr (x := x) (by simp) h]
  case lenS x => dsimp only at h; simp only [step1, sop, ev_congr (x := x) (by simp) h]
  case lenA n => rfl
  case maxI xs => dsimp only at h; simp only [step1, sop, evs_congr (xs := xs) (fun _ h => h) h]
  case minI xs => dsimp only at h; simp only [step1, sop, evs_congr (xs := xs) (fun _ h => h) h]
  case append esz bytes s x => dsimp only at h; simp only [step1, sop, ev_congr (x := s) (by simp) h, ev_congr (x := x) (by simp) h]
  case appendS s x => dsimp only at h; simp only [step1, sop, ev_congr (x := s) (by simp) h, ev_congr (x := x) (by simp) h]
  case copy esz d x => dsimp only at h; simp only [step1, sop, ev_congr (x := d) (by simp) h, ev_congr (x := x) (by simp) h]
  case clear esz z x => dsimp only at h; simp only [step1, sop, ev_congr (x := x) (by simp) h]
  case mkmap => rfl
  case mupd t x k v => dsimp only at h; simp only [step1, sop, ev_congr (x := x) (by simp) h, ev_congr (x := k) (by simp) h, ev_congr (x := v) (by simp) h]
  case mlook t ok z x k => dsimp only at h; simp only [step1, sop, ev_congr (x := x) (by simp) h, ev_congr (x := k) (by simp) h]
  case call f xs =>
    dsimp only at h
    simp only [step1]
    rw [ev_congr (x := f) (List.mem_cons_self ..) h, evs_congr (xs := xs) (fun x hx => List.mem_cons_of_mem _ hx) h]
  case callK f m xs =>
    dsimp only at h
    simp only [step1]
    rw [evs_congr (xs := xs) (fun x hx => hx) h]
  case callV f xs =>
    dsimp only at h
    simp only [step1]
    rw [evs_congr (xs := xs) (fun x hx => hx) h]
  case bad => rfl
def befF (acc : List Nat) (o : Oper) : Nat := o.after.toList.foldl (fun s e => bif Region.binds .any e then s ||| 2 ^ e.on ||| acc.getD e.on 0 else s) 0
theorem before1_snoc (l : List Oper) (o : Oper) : before1 (l ++ [o]) = before1 l ++ [befF (before1 l) o] := by
  simp [before1, befF, List.foldl_append]
theorem snocRec {A : Type} {P : List A → Prop} (h0 : P []) (h1 : ∀ l a, P l → P (l ++ [a])) (l : List A) : P l := by
  rw [← List.reverse_reverse l]
  induction l.reverse with
  | nil => exact h0
  | cons a r ih => rw [List.reverse_cons]; exact h1 _ _ ih
theorem before1_length (l : List Oper) : (before1 l).length = l.length := by
  refine snocRec (P := fun l => (before1 l).length = l.length) rfl (fun l o ih => ?_) l
  rw [before1_snoc]; simp [ih]
theorem before1_append (l m : List Oper) {j : Nat} (hj : j < l.length) : (before1 (l ++ m))[j]? = (before1 l)[j]? := by
  refine snocRec (P := fun m => (before1 (l ++ m))[j]? = (before1 l)[j]?) (by simp) (fun m o ih => ?_) m
  rw [← List.append_assoc, before1_snoc, List.getElem?_append_left (by rw [before1_length]; simp; omega)]
  exact ih
theorem befF_spec {acc : List Nat} {i : Nat} : ∀ (es : List Edge) (s : Nat), (es.foldl (fun s e => bif Region.binds .any e then s ||| 2 ^ e.on ||| acc.getD e.on 0 else s) s).testBit i = true →
    s.testBit i = true ∨ ∃ e ∈ es, Region.binds .any e = true ∧ (e.on = i ∨ (acc.getD e.on 0).testBit i = true)
  | [], s, h => .inl h
  | d :: es, s, h => by
    simp only [List.foldl_cons] at h
    rcases befF_spec es _ h with h1 | ⟨d', h1, h2⟩
    · cases hb : Region.binds .any d with
      | false => rw [hb] at h1; exact .inl h1
      | true =>
        rw [hb] at h1
        simp only [cond_true, Nat.testBit_or, Bool.or_eq_true, Nat.testBit_two_pow, decide_eq_true_eq] at h1
        rcases h1 with (h1 | h1) | h1
        · exact .inl h1
        · exact .inr ⟨d, List.mem_cons_self .., hb, .inl h1⟩
        · exact .inr ⟨d, List.mem_cons_self .., hb, .inr h1⟩
    · exact .inr ⟨d', List.mem_cons_of_mem _ h1, h2⟩
theorem before1_spec {ops : List Oper} {j i : Nat} (h : ((before1 ops).getD j 0).testBit i = true) :
    ∃ o, ops[j]? = some o ∧ ∃ e ∈ o.after, Region.binds .any e = true ∧ (e.on = i ∨ (e.on < j ∧ ((before1 ops).getD e.on 0).testBit i = true)) := by
  by_cases hj : j < ops.length
  · have hsp : ops = ops.take (j + 1) ++ ops.drop (j + 1) := (List.take_append_drop _ _).symm
    have hsn : ops.take (j + 1) = ops.take j ++ [ops[j]] := List.take_succ_eq_append_getElem hj
    have hlt : (ops.take j).length = j := by simp; omega
    have hval : (before1 ops)[j]? = some (befF (before1 (ops.take j)) ops[j]) := by
      conv => lhs; rw [hsp]
      rw [before1_append _ _ (by simp; omega), hsn, before1_snoc, List.getElem?_append_right (by rw [before1_length]; omega), before1_length, hlt]
      simp
    rw [List.getD_eq_getElem?_getD, hval] at h
    simp only [Option.getD_some] at h
    refine ⟨ops[j], by simp [hj], ?_⟩
    unfold befF at h
    rcases befF_spec _ _ h with h | ⟨d, h1, h2, h3⟩
    · simp at h
    · refine ⟨d, by simpa using h1, h2, h3.imp id (fun h3 => ?_)⟩
      by_cases hd : d.on < j
      · refine ⟨hd, ?_⟩
        have : (before1 ops)[d.on]? = (before1 (ops.take j))[d.on]? := by
          conv => lhs; rw [hsp]
          rw [before1_append _ _ (by simp; omega), hsn, before1_append _ _ (by omega)]
        rw [List.getD_eq_getElem?_getD, this, ← List.getD_eq_getElem?_getD]
        exact h3
      · rw [List.getD_eq_getElem?_getD, List.getElem?_eq_none (by rw [before1_length]; omega)] at h3
        simp at h3
  · rw [List.getD_eq_getElem?_getD, List.getElem?_eq_none (by rw [before1_length]; omega)] at h
    simp at h
theorem bef_lt {ops : List Oper} (hedge : ∀ (i : Nat) o, ops[i]? = some o → ∀ e ∈ o.after, Region.binds .any e = true → e.on < i) : ∀ (j i : Nat), ((before1 ops).getD j 0).testBit i = true → i < j := by
  intro j
  induction j using Nat.strongRecOn with
  | _ j ih =>
    intro i h
    obtain ⟨o, h1, d, h2, h3, h4⟩ := before1_spec h
    rcases h4 with h4 | ⟨h4, h5⟩
    · subst h4; exact hedge j o h1 d h2 h3
    · have := ih d.on h4 i h5; omega
theorem bef_closed {ops : List Oper} {S : Nat → Prop} (hS : ∀ (k : Nat) o, S k → ops[k]? = some o → ∀ e ∈ o.after, Region.binds .any e = true → S e.on) :
    ∀ (j i : Nat), (∀ o, ops[j]? = some o → ∀ e ∈ o.after, Region.binds .any e = true → S e.on) → ((before1 ops).getD j 0).testBit i = true → S i := by
  intro j
  induction j using Nat.strongRecOn with
  | _ j ih =>
    intro i hj h
    obtain ⟨o, h1, d, h2, h3, h4⟩ := before1_spec h
    have hd := hj o h1 d h2 h3
    rcases h4 with h4 | ⟨h4, h5⟩
    · subst h4; exact hd
    · exact ih d.on h4 i (fun o' ho' => hS d.on o' hd ho') h5
def dr (pl : List (Oper1 × Draw1)) (i : Nat) : Draw1 := ((pl[i]?).map (·.2)).getD ⟨.pure, [], 0, 0⟩
theorem dr_at {pl : List (Oper1 × Draw1)} {i : Nat} {o : Oper1} {d : Draw1} (h : pl[i]? = some (o, d)) : dr pl i = d := by simp [dr, h]
structure DOK (bs : List Nat) (ops : List Oper) (pl : List (Oper1 × Draw1)) : Prop where
  edge : ∀ (i : Nat) o, ops[i]? = some o → ∀ e ∈ o.after, Region.binds .any e = true → e.on < i
  tmp : ∀ (i j : Nat) a b, i < j → pl[i]? = some a → pl[j]? = some b → (bs.getD j 0).testBit i = true ∨ (∀ d, a.1.dst = some d → d ∉ opTmps b.1 ∧ b.1.dst ≠ some d) ∧ (∀ d, b.1.dst = some d → d ∉ opTmps a.1)
  pur : ∀ (i : Nat) o d, pl[i]? = some (o, d) → d.kind = .pure → pure1 o.op = true ∧ d.nal = 0
  bar : ∀ i j, i < pl.length → j < pl.length → (dr pl i).kind = .bar → (dr pl j).kind ≠ .pure → i = j ∨ (bs.getD j 0).testBit i = true ∨ (bs.getD i 0).testBit j = true
  offs0 : 0 < pl.length → (dr pl 0).offs = 0
  offsS : ∀ k, k + 1 < pl.length → (dr pl (k + 1)).offs = bif isBar (dr pl k) then 0 else (dr pl k).offs + (dr pl k).nal
  wrk : ∀ k, k < pl.length → isWr (dr pl k) = true → (dr pl k).nal = 0
  wrl : ∀ k m, k < pl.length → m < pl.length → isWr (dr pl k) = true → k < m → (dr pl m).kind ≠ .pure → (bs.getD m 0).testBit k = true
  ind : ∀ i k a, k < pl.length → i < k → isWr (dr pl k) = true → (dr pl i).kind = .seg → pl[i]? = some a → (∃ m, i < m ∧ m < k ∧ (dr pl m).kind = .bar) ∨ (bs.getD k 0).testBit i = true ∨ blind1 a.1.op = true ∨ okRead pl i k a.1.op (dr pl k) = true
  hide : ∀ i, i < pl.length → ((dr pl i).kind = .seg ∨ isWr (dr pl i) = true) → ∀ k, k < i → (dr pl k).kind = .seg → (∃ m, k < m ∧ m < i ∧ (dr pl m).kind = .bar) ∨ (bs.getD i 0).testBit k = true ∨ ∀ m, m < (dr pl k).nal → (dr pl k).offs + m ∈ (dr pl i).hide
theorem isBar_iff {d : Draw1} : isBar d = true ↔ d.kind = .bar := by unfold isBar; cases d.kind <;> simp
theorem isSeg_iff {d : Draw1} : isSeg d = true ↔ d.kind = .seg := by unfold isSeg; cases d.kind <;> simp
theorem isPure_iff {d : Draw1} : isPure d = true ↔ d.kind = .pure := by unfold isPure; cases d.kind <;> simp
theorem okDraws_spec {bs : List Nat} {ops : List Oper} {pl : List (Oper1 × Draw1)} (h : okDraws bs ops pl = true) : DOK bs ops pl := by
  unfold okDraws at h
  simp only [Bool.and_eq_true] at h
  obtain ⟨⟨⟨⟨⟨⟨⟨h1, h2⟩, h3⟩, h4⟩, h5⟩, h6⟩, h7⟩, h8⟩ := h
  refine ⟨fun i o ho e he hb => ?_, fun i j a b hij ha hb => ?_, fun i o d hi hk => ?_, fun i j hi hj hk hp => ?_, fun h0 => ?_, fun k hk => ?_, fun k hk hw => ?_, fun k m hk hm hw hkm hp => ?_, fun i k a hk hik hw hs ha => ?_, fun i hi hk k hki hkk => ?_⟩
  · have := List.all_eq_true.1 h1 (o, i) (by rw [List.mem_iff_getElem?]; exact ⟨i, by simp [List.getElem?_zipIdx, ho]⟩)
    have := List.all_eq_true.1 this e (by simpa using he)
    simpa [hb] using this
  · have hj := (List.getElem?_eq_some_iff.1 hb).1
    have := List.all_eq_true.1 h2 j (List.mem_range.2 hj)
    have := List.all_eq_true.1 this i (List.mem_range.2 hij)
    rw [ha, hb] at this
    simp only [Bool.or_eq_true, Bool.not_eq_true', Bool.or_eq_false_iff] at this
    refine this.imp id (fun ⟨g1, g2⟩ => ⟨fun d hd => ?_, fun d hd => ?_⟩)
    · rw [hd] at g1
      simp only [Bool.or_eq_false_iff, List.contains_eq_mem, decide_eq_false_iff_not, beq_eq_false_iff_ne] at g1
      exact g1
    · rw [hd] at g2
      simpa using g2
  · have := List.all_eq_true.1 h3 (o, d) (List.mem_of_getElem? hi)
    simpa [isPure_iff.2 hk] using this
  · have := List.all_eq_true.1 h4 i (List.mem_range.2 hi)
    have hb : isBar (((pl[i]?).map (·.2)).getD ⟨.pure, [], 0, 0⟩) = true := isBar_iff.2 hk
    rw [hb] at this
    simp only [Bool.not_true, Bool.false_or] at this
    have := List.all_eq_true.1 this j (List.mem_range.2 hj)
    simp only [Bool.or_eq_true] at this
    rcases this with h | h
    · exact absurd (isPure_iff.1 h) hp
    · unfold cmp1 at h
      simp only [Bool.or_eq_true, beq_iff_eq] at h
      rcases h with (h | h) | h
      · exact .inl h
      · exact .inr (.inl h)
      · exact .inr (.inr h)
  · have := List.all_eq_true.1 h5 0 (List.mem_range.2 h0)
    simpa [dr] using this
  · have := List.all_eq_true.1 h5 (k + 1) (List.mem_range.2 hk)
    simpa [dr] using this
  · have := List.all_eq_true.1 h7 k (List.mem_range.2 hk)
    have hw' : isWr (((pl[k]?).map (·.2)).getD ⟨.pure, [], 0, 0⟩) = true := hw
    rw [hw'] at this
    simp only [Bool.not_true, Bool.false_or, Bool.and_eq_true] at this
    exact beq_iff_eq.1 this.1
  · have := List.all_eq_true.1 h7 k (List.mem_range.2 hk)
    have hw' : isWr (((pl[k]?).map (·.2)).getD ⟨.pure, [], 0, 0⟩) = true := hw
    rw [hw'] at this
    simp only [Bool.not_true, Bool.false_or, Bool.and_eq_true] at this
    have := List.all_eq_true.1 this.2 m (List.mem_range.2 hm)
    simp only [Bool.or_eq_true, Bool.not_eq_true', decide_eq_false_iff_not] at this
    rcases this with (h | h) | h
    · exact absurd hkm h
    · exact absurd (isPure_iff.1 h) hp
    · exact h
  · have := List.all_eq_true.1 h8 k (List.mem_range.2 hk)
    have hw' : isWr (((pl[k]?).map (·.2)).getD ⟨.pure, [], 0, 0⟩) = true := hw
    rw [hw'] at this
    simp only [Bool.not_true, Bool.false_or] at this
    have := List.all_eq_true.1 this i (List.mem_range.2 hik)
    have hs' : isSeg (((pl[i]?).map (·.2)).getD ⟨.pure, [], 0, 0⟩) = true := isSeg_iff.2 hs
    rw [hs', ha] at this
    simp only [Bool.not_true, Bool.false_or, Bool.or_eq_true] at this
    rcases this with (h | h) | h
    · obtain ⟨m, hm, h⟩ := List.any_eq_true.1 h
      simp only [Bool.and_eq_true, decide_eq_true_eq] at h
      exact .inl ⟨m, h.1, List.mem_range.1 hm, isBar_iff.1 h.2⟩
    · exact .inr (.inl h)
    · exact .inr (.inr h)
  · have := List.all_eq_true.1 h6 i (List.mem_range.2 hi)
    have hs : (isSeg (((pl[i]?).map (·.2)).getD ⟨.pure, [], 0, 0⟩) || isWr (((pl[i]?).map (·.2)).getD ⟨.pure, [], 0, 0⟩)) = true := by
      rw [Bool.or_eq_true]
      exact hk.imp (fun h => isSeg_iff.2 h) (fun h => h)
    rw [hs] at this
    simp only [Bool.not_true, Bool.false_or] at this
    have := List.all_eq_true.1 this k (List.mem_range.2 hki)
    have hs' : isSeg (((pl[k]?).map (·.2)).getD ⟨.pure, [], 0, 0⟩) = true := isSeg_iff.2 hkk
    rw [hs'] at this
    simp only [Bool.not_true, Bool.false_or, Bool.or_eq_true] at this
    rcases this with (h | h) | h
    · obtain ⟨m, hm, h⟩ := List.any_eq_true.1 h
      simp only [Bool.and_eq_true, decide_eq_true_eq] at h
      exact .inl ⟨m, h.1, List.mem_range.1 hm, isBar_iff.1 h.2⟩
    · exact .inr (.inl h)
    · refine .inr (.inr (fun m hm => ?_))
      have := List.all_eq_true.1 h m (List.mem_range.2 hm)
      rw [List.contains_iff_mem] at this
      exact this
def wanted1 (e : Env) (g : Option (Nat × Bool)) : Prop := g = none ∨ ∃ t w, g = some (t, w) ∧ get e t = .bool w
def skipped1 (e : Env) (g : Option (Nat × Bool)) : Prop := ∃ t w, g = some (t, w) ∧ (get e t = .bool (!w) ∨ get e t = .skp)
structure Tr (rec : Rec) (pl : List (Oper1 × Draw1)) (es : Nat → Env) (hs : Nat → Heap) (out : Nat → SV) (Ns : Nat → Nat) : Prop where
  env : ∀ (i : Nat) o d, pl[i]? = some (o, d) → es (i + 1) = bind1 (es i) o.dst (out i)
  nx : ∀ (i : Nat) o d, pl[i]? = some (o, d) → Ns (i + 1) = nextN d (Ns i) (hs (i + 1))
  st : ∀ (i : Nat) o d, pl[i]? = some (o, d) → (wanted1 (es i) o.g ∧ step1d rec (Ns i) d (es i) (hs i) o.op = some (out i, hs (i + 1))) ∨ (skipped1 (es i) o.g ∧ skip1 d = true ∧ out i = .skp ∧ hs (i + 1) = hs i)
theorem trace {R : Type} {k : Env → Heap → Option R} {r : R} : ∀ (pl : List (Oper1 × Draw1)) (N : Nat) (e : Env) (H : Heap), runDrawn rec pl N e H k () = some r →
    ∃ es hs out Ns, es 0 = e ∧ hs 0 = H ∧ Ns 0 = N ∧ Tr rec pl es hs out Ns ∧ k (es pl.length) (hs pl.length) = some r
  | [], N, e, H, h => ⟨fun _ => e, fun _ => H, fun _ => .undef, fun _ => N, rfl, rfl, rfl, ⟨by simp, by simp, by simp⟩, h⟩
  | (o, d) :: pl, N, e, H, h => by
    have key : ∀ s H', ((wanted1 e o.g ∧ step1d rec N d e H o.op = some (s, H')) ∨ (skipped1 e o.g ∧ skip1 d = true ∧ s = .skp ∧ H' = H)) →
        runDrawn rec pl (nextN d N H') (bind1 e o.dst s) H' k () = some r → ∃ es hs out Ns, es 0 = e ∧ hs 0 = H ∧ Ns 0 = N ∧ Tr rec ((o, d) :: pl) es hs out Ns ∧ k (es (pl.length + 1)) (hs (pl.length + 1)) = some r := by
      intro s H' hst hrun
      obtain ⟨es, hs, out, Ns, h1, h2, h3, h4, h5⟩ := trace pl _ _ _ hrun
      refine ⟨fun | 0 => e | i + 1 => es i, fun | 0 => H | i + 1 => hs i, fun | 0 => s | i + 1 => out i, fun | 0 => N | i + 1 => Ns i, rfl, rfl, rfl, ⟨?_, ?_, ?_⟩, h5⟩
      · intro i o' d' hi
        cases i with
        | zero => simp at hi; obtain ⟨rfl, rfl⟩ := hi; exact h1
        | succ i => exact h4.env i o' d' (by simpa using hi)
      · intro i o' d' hi
        cases i with
        | zero => simp at hi; obtain ⟨rfl, rfl⟩ := hi; simp only; rw [h3, h2]
        | succ i => exact h4.nx i o' d' (by simpa using hi)
      · intro i o' d' hi
        cases i with
        | zero => simp at hi; obtain ⟨rfl, rfl⟩ := hi; simp only; rw [h2]; exact hst
        | succ i => exact h4.st i o' d' (by simpa using hi)
    simp only [runDrawn] at h
    split at h
    · rename_i hg
      unfold onSome at h
      split at h
      · rename_i p hp
        exact key p.1 p.2 (.inl ⟨.inl hg, hp⟩) h
      · cases h
    · rename_i t w hg
      unfold onGuard at h
      split at h
      · rename_i b hb
        unfold fork at h
        dsimp only at h
        cases hbw : (b == w) with
        | true =>
          have : b = w := by simpa using hbw
          subst this
          rw [hbw] at h
          simp only [cond_true] at h
          unfold onSome at h
          split at h
          · rename_i p hp
            exact key p.1 p.2 (.inl ⟨.inr ⟨t, b, hg, hb⟩, hp⟩) h
          · cases h
        | false =>
          have : b = !w := by cases b <;> cases w <;> simp_all
          subst this
          rw [hbw] at h
          simp only [cond_false] at h
          replace h := bif_some h
          exact key .skp H (.inr ⟨⟨t, w, hg, .inl hb⟩, h.1, rfl, rfl⟩) h.2
      · rename_i hb
        unfold fork at h
        dsimp only at h
        simp only [cond_false] at h
        replace h := bif_some h
        exact key .skp H (.inr ⟨⟨t, w, hg, .inr hb⟩, h.1, rfl, rfl⟩) h.2
      · cases h
end
end Go.Sh
namespace Go.Sh
set_option linter.unusedSectionVars false
set_option linter.unusedVariables false
set_option linter.unusedSimpArgs false
set_option linter.unnecessarySimpa false
def shape1 : SBlk → SBlk → Prop
  | .dead, .dead => True
  | .box cs, .box cs' => cs.length = cs'.length
  | .arr v z L e, .arr v' z' L' e' => v = v' ∧ z = z' ∧ L.length = L'.length ∧ e = e'
  | .loop r s p, .loop r' s' p' => r = r' ∧ s = s' ∧ p = p'
  | .map es, .map es' => es = es'
  | _, _ => False
theorem shape1_refl (x : SBlk) : shape1 x x := by cases x <;> simp [shape1]
theorem shape1_trans {x y z : SBlk} (h : shape1 x y) (h' : shape1 y z) : shape1 x z := by
  cases x <;> cases y <;> simp only [shape1] at h <;> cases z <;> simp only [shape1] at h' ⊢ <;> simp_all
theorem shape1_live {x y : SBlk} (h : shape1 x y) : x.live = y.live := by
  cases x <;> cases y <;> simp only [shape1] at h <;> rfl
structure ShapeL (l l' : List SBlk) : Prop where
  len : l.length = l'.length
  at_ : ∀ (b : Nat) x y, l[b]? = some x → l'[b]? = some y → shape1 x y
theorem ShapeL.refl (l : List SBlk) : ShapeL l l := ⟨rfl, fun b x y h h' => by rw [h] at h'; cases h'; exact shape1_refl x⟩
theorem ShapeL.get {l l' : List SBlk} (h : ShapeL l l') (b : Nat) : (l[b]? = none ∧ l'[b]? = none) ∨ ∃ x y, l[b]? = some x ∧ l'[b]? = some y ∧ shape1 x y := by
  cases hx : l[b]? with
  | none =>
    left
    refine ⟨rfl, ?_⟩
    rw [List.getElem?_eq_none_iff] at hx ⊢
    rw [← h.len]; exact hx
  | some x =>
    have hb := (List.getElem?_eq_some_iff.1 hx).1
    have hy : l'[b]? = some (l'[b]'(by rw [← h.len]; exact hb)) := List.getElem?_eq_getElem _
    exact .inr ⟨x, _, rfl, hy, h.at_ b _ _ hx hy⟩
theorem ShapeL.trans {l l' l'' : List SBlk} (h : ShapeL l l') (h' : ShapeL l' l'') : ShapeL l l'' := by
  refine ⟨h.len.trans h'.len, fun b x z hx hz => ?_⟩
  rcases h.get b with ⟨h1, _⟩ | ⟨x', y, h1, h2, h3⟩
  · rw [h1] at hx; cases hx
  · rw [hx] at h1; cases h1
    exact shape1_trans h3 (h'.at_ b _ _ h2 hz)
theorem ShapeL.set {l : List SBlk} {b : Nat} {x y : SBlk} (hx : l[b]? = some x) (h : shape1 x y) : ShapeL l (l.set b y) := by
  refine ⟨by simp, fun b' u v hu hv => ?_⟩
  by_cases e : b' = b
  · subst e
    rw [hx] at hu; cases hu
    have hlt := (List.getElem?_eq_some_iff.1 hx).1
    simp [hlt] at hv
    subst hv; exact h
  · rw [List.getElem?_set_ne (Ne.symm e), hu] at hv
    cases hv; exact shape1_refl u
theorem ShapeL.take {l l' : List SBlk} (h : ShapeL l l') (n : Nat) : ShapeL (l.take n) (l'.take n) := by
  refine ⟨by simp [h.len], fun b x y hx hy => ?_⟩
  rw [List.getElem?_take] at hx hy
  split at hx
  · rename_i hlt
    rw [if_pos hlt] at hy
    exact h.at_ b x y hx hy
  · cases hx
theorem ShapeL.both {l l' : List SBlk} (h : ShapeL l l') (b : Nat) (x : SBlk) : ShapeL (l.set b x) (l'.set b x) := by
  refine ⟨by simp [h.len], fun b' u v hu hv => ?_⟩
  by_cases e : b' = b
  · subst e
    have h1 := (List.getElem?_eq_some_iff.1 hu).1
    have h2 := (List.getElem?_eq_some_iff.1 hv).1
    rw [List.length_set] at h1 h2
    simp [h1] at hu
    simp [h2] at hv
    subst hu; subst hv; exact shape1_refl _
  · rw [List.getElem?_set_ne (Ne.symm e)] at hu hv
    exact h.at_ b' u v hu hv
theorem ShapeL.hide {l l' : List SBlk} (h : ShapeL l l') (N : Nat) : ∀ ds : List Nat, ShapeL (hide1 N ds l) (hide1 N ds l') := by
  intro ds
  induction ds generalizing l l' with
  | nil => exact h
  | cons d ds ih =>
    have := ih (h.both (N + d) .dead)
    unfold hide1 at this ⊢
    simpa using this
section
variable {rec : Rec} {e : Env} {H H' V0 V1 V0' : Heap} {s : SV}
theorem cur_shape (h : ShapeL H.bl H'.bl) (v : SV) : cur H v = cur H' v := by
  cases v <;> try rfl
  · rename_i b ver i o
    unfold cur hget
    dsimp only
    rcases h.get b with ⟨h1, h2⟩ | ⟨x, y, h1, h2, h3⟩
    · rw [h1, h2]
    · rw [h1, h2]
      cases x <;> cases y <;> simp only [shape1] at h3 <;> first | rfl | (simp [h3.1])
  · rename_i b ver i o
    unfold cur hget
    dsimp only
    rcases h.get b with ⟨h1, h2⟩ | ⟨x, y, h1, h2, h3⟩
    · rw [h1, h2]
    · rw [h1, h2]
      cases x <;> cases y <;> simp only [shape1] at h3 <;> first | rfl | (simp [h3.1])
theorem curZ_shape (h : ShapeL H.bl H'.bl) (z : Nat) (v : SV) : curZ H z v = curZ H' z v := by
  cases v <;> try rfl
  rename_i b ver i o
  unfold curZ hget
  dsimp only
  rcases h.get b with ⟨h1, h2⟩ | ⟨x, y, h1, h2, h3⟩
  · rw [h1, h2]
  · rw [h1, h2]
    cases x <;> cases y <;> simp only [shape1] at h3 <;> first | rfl | (simp [h3.1, h3.2.1])
theorem ssliceX_shape (h : ShapeL H.bl H'.bl) (x : SV) (lo hi mx : Option SV) : ssliceX H x lo hi mx = ssliceX H' x lo hi mx := by
  unfold ssliceX
  split
  · rename_i b v off n hv
    rcases h.get b with ⟨h1, h2⟩ | ⟨y, z, h1, h2, h3⟩
    · simp only [hget, h1, h2]
    · simp only [hget, h1, h2]
      cases y <;> cases z <;> simp only [shape1] at h3 <;> try rfl
      simp only [h3.2.2.1]
  · rfl
theorem isNil_shape (h : ShapeL H.bl H'.bl) (k : NK) (v : SV) : isNil1 H k v = isNil1 H' k v := by
  cases k <;> cases v <;> first | rfl | (simp only [isNil1, cur_shape h])
theorem map_rd {v : Option SV} (h : v.map (·, V0) = some (s, V0')) : ∃ X, V0' = { V0 with bl := V0.bl ++ X } ∧ v.map (·, V1) = some (s, { V1 with bl := V1.bl ++ X }) := by
  cases v with
  | none => cases h
  | some v => cases h; exact ⟨[], by simp, by simp⟩
theorem blind_op {op : Op1} (hb : blind1 op = true) (hsh : ShapeL V0.bl V1.bl) (h : step1 rec e V0 op = some (s, V0')) :
    ∃ X, V0' = { V0 with bl := V0.bl ++ X } ∧ step1 rec e V1 op = some (s, { V1 with bl := V1.bl ++ X }) := by
  cases op <;> try (exfalso; simp only [blind1, Bool.false_eq_true] at hb; done)
  case box x =>
    simp only [step1, sop, Option.map_eq_some_iff, Prod.mk.injEq] at h ⊢
    obtain ⟨cs, h1, rfl, rfl⟩ := h
    exact ⟨[.box cs], rfl, cs, h1, by rw [hsh.len], rfl⟩
  case alloc z =>
    simp only [step1, sop] at h ⊢
    cases h
    exact ⟨[.box z], rfl, by rw [hsh.len]; rfl⟩
  case bslice esz z n ps =>
    simp only [step1, sop, Option.map_eq_some_iff, Prod.mk.injEq] at h ⊢
    obtain ⟨L, h1, rfl, rfl⟩ := h
    exact ⟨[.arr 0 esz L true], rfl, L, h1, by rw [hsh.len], rfl⟩
  case nilChk x =>
    simp only [step1, sop] at h ⊢
    rw [← cur_shape hsh]
    replace h := bif_some h
    rw [h.1]; exact map_rd h.2
  case isNil k neg x =>
    simp only [step1, sop] at h ⊢
    rw [← isNil_shape hsh]
    simp only [Option.map_eq_some_iff, Prod.mk.injEq] at h ⊢
    obtain ⟨b, h1, rfl, rfl⟩ := h
    exact ⟨[], by simp, b, h1, by simp⟩
  case mkslice esz z bytes l c =>
    simp only [step1, sop] at h ⊢
    unfold smake at h ⊢
    split at h
    · rename_i l' c' h1 h2
      replace h := bif_some h
      obtain ⟨h3, h⟩ := h
      cases h
      rw [h3]
      exact ⟨[.arr 0 esz (List.replicate c'.toNat z) true], rfl, by simp [hsh.len, hnew]⟩
    · cases h
  case sliceL esz x lo hi mx =>
    simp only [step1, sop] at h ⊢
    rw [← curZ_shape hsh, ← ssliceX_shape hsh]
    replace h := bif_some h
    rw [h.1]; exact map_rd h.2
  case faddr off x =>
    simp only [step1, sop] at h ⊢
    rw [← cur_shape hsh]
    replace h := bif_some h
    rw [h.1]; exact map_rd h.2
  case iaddrS esz x ix =>
    simp only [step1, sop] at h ⊢
    rw [← curZ_shape hsh]
    replace h := bif_some h
    rw [h.1]; exact map_rd h.2
  case iaddrA len esz x ix =>
    simp only [step1, sop] at h ⊢
    rw [← cur_shape hsh]
    replace h := bif_some h
    rw [h.1]
    simp only [Option.bind_eq_some_iff, cond_true] at h ⊢
    obtain ⟨_, i, h1, h2⟩ := h
    obtain ⟨X, h3, h4⟩ := map_rd (V1 := V1) h2
    exact ⟨X, h3, i, h1, h4⟩
  case len x =>
    simp only [step1, sop] at h ⊢
    rw [← cur_shape hsh]
    replace h := bif_some h
    rw [h.1]
    simp only [Option.map_eq_some_iff, cond_true, Prod.mk.injEq] at h ⊢
    obtain ⟨_, i, h1, rfl, rfl⟩ := h
    exact ⟨[], by simp, i, h1, rfl, by simp⟩
theorem put1_len {cs xs : List SV} {o n : Nat} (hn : xs.length = n) (hle : o + n ≤ cs.length) : (put1 cs o n xs).length = cs.length := by
  unfold put1; simp; omega
theorem hset_spec {b : Nat} {y : SBlk} {r : Nat} (h : hset H b y r = some H') : H.ro ≤ b ∧ b < H.bl.length ∧ H'.bl = H.bl.set b y ∧ H'.ro = H.ro := by
  unfold hset at h
  replace h := bif_some h
  obtain ⟨h1, h2⟩ := h
  simp only [Bool.and_eq_true, decide_eq_true_eq] at h1
  cases h2
  exact ⟨h1.1, h1.2, rfl, rfl⟩
theorem sstore_spec {n : Nat} {x p : SV} (h : sstore n H x p = some H') : ∃ b v i o xs y0 y1, p = .ptr b v i o ∧ cells1 x = some xs ∧ xs.length = n ∧ H.bl[b]? = some y0 ∧ y0.live = true ∧ y1.live = true ∧ shape1 y0 y1 ∧ hset H b y1 x.refs = some H' ∧
    ((∃ cs, y0 = .box cs ∧ i = 0 ∧ o + n ≤ cs.length ∧ y1 = .box (put1 cs o n xs)) ∨ (∃ z L ex cs, y0 = .arr v z L ex ∧ L[i]? = some cs ∧ o + n ≤ cs.length ∧ y1 = .arr v z (L.set i (put1 cs o n xs)) ex)) := by
  unfold sstore at h
  split at h
  · rename_i b v i o
    simp only [Option.bind_eq_some_iff] at h
    obtain ⟨xs, hxs, h⟩ := h
    replace h := bif_some h
    obtain ⟨hn, h⟩ := h
    have hn : xs.length = n := by simpa using hn
    split at h
    · rename_i cs hb
      replace h := bif_some h
      obtain ⟨hi, h⟩ := h
      simp only [Bool.and_eq_true, beq_iff_eq, decide_eq_true_eq] at hi
      exact ⟨b, v, i, o, xs, _, .box (put1 cs o n xs), rfl, hxs, hn, hb, rfl, rfl, (put1_len hn hi.2).symm, h, .inl ⟨cs, rfl, hi.1, hi.2, rfl⟩⟩
    · rename_i v' z L ex hb
      replace h := bif_some h
      obtain ⟨hv, h⟩ := h
      have hv : v = v' := by simpa using hv
      subst hv
      split at h
      · rename_i cs hcs
        replace h := bif_some h
        obtain ⟨hle, h⟩ := h
        have hle : o + n ≤ cs.length := by simpa using hle
        exact ⟨b, v, i, o, xs, _, .arr v z (L.set i (put1 cs o n xs)) ex, rfl, hxs, hn, hb, rfl, rfl, ⟨rfl, rfl, by simp, rfl⟩, h, .inr ⟨z, L, ex, cs, rfl, hcs, hle, rfl⟩⟩
      · cases h
    · cases h
  · cases h
theorem put1_off {cs xs : List SV} {o n j : Nat} (hn : xs.length = n) (hle : o + n ≤ cs.length) (hj : j < o ∨ o + n ≤ j) : (put1 cs o n xs)[j]? = cs[j]? := by
  unfold put1
  rw [List.append_assoc, List.getElem?_append]
  have ht : (cs.take o).length = o := by simp; omega
  rw [ht]
  split
  · rename_i h; rw [List.getElem?_take, if_pos h]
  · rename_i h
    rw [List.getElem?_append, if_neg (by omega), List.getElem?_drop]
    congr 1; omega
theorem part1_put1 {ag : Bool} {m o o' n : Nat} {cs xs : List SV} (h : part1 ag m cs o = some s) (hn : xs.length = n) (hle : o' + n ≤ cs.length) (hd : o + (bif ag then m else 1) ≤ o' ∨ o' + n ≤ o) :
    part1 ag m (put1 cs o' n xs) o = some s := by
  unfold part1 at h ⊢
  cases ag with
  | false =>
    simp only [cond_false] at h hd ⊢
    rw [put1_off hn hle (by omega)]; exact h
  | true =>
    simp only [cond_true] at h hd ⊢
    replace h := bif_some h
    obtain ⟨h1, h⟩ := h
    rw [put1_len hn hle, h1]
    simp only [cond_true]
    have h1 : o + m ≤ cs.length := by simpa using h1
    rw [← h]
    congr 2
    apply List.ext_getElem?
    intro j
    rw [List.getElem?_take, List.getElem?_take]
    split
    · rw [List.getElem?_drop, List.getElem?_drop, put1_off hn hle (by omega)]
    · rfl
theorem load_keep {ag : Bool} {m n : Nat} {p q x : SV} (h : sload ag m H p = some s) (h' : sstore n H x q = some H') (hd : disj1 p (bif ag then m else 1) q n = true) : sload ag m H' p = some s := by
  obtain ⟨b', v', i', o', xs, y0, y1, rfl, hxs, hn, hb', _, _, _, hset, hcase⟩ := sstore_spec h'
  obtain ⟨_, hlt, hbl, _⟩ := hset_spec hset
  unfold sload at h ⊢
  split at h
  · rename_i b v i o
    by_cases e : b = b'
    · subst e
      have hg : hget H b = some y0 := hb'
      have hg' : hget H' b = some y1 := by unfold hget; rw [hbl]; simp [hlt]
      rw [hg] at h
      rw [hg']
      simp only [disj1, beq_self_eq_true, Bool.not_true, Bool.false_or, Bool.or_eq_true, Bool.not_eq_true', beq_eq_false_iff_ne, decide_eq_true_eq] at hd
      rcases hcase with ⟨cs, rfl, hi, hle, rfl⟩ | ⟨z, L, ex, cs, rfl, hcs, hle, rfl⟩
      · simp only at h ⊢
        replace h := bif_some h
        obtain ⟨h1, h⟩ := h
        rw [h1]
        have h1 : i = 0 := by simpa using h1
        exact part1_put1 h hn hle (by omega)
      · simp only at h ⊢
        replace h := bif_some h
        obtain ⟨h1, h⟩ := h
        rw [h1]
        simp only [cond_true]
        by_cases ei : i = i'
        · subst ei
          have hli := (List.getElem?_eq_some_iff.1 hcs).1
          rw [hcs] at h
          simp only [List.getElem?_set, hli, if_true] at h ⊢
          exact part1_put1 h hn hle (by omega)
        · rw [List.getElem?_set_ne (Ne.symm ei)]; exact h
    · have : hget H' b = hget H b := by unfold hget; rw [hbl, List.getElem?_set_ne (Ne.symm e)]
      rw [this]; exact h
  · exact h
  · cases h
theorem load_block {ag : Bool} {m : Nat} {p : SV} (h : sload ag m H p = some s) (hb : ∀ b v i o, p = .ptr b v i o → H.bl[b]? = H'.bl[b]?) : sload ag m H' p = some s := by
  unfold sload at h ⊢
  split at h
  · rename_i b v i o
    have : hget H' b = hget H b := (hb b v i o rfl).symm
    rw [this]; exact h
  · exact h
  · cases h
theorem load_live {ag : Bool} {m : Nat} {b v i o : Nat} (h : sload ag m H (.ptr b v i o) = some s) : ∃ x, H.bl[b]? = some x ∧ x.live = true := by
  unfold sload hget at h
  simp only at h
  split at h
  · rename_i cs hb; exact ⟨_, hb, rfl⟩
  · rename_i v' z L ex hb; exact ⟨_, hb, rfl⟩
  · cases h
theorem isWr_iff {d : Draw1} : isWr d = true ↔ ∃ rd, d.kind = .wr rd := by unfold isWr; cases d.kind <;> simp
theorem eqOpd_eq {a b : Opd} (h : eqOpd a b = true) : a = b := by
  cases a <;> cases b <;> simp only [eqOpd, Bool.false_eq_true] at h
  rw [beq_iff_eq] at h; rw [h]
theorem okRead_spec {pl : List (Oper1 × Draw1)} {i k : Nat} {o : Op1} {d : Draw1} (h : okRead pl i k o d = true) :
    ∃ ag n u rd, o = .load ag n (.t u) ∧ d.kind = .wr rd ∧ (.t u, bif ag then n else 1) ∈ rd ∧ ∀ m, i ≤ m → m < k → ∀ p, pl[m]? = some p → p.1.dst ≠ some u := by
  unfold okRead at h
  split at h
  · rename_i ag n a rd hk
    rw [Bool.and_eq_true] at h
    obtain ⟨h1, h2⟩ := h
    obtain ⟨q, hq, h1⟩ := List.any_eq_true.1 h1
    rw [Bool.and_eq_true] at h1
    have e1 := eqOpd_eq h1.1
    have e2 : q.2 = _ := beq_iff_eq.1 h1.2
    cases a with
    | c v => cases h2
    | t u =>
      refine ⟨ag, n, u, rd, rfl, hk, ?_, fun m hm hk' p hp => ?_⟩
      · rw [← e1, ← e2]; exact hq
      · have := List.all_eq_true.1 h2 m (List.mem_range.2 hk')
        rw [hp] at this
        simp only [Bool.or_eq_true, decide_eq_true_eq, Bool.not_eq_true', beq_eq_false_iff_ne] at this
        rcases this with h | h
        · omega
        · exact h
  · cases h
end
section
variable {C : Ctx} {ρ : Map} {F : Nat → Prop} {H H' : Heap} {w : World}
theorem cop_store {P : Program} {o : Op} {n : Nat} {x y : Opd} (h : cop P o = some (.store n x y)) : ∃ t x' y', o = .store t x' y' ∧ csz P t = some n ∧ copd x' = some x ∧ copd y' = some y := by
  unfold cop at h
  split at h
  case h_9 t x' y' =>
    split at h
    · rename_i n' u v h1 h2 h3
      cases h
      exact ⟨t, x', y', rfl, h1, h2, h3⟩
    · cases h
  case h_23 c => 
    unfold ccall at h
    repeat' split at h
    all_goals (first | (cases h; done) | (simp [Option.map_eq_some_iff, cond_eq_ite] at h; done) | (repeat' split at h) )
    all_goals (first | (cases h; done) | (simp [Option.map_eq_some_iff, cond_eq_ite] at h; done) | skip)
  all_goals (repeat' split at h)
  all_goals (first | (cases h; done) | (obtain ⟨_, _, h2⟩ := cnil_eq h; cases h2; done) | (simp [Option.map_eq_some_iff, cond_eq_ite] at h; done) | (simp only [cond_eq_ite] at h; repeat' split at h; all_goals (first | (cases h; done) | (simp [Option.map_eq_some_iff] at h; done))))
theorem stepS_ok {e : Env} {a : Act} {o : Oper} {op : Op1} {b : LitK} {n : Nat} {x y : Opd} (hop : op = lit1 b ((cop C.P o.op).getD .bad)) (hopo : op = .store n x y) (hs : sstore n H (ev e y) (ev e x) = some H') (hr : HR C ρ F H w) (he : ER w F ρ e a.tmps)
    {ro : Option Nat} {m : Nat} {K : Act → World → Prop} {Q : Exit → Act → World → Prop} (hK : ∀ w', HR C ρ F H' w' → Ext C ρ F H w ρ F H' w' → CutOK C ρ F H H' w w' (ev e y).refs → K (a.put o.dst undef) w') : o.wpIn (WF ro) m C.P a w K Q := by
  have hc : cop C.P o.op = some (.store n x y) := by
    rw [hopo] at hop
    cases hc : cop C.P o.op with
    | none => rw [hc] at hop; simp only [Option.getD_none] at hop; cases b <;> cases hop
    | some op0 =>
      rw [hc] at hop
      simp only [Option.getD_some] at hop
      unfold lit1 at hop
      split at hop
      · cases hop
      · cases hop
      · cases hop
      · cases hop
      · rw [hop]
  obtain ⟨t, x', y', ho, h1, h2, h3⟩ := cop_store hc
  refine ⟨fun _ _ => trivial, ?_⟩
  rw [Oper.semAt_eq _ _ _ (not_defer hc)]
  obtain ⟨w', k1, k2, k3, k4⟩ := store_ex h1 hr (copd_vr h2 he) (copd_vr h3 he) hs
  have hx : (execOp a.eval o).run C.P w = .ok .skip w' := by
    simp only [execOp, ho]
    simp [k1, pure, Sem.run]
  rw [hx]
  exact hK w' k2 k3 k4
end
end Go.Sh
