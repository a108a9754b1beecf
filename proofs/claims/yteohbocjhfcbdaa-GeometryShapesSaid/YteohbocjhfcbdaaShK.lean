/-
  THE SHADOW MACHINE, PART K: strings and slices cut and measured; composites.
-/
import Derived.Test.YteohbocjhfcbdaaShJ
namespace Go.Sh
set_option linter.unusedSectionVars false
set_option linter.unusedVariables false
set_option linter.unusedSimpArgs false
set_option linter.unnecessarySimpa false
section
variable {C : Ctx} {ρ : Map} {F : Nat → Prop} {H H' : Heap} {w : World} {e : Env} {a : Act} {s c d : SV}
theorem ok_indexA {t el : TypeId} {len n i : Nat} {ag : Bool} {x ix : Operand} {x' i' : Opd} {cs : List SV} (hx : copd x = some x') (hi : copd ix = some i') (hu : C.P.underlying t = some (.array len el)) (hag : cag C.P el = some ag) (hn : csz C.P el = some n)
    (hr : HR C ρ F H w) (he : ER w F ρ e a.tmps) (hc : ev e x' = .agg cs) (h1 : sidx len (ev e i') = some i) (h : part1 ag n cs (i * n) = some s) :
    OpOK C (do pure (.value (← Instr.index t (a.eval x) (a.eval ix)))) ρ F H w s H := by
  have hv := copd_vr hx he
  rw [hc] at hv
  obtain ⟨vs, h3, h4, h5⟩ := vr_agg_cells hv
  obtain ⟨k, j, k5, k6, k7, rfl⟩ := sidx_vr h1 (copd_vr hi he)
  obtain ⟨p1, p2⟩ := part1_vr h h5 (by omega)
  suffices hs : ∃ val, (part el vs (j.toNat * n)).run C.P w = .ok val w ∧ VR w F ρ s val by
    obtain ⟨val, r1, r2⟩ := hs
    refine OpOK.val hr ?_ r2
    unfold Instr.index
    simp only [Sem.run_bind, k5, asIntOf, run_underlying hu, Result.andThen, h3]
    simp only [pure, Sem.run, Result.andThen, k6, k7, and_self, if_true, Sem.run_bind, run_sizeOf' hn]
    exact r1
  unfold part
  cases ag with
  | true => exact ⟨_, by simp only [Sem.run_bind, run_isAgg' hag, Result.andThen, if_true, run_sizeOf' hn]; rfl, by simpa using p1 rfl⟩
  | false =>
    obtain ⟨v, k1, k2⟩ := p2 rfl
    rw [Nat.zero_add] at k1
    exact ⟨v, by simp only [Sem.run_bind, run_isAgg' hag, Result.andThen, Bool.false_eq_true, if_false, k1]; rfl, k2⟩
theorem ok_indexS {t : TypeId} {i : Nat} {x ix : Operand} {x' i' : Opd} {b : ByteArray} {y : UInt8} (hx : copd x = some x') (hi : copd ix = some i') (hu : C.P.underlying t = some .string)
    (hr : HR C ρ F H w) (he : ER w F ρ e a.tmps) (hc : ev e x' = .str b) (h1 : sidx b.size (ev e i') = some i) (h : b.data[i]? = some y) :
    OpOK C (do pure (.value (← Instr.index t (a.eval x) (a.eval ix)))) ρ F H w (.int .u8 y.toNat) H := by
  have hv := copd_vr hx he
  rw [hc] at hv
  obtain ⟨k, j, k5, k6, k7, rfl⟩ := sidx_vr h1 (copd_vr hi he)
  have hb : b[j.toNat]? = some y := by
    obtain ⟨hlt, hv'⟩ := Array.getElem?_eq_some_iff.1 h
    have hlt' : j.toNat < b.size := hlt
    rw [getElem?_pos b j.toNat hlt']
    exact congrArg some hv'
  refine OpOK.val hr (val := .int .u8 y.toNat) ?_ (.int _ _)
  unfold Instr.index
  simp only [Sem.run_bind, k5, asIntOf, run_underlying hu, Result.andThen, vr_str hv]
  simp only [pure, Sem.run, Result.andThen, k6, if_true, hb]
theorem ok_lenS {ats : Array TypeId} {t0 ty : TypeId} {x : Operand} {y : Opd} {b : ByteArray} (hx : copd x = some y) (h0 : ats[0]? = some t0) (hu : C.P.underlying t0 = some .string) (hr : HR C ρ F H w) (he : ER w F ρ e a.tmps) (hc : ev e y = .str b) :
    OpOK C (do pure (.value (← Builtin.len_ ats ty #[a.eval x]))) ρ F H w (.int .i64 b.size) H := by
  have hv := copd_vr hx he
  rw [hc] at hv
  refine OpOK.val hr (val := .int .i64 b.size) ?_ (.int _ _)
  unfold Builtin.len_
  simp only [h0]
  simp [run_underlying hu, vr_str hv, goInt]
theorem lenL_vr {n : Nat} {v : Value} (hr : HR C ρ F H w) (hc : cur H c = true) (h : lenL c = some n) (hv : VR w F ρ c v) : ∃ q cap, v = .slice q n cap := by
  unfold lenL at h
  split at h
  · cases h
    cases hv
    exact ⟨_, _, rfl⟩
  · cases h
    obtain ⟨l, z, L, ex, _, _, _, g1, g2⟩ := cur_slc hr hc hv
    cases hvi : l.virt with
    | true => obtain ⟨q, rfl, _, rfl⟩ := g1 hvi; exact ⟨_, _, rfl⟩
    | false => obtain ⟨_, q, rfl, _⟩ := g2 hvi; exact ⟨_, _, rfl⟩
  · cases h
theorem ok_lenL {ats : Array TypeId} {t0 el ty : TypeId} {x : Operand} {y : Opd} {n : Nat} (hx : copd x = some y) (h0 : ats[0]? = some t0) (hu : C.P.underlying t0 = some (.slice el)) (hr : HR C ρ F H w) (he : ER w F ρ e a.tmps)
    (hc : cur H (ev e y) = true) (h : lenL (ev e y) = some n) : OpOK C (do pure (.value (← Builtin.len_ ats ty #[a.eval x]))) ρ F H w (.int .i64 n) H := by
  obtain ⟨q, cap, hq⟩ := lenL_vr hr hc h (copd_vr hx he)
  refine OpOK.val hr (val := .int .i64 n) ?_ (.int _ _)
  unfold Builtin.len_
  simp only [h0]
  simp [run_underlying hu, hq, goInt]
theorem ok_lenA {ats : Array TypeId} {t0 el ty : TypeId} {x : Operand} {n : Nat} (h0 : ats[0]? = some t0) (hu : C.P.underlying t0 = some (.array n el)) (hr : HR C ρ F H w) :
    OpOK C (do pure (.value (← Builtin.len_ ats ty #[a.eval x]))) ρ F H w (.int .i64 n) H := by
  refine OpOK.val hr (val := .int .i64 n) ?_ (.int _ _)
  unfold Builtin.len_
  simp only [h0]
  simp [run_underlying hu, goInt]
theorem foldI_run {f : Int → Int → Int} {g : Value → Value → Sem Value} (hg : ∀ k x k2 y, g (.int k x) (.int k2 y) = pure (.int k (f x y))) :
    ∀ (cs : List SV) (vs : List Value) (x : Int) (k : IntKind) (s : SV), cs.length = vs.length → (∀ (j : Nat) c v, cs[j]? = some c → vs[j]? = some v → VR w F ρ c v) → foldI f x k cs = some s →
    ∃ n, s = .int k n ∧ (vs.foldlM g (.int k x)).run C.P w = .ok (.int k n) w := by
  intro cs
  induction cs with
  | nil =>
    intro vs x k s hn _ h
    simp [foldI] at h
    subst h
    cases vs with
    | nil => exact ⟨x, rfl, rfl⟩
    | cons _ _ => simp at hn
  | cons c cs ih =>
    intro vs x k s hn hv h
    cases vs with
    | nil => simp at hn
    | cons v vs =>
      cases c <;> simp only [foldI] at h <;> (try (cases h; done))
      rename_i k2 y
      replace h := bif_some h
      obtain ⟨_, h⟩ := h
      have h0 := vr_int (hv 0 _ v rfl rfl)
      subst h0
      obtain ⟨n, rfl, hrun⟩ := ih vs (f x y) k s (by simpa using hn) (fun j c v hc hv' => hv (j + 1) c v (by simpa using hc) (by simpa using hv')) h
      refine ⟨n, rfl, ?_⟩
      simp only [List.foldlM_cons, Sem.run_bind, hg]
      exact hrun
theorem fold1_run {f : Int → Int → Int} {g : Value → Value → Sem Value} (hg : ∀ k x k2 y, g (.int k x) (.int k2 y) = pure (.int k (f x y))) {xs : Array Operand} {ys : List Opd} (hx : copds xs = some ys) (he : ER w F ρ e a.tmps)
    (h : fold1 f (ys.map (ev e)) = some s) : ∃ k n x r, s = .int k n ∧ (xs.map a.eval).toList = x :: r ∧ (r.foldlM g x).run C.P w = .ok (.int k n) w := by
  obtain ⟨h1, h2⟩ := copds_vr hx he
  generalize ys.map (ev e) = cs at *
  cases cs with
  | nil => simp [fold1] at h
  | cons c cs =>
    cases c <;> simp only [fold1] at h <;> (try (cases h; done))
    rename_i k x
    cases hl : (xs.map a.eval).toList with
    | nil => simp at hl; subst hl; simp at h1
    | cons v vs =>
      have hg' : ∀ j : Nat, (xs.map a.eval)[j]? = (v :: vs)[j]? := fun j => by rw [← hl]; simp
      have h0 := vr_int (h2 0 _ v rfl (by rw [hg']; rfl))
      subst h0
      have hlen := congrArg List.length hl
      obtain ⟨n, rfl, hrun⟩ := foldI_run (C := C) (w := w) (F := F) (ρ := ρ) hg cs vs x k s (by simp at h1 hlen; omega) (fun j c v hc hv => h2 (j + 1) c v (by simpa using hc) (by rw [hg']; simpa using hv)) h
      exact ⟨k, n, _, _, rfl, rfl, hrun⟩
theorem ok_max {ats : Array TypeId} {ty : TypeId} {xs : Array Operand} {ys : List Opd} (hx : copds xs = some ys) (hr : HR C ρ F H w) (he : ER w F ρ e a.tmps)
    (h : fold1 (fun a b => if b > a then b else a) (ys.map (ev e)) = some s) : OpOK C (do pure (.value (← Builtin.max_ ats ty (xs.map a.eval)))) ρ F H w s H := by
  obtain ⟨k, n, x, r, rfl, h1, h2⟩ := fold1_run (C := C) (g := Builtin.max2) (fun _ _ _ _ => rfl) hx he h
  refine OpOK.val hr ?_ (.int k n)
  unfold Builtin.max_
  simp only [h1]
  exact h2
theorem ok_min {ats : Array TypeId} {ty : TypeId} {xs : Array Operand} {ys : List Opd} (hx : copds xs = some ys) (hr : HR C ρ F H w) (he : ER w F ρ e a.tmps)
    (h : fold1 (fun a b => if b < a then b else a) (ys.map (ev e)) = some s) : OpOK C (do pure (.value (← Builtin.min_ ats ty (xs.map a.eval)))) ρ F H w s H := by
  obtain ⟨k, n, x, r, rfl, h1, h2⟩ := fold1_run (C := C) (g := Builtin.min2) (fun _ _ _ _ => rfl) hx he h
  refine OpOK.val hr ?_ (.int k n)
  unfold Builtin.min_
  simp only [h1]
  exact h2
/-! ### Bounds of slice expressions -/
theorem sbnd_run {y n : Nat} {v : Value} {code : BoundsCode} (h : sbnd y c = some n) (hv : VR w F ρ c v) : n ≤ y ∧ ∀ z, y ≤ z → (Instr.sliceBound v z code).run C.P w = .ok n w := by
  unfold sbnd at h
  split at h
  · rename_i k j
    replace h := bif_some h
    obtain ⟨hc, h⟩ := h
    cases h
    simp at hc
    refine ⟨by omega, fun z hz => ?_⟩
    rw [vr_int hv]
    unfold Instr.sliceBound
    have : 0 ≤ j ∧ j ≤ (z : Int) := by omega
    simp only [Sem.run_bind, asIntOf, pure, Sem.run, Result.andThen, this, and_self, if_true]
  · cases h
theorem copdO_vr {x : Option Operand} {y : Option Opd} (h : copdO x = some y) (he : ER w F ρ e a.tmps) : (x = none ∧ y = none) ∨ ∃ p q, x = some p ∧ y = some q ∧ VR w F ρ (ev e q) (a.eval p) := by
  cases x with
  | none => simp [copdO] at h; exact .inl ⟨rfl, h.symm⟩
  | some p =>
    simp only [copdO, Option.map_eq_some_iff] at h
    obtain ⟨q, h1, rfl⟩ := h
    exact .inr ⟨p, q, rfl, rfl, copd_vr h1 he⟩
/-- A slice expression without a third bound. -/
theorem bounds2 {isS : Bool} {n cap h l : Nat} {lo hi : Option Operand} {lo' hi' : Option Opd} (hlo : copdO lo = some lo') (hhi : copdO hi = some hi') (he : ER w F ρ e a.tmps) (hcap : n ≤ cap)
    (h1 : obnd n n (hi'.map (ev e)) = some h) (h2 : obnd h 0 (lo'.map (ev e)) = some l) : l ≤ h ∧ h ≤ n ∧ (Instr.sliceBounds isS n cap (lo.map a.eval) (hi.map a.eval) none).run C.P w = .ok (l, h, cap) w := by
  have a1 : h ≤ n ∧ (match hi.map a.eval, (none : Option Value) with
      | some v, some _ => Instr.sliceBound v cap .slice3B
      | some v, none => Instr.sliceBound v cap (if isS then .sliceAcap else .sliceAlen)
      | none, none => pure n
      | none, some _ => stuck "Slice: max without high").run C.P w = .ok h w := by
    rcases copdO_vr hhi he with ⟨rfl, rfl⟩ | ⟨p, q, rfl, rfl, hv⟩
    · simp [obnd] at h1; subst h1; exact ⟨Nat.le_refl _, rfl⟩
    · obtain ⟨k1, k2⟩ := sbnd_run (C := C) (code := if isS then .sliceAcap else .sliceAlen) h1 hv
      exact ⟨k1, k2 cap hcap⟩
  have a2 : l ≤ h ∧ (match lo.map a.eval with
      | some v => Instr.sliceBound v h (if (none : Option Value).isSome then .slice3C else .sliceB)
      | none => pure 0).run C.P w = .ok l w := by
    rcases copdO_vr hlo he with ⟨rfl, rfl⟩ | ⟨p, q, rfl, rfl, hv⟩
    · simp [obnd] at h2; subst h2; exact ⟨Nat.zero_le _, rfl⟩
    · obtain ⟨k1, k2⟩ := sbnd_run (C := C) (code := .sliceB) h2 hv
      exact ⟨k1, k2 h (Nat.le_refl _)⟩
  refine ⟨a2.1, a1.1, ?_⟩
  have b1 := a1.2
  have b2 := a2.2
  unfold Instr.sliceBounds
  simp only [Sem.run_bind, pure, Sem.run, Result.andThen_ok] at b1 b2 ⊢
  cases hi <;> cases lo <;> simp only [Option.map_none, Option.map_some] at b1 b2 ⊢ <;> simp_all [Sem.run, pure]
end
end Go.Sh
