/-
  THE SHADOW MACHINE, PART L: slice expressions; composite literals; structs compared.
-/
import Derived.Test.YteohbocjhfcbdaaShK
namespace Go.Sh
set_option linter.unusedSectionVars false
set_option linter.unusedVariables false
set_option linter.unusedSimpArgs false
set_option linter.unnecessarySimpa false
section
variable {C : Ctx} {ρ : Map} {F : Nat → Prop} {H H' : Heap} {w : World} {e : Env} {a : Act} {s c d : SV}
theorem ok_sliceS {t : TypeId} {x : Operand} {y : Opd} {lo hi : Option Operand} {lo' hi' : Option Opd} {b : ByteArray} (hx : copd x = some y) (hlo : copdO lo = some lo') (hhi : copdO hi = some hi') (hu : C.P.underlying t = some .string)
    (hr : HR C ρ F H w) (he : ER w F ρ e a.tmps) (hc : ev e y = .str b) (h : ssliceS b (lo'.map (ev e)) (hi'.map (ev e)) = some s) :
    OpOK C (do pure (.value (← Instr.sliceAt t (a.eval x) (lo.map a.eval) (hi.map a.eval) ((none : Option Operand).map a.eval)))) ρ F H w s H := by
  have hv := copd_vr hx he
  rw [hc] at hv
  unfold ssliceS at h
  simp only [Option.bind_eq_some_iff, Option.map_eq_some_iff] at h
  obtain ⟨h1, k1, l1, k2, rfl⟩ := h
  obtain ⟨_, _, hrun⟩ := bounds2 (C := C) (w := w) (isS := false) hlo hhi he (Nat.le_refl b.size) k1 k2
  refine OpOK.val hr (val := .string (b.extract l1 h1)) ?_ (.str _)
  unfold Instr.sliceAt
  simp only [Sem.run_bind, run_underlying hu, Result.andThen, Instr.slice, vr_str hv, Option.map_none, hrun]
  simp [Sem.run, pure, hrun]
theorem take_drop_get {A : Type} {L : List A} {h l i : Nat} {x : A} (hx : ((L.take h).drop l)[i]? = some x) : L[l + i]? = some x ∧ l + i < h := by
  rw [List.getElem?_drop, List.getElem?_take] at hx
  split at hx
  · exact ⟨hx, by assumption⟩
  · cases hx
theorem ok_sliceL {t el : TypeId} {n : Nat} {x : Operand} {y : Opd} {lo hi mx : Option Operand} {lo' hi' mx' : Option Opd} (hx : copd x = some y) (hlo : copdO lo = some lo') (hhi : copdO hi = some hi') (hmx : copdO mx = some mx')
    (hu : C.P.underlying t = some (.slice el)) (hn : csz C.P el = some n) (hr : HR C ρ F H w) (he : ER w F ρ e a.tmps) (hc : curZ H n (ev e y) = true) (hsome : mx'.isSome = true → hi'.isSome = true)
    (h : sslice (ev e y) (lo'.map (ev e)) (hi'.map (ev e)) (mx'.map (ev e)) = some s) :
    OpOK C (do pure (.value (← Instr.sliceAt t (a.eval x) (lo.map a.eval) (hi.map a.eval) (mx.map a.eval)))) ρ F H w s H := by
  have hv := copd_vr hx he
  generalize ev e y = c at *
  /- the bounds -/
  suffices hs : ∃ q len cap l1 h1 m1, a.eval x = .slice q len cap ∧ (Instr.sliceBounds true len cap (lo.map a.eval) (hi.map a.eval) (mx.map a.eval)).run C.P w = .ok (l1, h1, m1) w ∧
      VR w F ρ s (.slice (if m1 = l1 then q else q.map (·.add (l1 * n))) (h1 - l1) (m1 - l1)) by
    obtain ⟨q, len, cap, l1, h1, m1, k1, k2, k3⟩ := hs
    refine OpOK.val hr ?_ k3
    unfold Instr.sliceAt
    simp only [Sem.run_bind, run_underlying hu, Result.andThen, Instr.slice, k1, k2, run_sizeOf' hn]
    rfl
  cases hmx' : mx' with
  | none =>
    have hmn : mx = none := by
      rcases copdO_vr hmx he with ⟨e1, _⟩ | ⟨_, _, _, e2, _⟩
      · exact e1
      · rw [hmx'] at e2; cases e2
    subst hmx' hmn
    simp only [Option.map_none] at h ⊢
    unfold sslice at h
    split at h
    · rename_i z L f
      simp only [Option.bind_eq_some_iff, Option.map_eq_some_iff, obnd, Option.some.injEq] at h
      obtain ⟨m, rfl, h1, k1, l1, k2, rfl⟩ := h
      generalize a.eval x = u at *
      cases hv with
      | lst V hcap hfull hz hat h1' hv =>
        rename_i q cap
        obtain ⟨p1, p2, hrun⟩ := bounds2 (C := C) (w := w) (isS := true) hlo hhi he hcap k1 k2
        refine ⟨q, _, cap, l1, h1, cap, rfl, hrun, ?_⟩
        have hlen : ((L.take h1).drop l1).length = h1 - l1 := by simp; omega
        rw [← hlen]
        refine .lst (fun i j => V (l1 + i) j) (by rw [hlen]; omega) (fun hf => ?_) (fun i cs hi => hz _ cs (take_drop_get hi).1) ?_ (fun i j cs c hi hj => h1' _ j cs c (take_drop_get hi).1 hj) (fun i j cs c hi hj => hv _ j cs c (take_drop_get hi).1 hj)
        · simp at hf
          rw [hlen, hfull hf.1, hf.2]
        · by_cases hemp : (L.take h1).drop l1 = []
          · exact .inl hemp
          · right
            have hlt : l1 < h1 := by
              have : 0 < ((L.take h1).drop l1).length := List.length_pos_iff.2 hemp
              omega
            rcases hat with h0 | ⟨B, o, ha, hF, hk⟩
            · subst h0; simp at p2; omega
            · subst ha
              have hne : L ≠ [] := fun h => by subst h; simp at p2; omega
              have hzn : z = n := by
                unfold curZ at hc
                simp at hc
                rcases hc with hc | hc
                · exact hc
                · exact absurd hc hne
              subst hzn
              refine ⟨B, o + l1 * z, ?_, hF, fun i j cs c hi hj => ?_⟩
              · rw [if_neg (by omega)]; simp [add_none]
              · have := hk _ j cs c (take_drop_get hi).1 hj
                rw [Nat.add_mul] at this
                rw [Nat.add_assoc o]
                exact this
    · rename_i b ver off m
      simp only [Option.bind_eq_some_iff, Option.map_eq_some_iff] at h
      obtain ⟨h1, k1, l1, k2, rfl⟩ := h
      obtain ⟨l, z, L, ex, hl, hb, hbr, g1, g2⟩ := cur_slc hr (curZ_cur hc) hv
      have hzn : z = n := by
        unfold curZ at hc
        simp [hb] at hc
        exact hc
      subst hzn
      have hver : ver = l.ver := hbr.2.1.symm
      have hesz : l.esz = z := hbr.2.2.1
      cases hvi : l.virt with
      | true =>
        obtain ⟨q, hq, rfl, rfl⟩ := g1 hvi
        obtain ⟨p1, p2, hrun⟩ := bounds2 (C := C) (w := w) (isS := true) hlo hhi he (Nat.le_refl 0) k1 k2
        have : h1 = 0 := by omega
        subst this
        have : l1 = 0 := by omega
        subst this
        exact ⟨q, 0, 0, 0, 0, 0, hq, hrun, .slc hl (Nat.le_of_eq hver) rfl (fun _ => ⟨fun _ => ⟨q, rfl, rfl, rfl⟩, (fun hf => by rw [hvi] at hf; cases hf)⟩)⟩
      | false =>
        obtain ⟨g3, q, hq, g4⟩ := g2 hvi
        obtain ⟨p1, p2, hrun⟩ := bounds2 (C := C) (w := w) (isS := true) hlo hhi he (show m ≤ l.cap - off by omega) k1 k2
        refine ⟨q, m, l.cap - off, l1, h1, l.cap - off, hq, hrun, .slc hl (Nat.le_of_eq hver) rfl (fun _ => ⟨(fun hf => by rw [hvi] at hf; cases hf), fun _ => ⟨by omega, _, by congr 1; omega, fun hlt => ?_⟩⟩)⟩
        rw [if_neg (by omega), g4 (by omega)]
        simp [add_none, hesz, Nat.add_mul, Nat.add_assoc]
    · cases h
  | some mq =>
    obtain ⟨mo, rfl, hmv⟩ : ∃ mo, mx = some mo ∧ VR w F ρ (ev e mq) (a.eval mo) := by
      rcases copdO_vr hmx he with ⟨_, e2⟩ | ⟨p, q, e1, e2, e3⟩
      · rw [hmx'] at e2; cases e2
      · rw [hmx'] at e2; cases e2; exact ⟨p, e1, e3⟩
    subst hmx'
    simp only [Option.map_some] at h ⊢
    /- with a third bound: 'm' for the length and the capacity of what is left -/
    have hb3 : ∀ {n0 cap m h1 l1 : Nat}, n0 ≤ cap → sbnd n0 (ev e mq) = some m → obnd m n0 (hi'.map (ev e)) = some h1 → obnd h1 0 (lo'.map (ev e)) = some l1 → hi'.isSome = true →
        l1 ≤ h1 ∧ h1 ≤ m ∧ m ≤ n0 ∧ (Instr.sliceBounds true n0 cap (lo.map a.eval) (hi.map a.eval) (some (a.eval mo))).run C.P w = .ok (l1, h1, m) w := by
      intro n0 cap m h1 l1 hcap km kh kl hsome
      obtain ⟨m1, m2⟩ := sbnd_run (C := C) (code := .slice3Acap) km hmv
      rcases copdO_vr hhi he with ⟨_, rfl⟩ | ⟨hp, hq, rfl, rfl, hhv⟩
      · cases hsome
      · obtain ⟨h3, h4⟩ := sbnd_run (C := C) (code := .slice3B) kh hhv
        have a2 : l1 ≤ h1 ∧ (match lo.map a.eval with
            | some v => Instr.sliceBound v h1 (if (some (a.eval mo)).isSome then .slice3C else .sliceB)
            | none => pure 0).run C.P w = .ok l1 w := by
          rcases copdO_vr hlo he with ⟨rfl, rfl⟩ | ⟨p, q, rfl, rfl, hv⟩
          · simp [obnd] at kl; subst kl; exact ⟨Nat.zero_le _, rfl⟩
          · obtain ⟨k1, k2⟩ := sbnd_run (C := C) (code := .slice3C) kl hv
            exact ⟨k1, k2 h1 (Nat.le_refl _)⟩
        refine ⟨a2.1, h3, m1, ?_⟩
        have b2 := a2.2
        have b1 := h4 m (Nat.le_refl _)
        have b0 := m2 cap hcap
        unfold Instr.sliceBounds
        simp only [Sem.run_bind, pure, Sem.run, Result.andThen_ok] at b0 b1 b2 ⊢
        cases lo <;> simp only [Option.map_none, Option.map_some] at b2 ⊢ <;> simp_all [Sem.run, pure]
    have hsome := hsome rfl
    unfold sslice at h
    split at h
    · rename_i z L f
      simp only [Option.bind_eq_some_iff, Option.map_eq_some_iff, obnd] at h
      obtain ⟨m, km, h1, k1, l1, k2, rfl⟩ := h
      generalize a.eval x = u at *
      cases hv with
      | lst V hcap hfull hz hat h1' hv =>
        rename_i q cap
        obtain ⟨p1, p2, p3, hrun⟩ := hb3 hcap km k1 k2 hsome
        refine ⟨q, _, cap, l1, h1, m, rfl, hrun, ?_⟩
        have hlen : ((L.take h1).drop l1).length = h1 - l1 := by simp; omega
        rw [← hlen]
        refine .lst (fun i j => V (l1 + i) j) (by rw [hlen]; omega) (fun hf => ?_) (fun i cs hi => hz _ cs (take_drop_get hi).1) ?_ (fun i j cs c hi hj => h1' _ j cs c (take_drop_get hi).1 hj) (fun i j cs c hi hj => hv _ j cs c (take_drop_get hi).1 hj)
        · simp at hf
          rw [hlen, hf]
        · by_cases hemp : (L.take h1).drop l1 = []
          · exact .inl hemp
          · right
            have hlt : l1 < h1 := by
              have : 0 < ((L.take h1).drop l1).length := List.length_pos_iff.2 hemp
              omega
            rcases hat with h0 | ⟨B, o, ha, hF, hk⟩
            · subst h0; simp at p3; omega
            · subst ha
              have hne : L ≠ [] := fun h => by subst h; simp at p3; omega
              have hzn : z = n := by
                unfold curZ at hc
                simp at hc
                rcases hc with hc | hc
                · exact hc
                · exact absurd hc hne
              subst hzn
              refine ⟨B, o + l1 * z, ?_, hF, fun i j cs c hi hj => ?_⟩
              · rw [if_neg (by omega)]; simp [add_none]
              · have := hk _ j cs c (take_drop_get hi).1 hj
                rw [Nat.add_mul] at this
                rw [Nat.add_assoc o]
                exact this
    · rename_i b ver off m0
      simp only [Option.bind_eq_some_iff, Option.map_eq_some_iff, obnd] at h
      obtain ⟨m, km, h1, k1, l1, k2, h⟩ := h
      replace h := bif_some h
      obtain ⟨hml, h⟩ := h
      cases h
      have hml : m = l1 := by simpa using hml
      obtain ⟨l, z, L, ex, hl, hb, hbr, g1, g2⟩ := cur_slc hr (curZ_cur hc) hv
      have hsl : ∃ q cap, a.eval x = .slice q m0 cap ∧ m0 ≤ cap := by
        cases hvi : l.virt with
        | true => obtain ⟨q, hq, _, rfl⟩ := g1 hvi; exact ⟨q, 0, hq, Nat.le_refl _⟩
        | false => obtain ⟨g3, q, hq, _⟩ := g2 hvi; exact ⟨q, _, hq, by omega⟩
      obtain ⟨q, cap, hq, hcap⟩ := hsl
      obtain ⟨p1, p2, p3, hrun⟩ := hb3 hcap km k1 k2 hsome
      refine ⟨q, m0, cap, l1, h1, m, hq, hrun, ?_⟩
      have e1 : h1 - l1 = 0 := by omega
      have e2 : m - l1 = 0 := by omega
      rw [e1, e2]
      exact VR.lst (L := []) (fun _ _ => undef) (Nat.le_refl _) (fun _ => rfl) (by simp) (.inl rfl) (by simp) (by simp)
    · cases h
end
end Go.Sh
