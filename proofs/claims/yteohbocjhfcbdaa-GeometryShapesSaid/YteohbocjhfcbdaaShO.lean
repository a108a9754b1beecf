/-
  THE SHADOW MACHINE, PART O: append.
-/
import Derived.Test.YteohbocjhfcbdaaShN
namespace Go.Sh
set_option linter.unusedSectionVars false
set_option linter.unusedVariables false
set_option linter.unusedSimpArgs false
set_option linter.unnecessarySimpa false
section
variable {C : Ctx} {ρ : Map} {F : Nat → Prop} {H H' : Heap} {w : World} {e : Env} {a : Act} {s c d : SV}
theorem cell_heap {w' : World} (h : w'.heap = w.heap) (ad : Addr) : w'.cell? ad = w.cell? ad := by simp [World.cell?, h]
theorem rows_nil {vs : Array Value} {at_ z : Nat} : RowsR w F ρ vs at_ z [] := ⟨by simp, by simp⟩
theorem rows_ok {vs : Array Value} {z : Nat} {X : List (List SV)} (h : RowsR w F ρ vs 0 z X) (hn : vs.size = X.length * z) : ∀ v ∈ vs.toList, one1 v = true := by
  intro v hv
  obtain ⟨j, hj, rfl⟩ := List.mem_iff_getElem.1 hv
  simp at hj
  have hz : 0 < z := by
    rcases Nat.eq_zero_or_pos z with h0 | h0
    · subst h0; omega
    · exact h0
  have hi : j / z < X.length := by
    apply Nat.div_lt_of_lt_mul
    rw [Nat.mul_comm]; omega
  have hx : X[j / z]? = some X[j / z] := List.getElem?_eq_getElem hi
  have hl := h.1 _ _ hx
  have hm : j % z < (X[j / z]).length := by rw [hl]; exact Nat.mod_lt _ hz
  obtain ⟨v', h1, h2, h3⟩ := h.2 _ _ hx (j % z) _ (List.getElem?_eq_getElem hm)
  have : 0 + j / z * z + j % z = j := by
    rw [Nat.zero_add, Nat.mul_comm]; exact Nat.div_add_mod j z
  rw [this, Array.getElem?_eq_getElem (by omega)] at h1
  have : v' = vs.toList[j] := by simpa using (Option.some.inj h1).symm
  rw [← this]
  exact h2.one h3
/-- What a slice's block holds stands under the map 'ρ1' too. -/
def SrcR (C : Ctx) (w : World) (F : Nat → Prop) (H : Heap) (ρ ρ1 : Map) (c : SV) : Prop := ∀ b ver off n l x, c = .slc b ver off n → ρ b = some l → hget H b = some x → x.live = true → BR C w F ρ1 l x
theorem srcR_self (hr : HR C ρ F H w) : SrcR C w F H ρ ρ c := fun b ver off n l x _ hl hb hx => by
  obtain ⟨l', h1, h2⟩ := hr.live b x hb hx
  rw [hl] at h1; cases h1
  exact h2
/-- The cells of a slice, read. -/
theorem rd_run (hr : HR C ρ F H w) {z : Nat} (hz : 0 < z) {X : List (List SV)} {v : Value} (hv : VR w F ρ c v) (h : rdL z H c = some X) :
    ∃ q cap cells, v = .slice q X.length cap ∧ (∀ w' : World, w'.heap = w.heap → (Builtin.firstCells z X.length v).run C.P w' = .ok cells w') ∧ cells.size = X.length * z ∧ ∀ ρ1 : Map, SrcR C w F H ρ ρ1 c → RowsR w F ρ1 cells 0 z X := by
  unfold rdL at h
  split at h
  · rename_i z' L f
    replace h := bif_some h
    obtain ⟨hc, h⟩ := h
    have h' : L = X := Option.some.inj h
    subst h'
    clear h
    cases hv with
    | lst V hcap hfull hz' hat h1 hv =>
      rename_i q cap
      rcases hat with h0 | ⟨B, o, ha, hF, hk⟩
      · subst h0
        refine ⟨q, cap, #[], rfl, fun w' hw => ?_, by simp, fun _ _ => rows_nil⟩
        cases q with
        | none => rfl
        | some q => simp only [Builtin.firstCells, List.length_nil, Nat.zero_mul]; rfl
      · subst ha
        by_cases h0 : L = []
        · subst h0
          exact ⟨_, cap, #[], rfl, fun w' hw => by simp only [Builtin.firstCells, List.length_nil, Nat.zero_mul]; rfl, by simp, fun _ _ => rows_nil⟩
        · have hzz : z' = z := by
            simp at hc
            rcases hc with hc | hc
            · exact hc
            · exact absurd hc h0
          subst hzz
          refine ⟨_, cap, ((List.range (L.length * z')).map fun j => V (j / z') (j % z')).toArray, rfl, fun w' hw => ?_, by simp, fun ρ1 _ => ⟨fun i cs hi => hz' i cs hi, fun i cs hi j c hj => ?_⟩⟩
          · simp only [Builtin.firstCells]
            refine run_loadCells w' _ _ _ (fun j hj => ?_)
            rw [add_none, cell_heap hw]
            have hi : j / z' < L.length := Nat.div_lt_of_lt_mul (by rw [Nat.mul_comm]; exact hj)
            have hx : L[j / z']? = some L[j / z'] := List.getElem?_eq_getElem hi
            have hm : j % z' < (L[j / z']).length := by rw [hz' _ _ hx]; exact Nat.mod_lt _ hz
            have := hk _ _ _ _ hx (List.getElem?_eq_getElem hm)
            rw [Nat.add_assoc, Nat.mul_comm, Nat.div_add_mod] at this
            exact this
          · have hil := (List.getElem?_eq_some_iff.1 hi).1
            have hjl := (List.getElem?_eq_some_iff.1 hj).1
            rw [hz' i cs hi] at hjl
            have hm : (i + 1) * z' ≤ L.length * z' := Nat.mul_le_mul_right z' hil
            rw [Nat.add_mul, Nat.one_mul] at hm
            refine ⟨V i j, ?_, (hv i j cs c hi hj).mono (fun _ _ => rfl) (fun _ h => h) (noMap_le _), h1 i j cs c hi hj⟩
            have e1 : (i * z' + j) / z' = i := by
              rw [Nat.add_comm, Nat.add_mul_div_right _ _ hz, Nat.div_eq_of_lt hjl, Nat.zero_add]
            have e2 : (i * z' + j) % z' = j := by rw [Nat.add_comm, Nat.add_mul_mod_self_right, Nat.mod_eq_of_lt hjl]
            rw [Nat.zero_add]
            have hlt : i * z' + j < L.length * z' := by omega
            simp only [List.getElem?_toArray, List.getElem?_map, List.getElem?_range hlt, Option.map_some, e1, e2]
  · rename_i b ver off n
    split at h
    · rename_i ver' z' L ex hb
      replace h := bif_some h
      obtain ⟨hc, h⟩ := h
      simp at hc
      obtain ⟨⟨rfl, rfl⟩, hle⟩ := hc
      cases h
      obtain ⟨l, z2, L2, ex2, hl, hb2, hbr, g1, g2⟩ := cur_slc hr (by unfold cur; simp [hb]) hv
      rw [hb] at hb2; cases hb2
      have hlen : ((L.drop off).take n).length = n := by simp; omega
      cases hvi : l.virt with
      | true =>
        obtain ⟨q, rfl, rfl, rfl⟩ := g1 hvi
        simp only [List.take_zero, List.length_nil, Nat.zero_mul]
        refine ⟨q, 0, #[], rfl, fun w' hw => ?_, by simp, fun _ _ => rows_nil⟩
        cases q with
        | none => rfl
        | some q => simp only [Builtin.firstCells, Nat.zero_mul]; rfl
      | false =>
        obtain ⟨g3, q, rfl, g4⟩ := g2 hvi
        obtain ⟨h1, h2, h3, h4, h5, h6, h7, h8⟩ := hbr
        obtain ⟨vs, ty, fz, k1, k2, k3, k4⟩ := h8 hvi
        rw [hlen]
        by_cases hn0 : n = 0
        · subst hn0
          simp only [List.take_zero]
          refine ⟨q, _, #[], rfl, fun w' hw => ?_, by simp, fun _ _ => rows_nil⟩
          cases q with
          | none => rfl
          | some q => simp only [Builtin.firstCells, Nat.zero_mul]; rfl
        · have := g4 (by omega)
          subst this
          have hm : (off + n) * z' ≤ l.cap * z' := Nat.mul_le_mul_right z' g3
          rw [Nat.add_mul] at hm
          refine ⟨_, _, vs.extract (l.base + off * z') (l.base + off * z' + n * z'), rfl, fun w' hw => ?_, by simp; omega, fun ρ1 hρ1 => ⟨fun i cs hi => ?_, fun i cs hi => ?_⟩⟩
          · simp only [Builtin.firstCells, h3]
            rw [run_loadCells w' _ _ (fun j => vs.getD (l.base + off * z' + j) undef) (fun j hj => by
              rw [add_none, cell_heap hw, cell_at k1]
              have : l.base + off * z' + j < vs.size := by omega
              simp [this])]
            congr 1
            apply Array.ext
            · simp; omega
            · intro j h1 h2
              simp at h1
              have : l.base + off * z' + j < vs.size := by omega
              simp [this]
          · obtain ⟨e1, _⟩ : L[off + i]? = some cs ∧ True := by
              rw [List.getElem?_take] at hi
              split at hi
              · rw [List.getElem?_drop] at hi; exact ⟨hi, trivial⟩
              · cases hi
            exact h4 _ cs e1
          · obtain ⟨e1, e2⟩ : L[off + i]? = some cs ∧ i < n := by
              rw [List.getElem?_take] at hi
              split at hi
              · rw [List.getElem?_drop] at hi; exact ⟨hi, by assumption⟩
              · cases hi
            intro j c hj
            have hjl := (List.getElem?_eq_some_iff.1 hj).1
            rw [h4 _ cs e1] at hjl
            obtain ⟨_, _, _, _, _, _, _, h9⟩ := hρ1 b _ _ _ l _ rfl hl hb rfl
            obtain ⟨vs2, ty2, fz2, m1, m2, m3, m4⟩ := h9 hvi
            rw [k1] at m1; cases m1
            obtain ⟨v', p1, p2⟩ := m4 _ cs e1 j c hj
            refine ⟨v', ?_, p2⟩
            have hm2 : (i + 1) * z' ≤ n * z' := Nat.mul_le_mul_right z' e2
            rw [Nat.add_mul, Nat.one_mul] at hm2
            rw [Array.getElem?_extract, if_pos (by omega)]
            rw [Nat.add_mul] at p1
            rw [show l.base + off * z' + (0 + i * z' + j) = l.base + (off * z' + i * z') + j by omega]
            exact p1
    · cases h
  · cases h
end
end Go.Sh
