/-
  THE SHADOW MACHINE, PART P: append.
-/
import Derived.Test.YteohbocjhfcbdaaShO
namespace Go.Sh
set_option linter.unusedSectionVars false
set_option linter.unusedVariables false
set_option linter.unusedSimpArgs false
set_option linter.unnecessarySimpa false
section
variable {C : Ctx} {ρ : Map} {F : Nat → Prop} {H H' : Heap} {w : World} {e : Env} {a : Act} {s c d : SV}
structure ApT (P : Program) (ats : Array TypeId) (el : TypeId) (z : Nat) (i : TypeInfo) (zv : Value) : Prop where
  t0 : ∃ t, ats[0]? = some t ∧ P.underlying t = some (.slice el)
  t1 : ∃ t el', ats[1]? = some t ∧ P.underlying t = some (.slice el')
  inf : P.info? el = some i
  size : i.size = z
  zero : i.zero = some zv
  zsz : zv.cells.size = z
  zpos : 0 < z
  byt : 0 < i.bytes
theorem ApT.csz {P : Program} {ats : Array TypeId} {el : TypeId} {z : Nat} {i : TypeInfo} {zv : Value} (h : ApT P ats el z i zv) : csz P el = some z := by
  unfold Go.Sh.csz; rw [h.inf]; simp [h.size]
theorem run_append_fits {P : Program} {ats : Array TypeId} {el : TypeId} {z : Nat} {i : TypeInfo} {zv : Value} (hT : ApT P ats el z i zv) {ty : TypeId} {base q : Option Addr} {sl sc m mc : Nat} {cells : Array Value}
    (hx : (Builtin.firstCells z m (.slice q m mc)).run P w = .ok cells w) (hfit : sl + m ≤ sc) {w' : World} (hst : ∀ ad, base = some ad → (storeCells (ad.add (sl * z)) cells.toList).run P w = .ok () w') (hno : base = none → w' = w) :
    (Builtin.append_ ats ty #[.slice base sl sc, .slice q m mc]).run P w = .ok (.slice base (sl + m) sc) w' := by
  obtain ⟨t0, h0, hu0⟩ := hT.t0
  obtain ⟨t1, el', h1, hu1⟩ := hT.t1
  unfold Builtin.append_
  simp only [h0, h1, List.getElem?_toArray, List.getElem?_cons_zero, List.getElem?_cons_succ, Sem.run_bind, run_underlying hu0, run_underlying hu1, Result.andThen, run_sizeOf' hT.csz]
  simp only [pure, Sem.run, Result.andThen, Builtin.lenOf, Bool.false_eq_true, if_false, hfit, if_true, Sem.run_bind, Bool.not_false]
  rw [hx]
  cases base with
  | none => simp only [hno rfl]; rfl
  | some ad => simp only [hst ad rfl, Sem.run_bind, Result.andThen]; rfl
theorem run_append_grows {P : Program} {ats : Array TypeId} {el : TypeId} {z : Nat} {i : TypeInfo} {zv : Value} (hT : ApT P ats el z i zv) {ty : TypeId} {base q : Option Addr} {sl sc m mc : Nat} {cells old : Array Value}
    (hx : ∀ w', w'.heap = w.heap → (Builtin.firstCells z m (.slice q m mc)).run P w' = .ok cells w') (ho : ∀ w', w'.heap = w.heap → (Builtin.firstCells z sl (.slice base sl sc)).run P w' = .ok old w') (hfit : ¬ sl + m ≤ sc) (hb : (sl + m) * i.bytes ≤ mostLen) :
    ∃ nc w' vs ty', sl + m ≤ nc ∧ (w'.heap = w.heap.push (.cells vs ty') ∧ w'.os = w.os ∧ w'.output = w.output) ∧ (∃ rest, vs = old ++ cells ++ rest ∧ rest.size = (nc - (sl + m)) * z) ∧
      (Builtin.append_ ats ty #[.slice base sl sc, .slice q m mc]).run P w = .ok (.slice (some ⟨w.heap.size, 0, none⟩) (sl + m) nc) w' := by
  obtain ⟨t0, h0, hu0⟩ := hT.t0
  obtain ⟨t1, el', h1, hu1⟩ := hT.t1
  have hbp := hT.byt
  have hml : mostLen = 1099511627776 := rfl
  have g1 : ¬ Builtin.nextslicecap (sl + m) sc * i.bytes > 2 ^ 48 := by
    have := growslice_fits (need := sl + m) (old := sc) (bytes := i.bytes) (by omega) (by omega)
    omega
  have hle : sl + m ≤ (sl + m) * i.bytes := Nat.le_mul_of_pos_right _ hbp
  have g2 : ¬ (9223372036854775807 < ((sl : Int) + (m : Int))) := by omega
  have g1' : ¬ (281474976710656 < Builtin.nextslicecap (sl + m) sc * i.bytes) := by omega
  refine ⟨grownCap w (sl + m) sc el, w.drew.alloc (.cells (old ++ cells ++ Builtin.zeroCells zv.cells (grownCap w (sl + m) sc el - (sl + m))) el), _, el, ?_, ⟨rfl, rfl, rfl⟩, ⟨_, rfl, by simp [Builtin.zeroCells, hT.zsz]⟩, ?_⟩
  · show sl + m ≤ (sl + m) + _ % _
    omega
  · have hf := hx w.drew rfl
    have hfo := ho w.drew rfl
    have hi := hT.inf
    have hsz := hT.size
    have hz := hT.zero
    simp [Builtin.append_, h0, h1, run_underlying hu0, run_underlying hu1, sizeOf, typeInfo, zeroValue, hi, hz, hsz, Builtin.lenOf, hfit, g2, g1', Question.forced, hf, hfo, newRow, grownCap]
end
end Go.Sh
