/-
  THE SHADOW MACHINE, PART R: make, copy, clear, structs compared, bytes and strings.
-/
import Derived.Test.YteohbocjhfcbdaaShQ
namespace Go.Sh
set_option linter.unusedSectionVars false
set_option linter.unusedVariables false
set_option linter.unusedSimpArgs false
set_option linter.unnecessarySimpa false
section
variable {C : Ctx} {ρ : Map} {F : Nat → Prop} {H H' : Heap} {w : World} {e : Env} {a : Act} {s c d : SV}
theorem wrap_small {n : Int} (h0 : 0 ≤ n) (h1 : n ≤ mostLen) : IntKind.i64.wrap n = n := by
  have : mostLen = 1099511627776 := rfl
  rw [IntKind.wrap_i64]; omega
theorem ok_mkslice {t el : TypeId} {i : TypeInfo} {z : List SV} (hu : C.P.underlying t = some (.slice el)) (hi : C.P.info? el = some i) (hz : czero C.P el = some z) (hzl : z.length = i.size) (h0 : 0 < i.size) (hbp : 0 < i.bytes) (hr : HR C ρ F H w)
    {lv cv : Value} {ls cs : SV} (hl : VR w F ρ ls lv) (hc : VR w F ρ cs cv) (h : smake i.size z i.bytes H ls cs = some (d, H')) : ∃ val w', (Instr.makeSlice t lv cv).run C.P w = .ok val w' ∧ Done C ρ F H w d H' val w' := by
  unfold smake at h
  split at h
  · rename_i l c
    replace h := bif_some h
    obtain ⟨hb, h⟩ := h
    simp only [Bool.and_eq_true, decide_eq_true_eq] at hb
    obtain ⟨⟨h1, h2⟩, h3⟩ := hb
    simp only [Option.some.injEq, Prod.mk.injEq] at h
    obtain ⟨rfl, rfl⟩ := h
    obtain rfl := vr_int hl
    obtain rfl := vr_int hc
    obtain ⟨i', v, hi', hv, k1, k2⟩ := czero_vr (w := w) (F := F) (ρ := ρ) hz
    rw [hi] at hi'; cases hi'
    have hzr : (zeroRow v.cells (c.toNat * i.size)).size = c.toNat * i.size := by simp [zeroRow]
    have hrow := zeroRow_rows (n := c.toNat) hzl k1 k2 h0
    refine ⟨.slice (some ⟨w.heap.size, 0, none⟩) l.toNat c.toNat, { w with heap := w.heap.push (.cells (zeroRow v.cells (c.toNat * i.size)) el) }, ?_, push_arr hr rfl (by simp) (fun _ => by simp) (by rw [hzr]; exact Nat.le_refl _) hrow l.toNat (by simp; omega)⟩
    have hm : c ≤ c * i.bytes := by
      have : c * 1 ≤ c * i.bytes := Int.mul_le_mul_of_nonneg_left (by omega) (by omega)
      omega
    have hml : (mostLen : Int) = 1099511627776 := rfl
    have wl : IntKind.i64.wrap l = l := wrap_small h1 (by omega)
    have wc : IntKind.i64.wrap c = c := wrap_small (by omega) (by omega)
    have n1 : ¬ c < 0 := by omega
    have n2 : ¬ (281474976710656 < (i.bytes : Int) * c) := by rw [Int.mul_comm]; omega
    have n3 : ¬ l < 0 := by omega
    have n4 : ¬ c < l := by omega
    by_cases hn : c.toNat * i.size = 0
    · have hzz : (Array.range (c.toNat * i.size)).map (fun x => (#[] : Array Value)[x % (#[] : Array Value).size]!) = zeroRow v.cells (c.toNat * i.size) := by
        unfold zeroRow; rw [hn]; simp
      have hask : ∀ w : World, (askRoom (c.toNat * i.bytes)).run C.P w = .ok () w := fun w => by unfold askRoom; split <;> rfl
      unfold Instr.makeSlice
      simp only [Sem.run_bind, run_underlying hu, Result.andThen, run_typeInfo _ hi, asInt, asIntOf, pure, Sem.run, wl, wc, hask]
      simp [n1, n2, n3, n4, hask, sizeOf, typeInfo, hi, newRow, hn]
      have hr0 : Array.range 0 = #[] := Array.eq_empty_of_size_eq_zero (by simp)
      simp [zeroRow, hr0]
    · have hask : ∀ w : World, (askRoom (c.toNat * i.bytes)).run C.P w = .ok () w := fun w => by unfold askRoom; split <;> rfl
      unfold Instr.makeSlice
      simp only [Sem.run_bind, run_underlying hu, Result.andThen, run_typeInfo _ hi, asInt, asIntOf, pure, Sem.run, wl, wc, hask]
      simp [n1, n2, n3, n4, hask, sizeOf, typeInfo, hi, newRow, hn, zeroValue, hv, zeroRow]
  · cases h
end
end Go.Sh
