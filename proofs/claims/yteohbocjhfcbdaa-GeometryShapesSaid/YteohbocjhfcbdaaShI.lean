/-
  THE SHADOW MACHINE, PART I: arithmetic, addresses, parts.
-/
import Derived.Test.YteohbocjhfcbdaaShH
namespace Go.Sh
set_option linter.unusedSectionVars false
set_option linter.unusedVariables false
set_option linter.unusedSimpArgs false
set_option linter.unnecessarySimpa false
section
variable {C : Ctx} {ρ : Map} {F : Nat → Prop} {H H' : Heap} {w : World} {e : Env} {a : Act} {s c d : SV}
/-- What a current pointer is. -/
theorem cur_ptr (hr : HR C ρ F H w) {b ver i o : Nat} {v : Value} (hc : cur H (.ptr b ver i o) = true) (hv : VR w F ρ (.ptr b ver i o) v) :
    ∃ l, ρ b = some l ∧ ver = l.ver ∧ l.virt = false ∧ v = .pointer (some ⟨l.blk, l.base + i * l.esz + o, none⟩) := by
  have key : ∀ l, ρ b = some l → ver = l.ver → ∃ l, ρ b = some l ∧ ver = l.ver ∧ l.virt = false ∧ v = .pointer (some ⟨l.blk, l.base + i * l.esz + o, none⟩) := by
    intro l hl hve
    cases hv with
    | ptr h h1 h2 h3 =>
      rw [hl] at h; cases h
      obtain ⟨k1, k2⟩ := h3 hve
      exact ⟨l, hl, hve, k1, k2⟩
  unfold cur at hc
  split at hc
  · rename_i b' v' i' o' heq
    cases heq
    split at hc
    · rename_i cs hb
      obtain ⟨l, hl, hbr⟩ := hr.live b _ hb rfl
      refine key l hl ?_
      cases hv with
      | ptr h h1 h2 h3 => rw [hl] at h; cases h; have := hbr.2.2.2.1; omega
    · rename_i v'' z L ex hb
      obtain ⟨l, hl, hbr⟩ := hr.live b _ hb rfl
      refine key l hl ?_
      have := hbr.2.1
      simp at hc; omega
    · cases hc
  · rename_i heq; cases heq
  · rename_i hne _; exact absurd rfl (hne b ver i o)
theorem cur_slc (hr : HR C ρ F H w) {b ver off n : Nat} {v : Value} (hc : cur H (.slc b ver off n) = true) (hv : VR w F ρ (.slc b ver off n) v) :
    ∃ l z L ex, ρ b = some l ∧ hget H b = some (.arr ver z L ex) ∧ BR C w F ρ l (.arr ver z L ex) ∧ (l.virt = true → ∃ a, v = .slice a 0 0 ∧ off = 0 ∧ n = 0) ∧
      (l.virt = false → off + n ≤ l.cap ∧ ∃ a, v = .slice a n (l.cap - off) ∧ (off < l.cap → a = some ⟨l.blk, l.base + off * l.esz, none⟩)) := by
  unfold cur at hc
  split at hc
  · rename_i heq; cases heq
  · rename_i b' v' o' n' heq
    cases heq
    split at hc
    · rename_i v'' z L ex hb
      simp at hc
      subst hc
      obtain ⟨l, hl, hbr⟩ := hr.live b _ hb rfl
      cases hv with
      | slc h h1 h2 h3 =>
        rw [hl] at h; cases h
        obtain ⟨k1, k2⟩ := h3 hbr.2.1.symm
        exact ⟨l, z, L, ex, hl, hb, hbr, k1, k2⟩
    · cases hc
  · rename_i hne; exact absurd rfl (hne b ver off n)
theorem curZ_cur {z : Nat} (h : curZ H z c = true) : cur H c = true := by
  unfold curZ at h
  split at h
  · unfold cur
    split at h
    · rename_i hb; simp only [hb]; simp at h; simpa using h.1
    · cases h
  · rfl
  · cases h
theorem ok_nilChk {x : Operand} {y : Opd} (hx : copd x = some y) (hr : HR C ρ F H w) (he : ER w F ρ e a.tmps) (o : Oper) (ho : o.op = .nilCheck x)
    (h : sop e H (.nilChk y) = some (s, H')) : OpOK C (execOp a.eval o) ρ F H w s H' := by
  have hv := copd_vr hx he
  simp only [sop] at h
  replace h := bif_some h; obtain ⟨hc, h⟩ := h
  simp only [Option.map_eq_some_iff, Prod.mk.injEq] at h
  obtain ⟨s', h, rfl, rfl⟩ := h
  suffices hs : ∃ u, a.eval x = .pointer (some u) ∧ s' = ev e y by
    obtain ⟨u, hu, rfl⟩ := hs
    refine ⟨a.eval x, w, .inl ?_, Done.same hr hv⟩
    unfold execOp
    simp only [ho, hu]
    rfl
  generalize ev e y = c at *
  generalize a.eval x = u at *
  unfold nilChk1 at h
  split at h
  · cases h
    obtain ⟨l, _, _, _, rfl⟩ := cur_ptr hr hc hv
    exact ⟨_, rfl, rfl⟩
  · cases h
    cases hv
    exact ⟨_, rfl, rfl⟩
  · cases h
theorem bit3 {p q : Bool} (h : (p && q) = true) : p = true ∧ q = true := by simpa using h
theorem run_eqGuard_plain {op : BinOp} {t : TypeId} {x y : Operand} {u v : Value} (hu : one1 u = true) (hn : u ≠ .nilIface) : (eqGuard op t x y u v).run C.P w = .ok () w := by
  unfold eqGuard
  cases op <;> simp <;> (try rfl) <;> (cases u <;> first | rfl | exact absurd rfl hn | (simp [one1] at hu; done))
theorem ok_binv {op : BinOp} {t : TypeId} {x y : Operand} {u v : Value} (hu : one1 u = true) (hn : u ≠ .nilIface) {val : Value} (hr : HR C ρ F H w) (h : (binOp op t u v).run C.P w = .ok val w) (hs : VR w F ρ s val) :
    OpOK C (do pure (.value (← (do eqGuard op t x y u v; binOp op t u v)))) ρ F H w s H := by
  refine OpOK.val hr ?_ hs
  simp only [Sem.run_bind, run_eqGuard_plain hu hn, Result.andThen, h]
theorem bin_int {op : BinOp} {t : TypeId} {k k2 : IntKind} {p q : Int} (h : sbin op (.int k p) (.int k2 q) = some s) : ∃ val, (binOp op t (.int k p) (.int k2 q)).run C.P w = .ok val w ∧ VR w F ρ s val := by
  cases op <;> simp only [sbin] at h <;> (try (cases h; done)) <;> (replace h := bif_some h) <;> (obtain ⟨hc, h⟩ := h) <;> (try simp only [Bool.and_eq_true, beq_iff_eq, Bool.not_eq_true', decide_eq_false_iff_not, decide_eq_true_eq] at hc) <;>
    simp only [Option.some.injEq] at h <;> subst h
  case add => subst hc; exact ⟨_, by simp [binOp, Op.intArith, Sem.run, pure], .int _ _⟩
  case sub => subst hc; exact ⟨_, by simp [binOp, Op.intArith, Sem.run, pure], .int _ _⟩
  case mul => subst hc; exact ⟨_, by simp [binOp, Op.intArith, Sem.run, pure], .int _ _⟩
  case quo => obtain ⟨rfl, hq⟩ := hc; exact ⟨_, by simp [binOp, Op.intDiv, hq, Sem.run, pure], .int _ _⟩
  case rem => obtain ⟨rfl, hq⟩ := hc; exact ⟨_, by simp [binOp, Op.intDiv, hq, Sem.run, pure], .int _ _⟩
  case and => subst hc; exact ⟨_, by simp [binOp, Op.intBits, Sem.run, pure], .int _ _⟩
  case or => subst hc; exact ⟨_, by simp [binOp, Op.intBits, Sem.run, pure], .int _ _⟩
  case xor => subst hc; exact ⟨_, by simp [binOp, Op.intBits, Sem.run, pure], .int _ _⟩
  case shl => exact ⟨_, by simp [binOp, Op.shift, Int.not_lt.2 hc, Sem.run, pure], .int _ _⟩
  case shr => exact ⟨_, by simp [binOp, Op.shift, Int.not_lt.2 hc, Sem.run, pure], .int _ _⟩
  case lss => subst hc; exact ⟨_, by simp [binOp, Op.intCmp, Sem.run, pure], .bool _⟩
  case leq => subst hc; exact ⟨_, by simp [binOp, Op.intCmp, Sem.run, pure], .bool _⟩
  case gtr => subst hc; exact ⟨_, by simp [binOp, Op.intCmp, Sem.run, pure], .bool _⟩
  case geq => subst hc; exact ⟨_, by simp [binOp, Op.intCmp, Sem.run, pure], .bool _⟩
  case eql => subst hc; refine ⟨.bool (p == q), by simp [binOp, Op.intCmp, Sem.run, pure], ?_⟩; rw [show decide (p = q) = (p == q) by by_cases h : p = q <;> simp [h]]; exact .bool _
  case neq => subst hc; refine ⟨.bool (p != q), by simp [binOp, Op.intCmp, Sem.run, pure], ?_⟩; rw [show (!decide (p = q)) = (p != q) by by_cases h : p = q <;> simp [h, bne]]; exact .bool _
end
end Go.Sh
