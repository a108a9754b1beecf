

import Derived.Test.YtomapffoalmodaaC1
import Derived.Test.YtomapffoalmodaaB4
namespace Go.Sh
set_option linter.unusedSectionVars false
set_option linter.unnecessarySimpa false
set_option linter.unusedVariables false
set_option linter.unusedSimpArgs false
set_option maxRecDepth 100000
set_option maxHeartbeats 4000000
def idB (s : ByteArray) : Bool := decide ((s.size : Int) = 32)
theorem s42 (n : Nat) (H : Heap) (s : ByteArray) : call1 T (n + 1) (.fn 42) [.str s] H = some (.bool (idB s), H) := by
  refine call_pure e42 (by rfl) ?_
  simp only [c42, heap0, go_sem, Int.cast_ofNat_Int, Int.reduceToNat, Bool.true_xor, Bool.false_xor, Bool.xor_true, Bool.xor_false, Nat.reduceAdd, Nat.reduceBEq, Nat.reduceLeDiff, Nat.reduceLT, Nat.reduceMul, Nat.reduceSub, Int.reduceEq, Int.reduceLT, Int.reduceLE, Int.reduceNeg, idB]
theorem s56 (n : Nat) (H : Heap) (s : ByteArray) : call1 T (n + 1) (.fn 56) [.str s] H = some (.bool (idB s), H) := by
  refine call_pure e56 (by rfl) ?_
  simp only [c56, heap0, go_sem, Int.cast_ofNat_Int, Int.reduceToNat, Bool.true_xor, Bool.false_xor, Bool.xor_true, Bool.xor_false, Nat.reduceAdd, Nat.reduceBEq, Nat.reduceLeDiff, Nat.reduceLT, Nat.reduceMul, Nat.reduceSub, Int.reduceEq, Int.reduceLT, Int.reduceLE, Int.reduceNeg, idB]
/-- A device. -/
abbrev dv (r c : ByteArray) (a : Bool) (x : ByteArray) (s k : Int) : List SV := [.str r, .str c, .bool a, .str x, .int .i64 s, .int .i64 k]
theorem s43 (n : Nat) (H : Heap) (r c : ByteArray) (a : Bool) (x : ByteArray) (s k : Int) : call1 T (n + 1) (.fn 43) [.agg (dv r c a x s k)] H = some (.agg (dv r c false ⟨#[]⟩ 0 k), H) := by
  refine call_pure e43 (by rfl) ?_
  simp only [c43, heap0, go_sem, Int.cast_ofNat_Int, Int.reduceToNat, Bool.true_xor, Bool.false_xor, Bool.xor_true, Bool.xor_false, Nat.reduceAdd, Nat.reduceBEq, Nat.reduceLeDiff, Nat.reduceLT, Nat.reduceMul, Nat.reduceSub, Int.reduceEq, Int.reduceLT, Int.reduceLE, Int.reduceNeg, dv]
def emB (s : ByteArray) : Bool := decide (s = ⟨#[]⟩) || idB s
theorem s47 (n : Nat) (H : Heap) (s : ByteArray) : call1 T (n + 2) (.fn 47) [.str s] H = some (.bool (emB s), H) := by
  refine call_pure e47 (by rfl) ?_
  simp only [c47, heap0, go_sem, Int.cast_ofNat_Int, Int.reduceToNat, Bool.true_xor, Bool.false_xor, Bool.xor_true, Bool.xor_false, Nat.reduceAdd, Nat.reduceBEq, Nat.reduceLeDiff, Nat.reduceLT, Nat.reduceMul, Nat.reduceSub, Int.reduceEq, Int.reduceLT, Int.reduceLE, Int.reduceNeg, s42, emB]
  repeat' (with_reducible refine fork_split (fun _ => ?_) (fun _ => ?_) <;> simp only [*, go_sem, Int.cast_ofNat_Int, Int.reduceToNat, Bool.true_xor, Bool.false_xor, Bool.xor_true, Bool.xor_false, Nat.reduceAdd, Nat.reduceBEq, Nat.reduceLeDiff, Nat.reduceLT, Nat.reduceMul, Nat.reduceSub, Int.reduceEq, Int.reduceLT, Int.reduceLE, Int.reduceNeg, s42])
/-- Whether a device is right. -/
def dvB (r c : ByteArray) (a : Bool) (x : ByteArray) (s k : Int) : Bool :=
  emB r && emB c && decide (0 ≤ k) && decide (k ≤ 1048576) && bif a then idB x && decide (x = c) && decide (1 ≤ s) && decide (s ≤ 1073741824) else decide (x = ⟨#[]⟩) && decide (s = 0)
end Go.Sh
namespace Go.Sh
set_option linter.unusedSectionVars false
set_option linter.unnecessarySimpa false
set_option linter.unusedVariables false
set_option linter.unusedSimpArgs false
set_option maxRecDepth 100000
set_option maxHeartbeats 4000000
theorem s16 (n : Nat) (H : Heap) (r c : ByteArray) (a : Bool) (x : ByteArray) (s k : Int) : call1 T (n + 3) (.fn 16) [.agg (dv r c a x s k)] H = some (.int .i64 (bif dvB r c a x s k then 0 else 1), H) := by
  refine call_pure e16 (by rfl) ?_
  simp only [c16, heap0, go_sem, Int.cast_ofNat_Int, Int.reduceToNat, Bool.true_xor, Bool.false_xor, Bool.xor_true, Bool.xor_false, Nat.reduceAdd, Nat.reduceBEq, Nat.reduceLeDiff, Nat.reduceLT, Nat.reduceMul, Nat.reduceSub, Int.reduceEq, Int.reduceLT, Int.reduceLE, Int.reduceNeg, s42, s47, dv]
  cases hx : idB x <;> cases hr : emB r <;> cases hc : emB c <;> cases a <;> simp only [go_sem, Int.cast_ofNat_Int, Int.reduceToNat, Bool.true_xor, Bool.false_xor, Bool.xor_true, Bool.xor_false, Nat.reduceAdd, Nat.reduceBEq, Nat.reduceLeDiff, Nat.reduceLT, Nat.reduceMul, Nat.reduceSub, Int.reduceEq, Int.reduceLT, Int.reduceLE, Int.reduceNeg, s42, s47, hx, hr, hc, dvB]
  repeat' (with_reducible refine fork_split (fun _ => ?_) (fun _ => ?_) <;> simp only [*, go_sem, Int.cast_ofNat_Int, Int.reduceToNat, Bool.true_xor, Bool.false_xor, Bool.xor_true, Bool.xor_false, Nat.reduceAdd, Nat.reduceBEq, Nat.reduceLeDiff, Nat.reduceLT, Nat.reduceMul, Nat.reduceSub, Int.reduceEq, Int.reduceLT, Int.reduceLE, Int.reduceNeg, s42, s47])
  all_goals (refine congrArg some (congrArg (SV.int .i64) ?_); first | (simp_all; done) | (simp only [Bool.cond_eq_ite]; clear hr hc hx; grind))
end Go.Sh
namespace Go.Sh
set_option linter.unusedSectionVars false
set_option linter.unnecessarySimpa false
set_option linter.unusedVariables false
set_option linter.unusedSimpArgs false
set_option maxRecDepth 100000
set_option maxHeartbeats 4000000
/-- Whether a list of nodes is right. -/
def lsP (L : List Int) (i : Nat) : Prop := ∀ x, L[i]? = some x → 0 ≤ x ∧ x < 32 ∧ (0 < i → ∀ y, L[i - 1]? = some y → y < x)
instance (L : List Int) (i : Nat) : Decidable (lsP L i) := by
  unfold lsP
  cases L[i]? with
  | none => exact isTrue (by simp)
  | some x => exact decidable_of_iff (0 ≤ x ∧ x < 32 ∧ (0 < i → ∀ y, L[i - 1]? = some y → y < x)) (by simp)
def lsB (L : List Int) : Bool := decide (0 < L.length) && decide (∀ i, i < L.length → lsP L i)
theorem lsB_yes {L : List Int} (h : 0 < L.length) (h2 : ∀ i, i < L.length → lsP L i) : lsB L = true := by
  unfold lsB; rw [decide_eq_true h, decide_eq_true h2]; rfl
theorem lsB_no {L : List Int} {i : Nat} (h : i < L.length) (h2 : ¬ lsP L i) : lsB L = false := by
  have : decide (∀ i, i < L.length → lsP L i) = false := decide_eq_false (fun h3 => h2 (h3 i h))
  unfold lsB; rw [this]; simp
theorem lsB_nil : lsB [] = false := by simp [lsB]
theorem s54 (n : Nat) (H : Heap) (z : Nat) (L : List Int) (f : Bool) (hz : z = 1 ∨ L = []) (hL : L.length ≤ maxLen) : call1 T (n + 1) (.fn 54) [.lst z (iS L) f] H = some (.bool (lsB L), H) := by
  refine call_pure e54 (by rfl) ?_
  simp only [c54, heap0, go_sem, Int.cast_ofNat_Int, Int.reduceToNat, Bool.true_xor, Bool.false_xor, Bool.xor_true, Bool.xor_false, Nat.reduceAdd, Nat.reduceBEq, Nat.reduceLeDiff, Nat.reduceLT, Nat.reduceMul, Nat.reduceSub, Int.reduceEq, Int.reduceLT, Int.reduceLE, Int.reduceNeg]
  refine loop_rule (fun i => ([(0, .lst z (iS L) f), (5, .lst z (iS L) f), (6, .int .i64 L.length), (7, .int .i64 i)], ⟨[], [], 0⟩)) (fun i => ∀ j, j < i → lsP L j) L.length ?_ (fun j h => by omega) ?_
  · simp only [go_sem, Int.cast_ofNat_Int, Int.reduceToNat, Bool.true_xor, Bool.false_xor, Bool.xor_true, Bool.xor_false, Nat.reduceAdd, Nat.reduceBEq, Nat.reduceLeDiff, Nat.reduceLT, Nat.reduceMul, Nat.reduceSub, Int.reduceEq, Int.reduceLT, Int.reduceLE, Int.reduceNeg] <;> rfl
  · intro i hi hI
    rcases Nat.lt_or_ge i L.length with hlt | hge
    · obtain ⟨x, hx⟩ := getS hlt
      obtain rfl : z = 1 := hz.resolve_right (by rintro rfl; simp at hlt)
      have hs := w64_suc hlt hL
      have key : (0 ≤ x ∧ x < 32 ∧ (0 < i → ∀ y, L[i - 1]? = some y → y < x)) → lsP L i := fun h x' hx' => by rw [hx] at hx'; cases hx'; exact h
      have key2 : ¬ (0 ≤ x ∧ x < 32 ∧ (0 < i → ∀ y, L[i - 1]? = some y → y < x)) → ¬ lsP L i := fun h h2 => h (h2 x hx)
      simp only [go_sem, Int.cast_ofNat_Int, Int.reduceToNat, Bool.true_xor, Bool.false_xor, Bool.xor_true, Bool.xor_false, Nat.reduceAdd, Nat.reduceBEq, Nat.reduceLeDiff, Nat.reduceLT, Nat.reduceMul, Nat.reduceSub, Int.reduceEq, Int.reduceLT, Int.reduceLE, Int.reduceNeg, hlt, hx]
      with_reducible refine post_fork (fun h1 => ?_) (fun h1 => ?_) <;> simp only [go_sem, Int.cast_ofNat_Int, Int.reduceToNat, Bool.true_xor, Bool.false_xor, Bool.xor_true, Bool.xor_false, Nat.reduceAdd, Nat.reduceBEq, Nat.reduceLeDiff, Nat.reduceLT, Nat.reduceMul, Nat.reduceSub, Int.reduceEq, Int.reduceLT, Int.reduceLE, Int.reduceNeg, h1]
      · rw [lsB_no hlt (key2 (by rintro ⟨h, _⟩; simp at h1; omega))]
      with_reducible refine post_fork (fun h2 => ?_) (fun h2 => ?_) <;> simp only [go_sem, Int.cast_ofNat_Int, Int.reduceToNat, Bool.true_xor, Bool.false_xor, Bool.xor_true, Bool.xor_false, Nat.reduceAdd, Nat.reduceBEq, Nat.reduceLeDiff, Nat.reduceLT, Nat.reduceMul, Nat.reduceSub, Int.reduceEq, Int.reduceLT, Int.reduceLE, Int.reduceNeg, h2]
      · rw [lsB_no hlt (key2 (by rintro ⟨_, h, _⟩; simp at h2; omega))]
      cases i with
      | zero =>
        simp only [go_sem, Int.cast_ofNat_Int, Int.reduceToNat, Bool.true_xor, Bool.false_xor, Bool.xor_true, Bool.xor_false, Nat.reduceAdd, Nat.reduceBEq, Nat.reduceLeDiff, Nat.reduceLT, Nat.reduceMul, Nat.reduceSub, Int.reduceEq, Int.reduceLT, Int.reduceLE, Int.reduceNeg, hs]
        refine ⟨hlt, rfl, fun j hj => ?_⟩
        obtain rfl : j = 0 := by omega
        exact key ⟨by simpa using h1, by simpa using h2, fun h => by omega⟩
      | succ i =>
        have hlt' : i < L.length := by omega
        obtain ⟨y, hy⟩ := getS hlt'
        have h01 : decide ((0 : Int) < ((i + 1 : Nat) : Int)) = true := decide_eq_true (by omega)
        have hm : maxLen = 9223372036854775807 := rfl
        have hpr : w64 (((i + 1 : Nat) : Int) - 1) = (i : Nat) := by rw [w64_id (by omega) (by omega)]; omega
        simp only [go_sem, Int.cast_ofNat_Int, Int.reduceToNat, Bool.true_xor, Bool.false_xor, Bool.xor_true, Bool.xor_false, Nat.reduceAdd, Nat.reduceBEq, Nat.reduceLeDiff, Nat.reduceLT, Nat.reduceMul, Nat.reduceSub, Int.reduceEq, Int.reduceLT, Int.reduceLE, Int.reduceNeg, h01, hpr, hy, hlt', hlt]
        with_reducible refine post_fork (fun h3 => ?_) (fun h3 => ?_) <;> simp only [go_sem, Int.cast_ofNat_Int, Int.reduceToNat, Bool.true_xor, Bool.false_xor, Bool.xor_true, Bool.xor_false, Nat.reduceAdd, Nat.reduceBEq, Nat.reduceLeDiff, Nat.reduceLT, Nat.reduceMul, Nat.reduceSub, Int.reduceEq, Int.reduceLT, Int.reduceLE, Int.reduceNeg, h3]
        · rw [lsB_no hlt (key2 (by
            rintro ⟨_, _, h⟩
            have := h (by omega) y hy
            simp at h3; omega))]
        · simp only [hs]
          refine ⟨by omega, by first | trivial | rfl, fun j hj => ?_⟩
          rcases Nat.lt_or_ge j (i + 1) with h4 | h4
          · exact hI j h4
          · obtain rfl : j = i + 1 := by omega
            refine key ⟨by simpa using h1, by simpa using h2, fun _ y' hy' => ?_⟩
            simp only [Nat.add_sub_cancel] at hy'
            rw [hy] at hy'; cases hy'
            simpa using h3
    · obtain rfl : i = L.length := by omega
      have hd : decide (L.length < L.length) = false := decide_eq_false (by omega)
      simp only [go_sem, Int.cast_ofNat_Int, Int.reduceToNat, Bool.true_xor, Bool.false_xor, Bool.xor_true, Bool.xor_false, Nat.reduceAdd, Nat.reduceBEq, Nat.reduceLeDiff, Nat.reduceLT, Nat.reduceMul, Nat.reduceSub, Int.reduceEq, Int.reduceLT, Int.reduceLE, Int.reduceNeg, hd]
      refine congrArg some (congrArg SV.bool ?_)
      unfold lsB
      rw [decide_eq_true (p := ∀ i, i < L.length → lsP L i) hI]
      simp
end Go.Sh
namespace Go.Sh
set_option linter.unusedSectionVars false
set_option linter.unnecessarySimpa false
set_option linter.unusedVariables false
set_option linter.unusedSimpArgs false
set_option maxRecDepth 100000
set_option maxHeartbeats 4000000
theorem s57 (n : Nat) (H : Heap) (z : Nat) (L : List Int) (f : Bool) (hz : z = 1 ∨ L = []) (hL : L.length ≤ maxLen) : call1 T (n + 1) (.fn 57) [.lst z (iS L) f] H = some (.bool (lsB L), H) := by
  refine call_pure e57 (by rfl) ?_
  simp only [c57, heap0, go_sem, Int.cast_ofNat_Int, Int.reduceToNat, Bool.true_xor, Bool.false_xor, Bool.xor_true, Bool.xor_false, Nat.reduceAdd, Nat.reduceBEq, Nat.reduceLeDiff, Nat.reduceLT, Nat.reduceMul, Nat.reduceSub, Int.reduceEq, Int.reduceLT, Int.reduceLE, Int.reduceNeg]
  refine loop_rule (fun i => ([(0, .lst z (iS L) f), (3, .int .i64 i)], ⟨[], [], 0⟩)) (fun i => ∀ j, j < i → lsP L j) L.length ?_ (fun j h => by omega) ?_
  · simp only [go_sem, Int.cast_ofNat_Int, Int.reduceToNat, Bool.true_xor, Bool.false_xor, Bool.xor_true, Bool.xor_false, Nat.reduceAdd, Nat.reduceBEq, Nat.reduceLeDiff, Nat.reduceLT, Nat.reduceMul, Nat.reduceSub, Int.reduceEq, Int.reduceLT, Int.reduceLE, Int.reduceNeg] <;> rfl
  · intro i hi hI
    rcases Nat.lt_or_ge i L.length with hlt | hge
    · obtain ⟨x, hx⟩ := getS hlt
      obtain rfl : z = 1 := hz.resolve_right (by rintro rfl; simp at hlt)
      have hs := w64_suc hlt hL
      have key : (0 ≤ x ∧ x < 32 ∧ (0 < i → ∀ y, L[i - 1]? = some y → y < x)) → lsP L i := fun h x' hx' => by rw [hx] at hx'; cases hx'; exact h
      have key2 : ¬ (0 ≤ x ∧ x < 32 ∧ (0 < i → ∀ y, L[i - 1]? = some y → y < x)) → ¬ lsP L i := fun h h2 => h (h2 x hx)
      simp only [go_sem, Int.cast_ofNat_Int, Int.reduceToNat, Bool.true_xor, Bool.false_xor, Bool.xor_true, Bool.xor_false, Nat.reduceAdd, Nat.reduceBEq, Nat.reduceLeDiff, Nat.reduceLT, Nat.reduceMul, Nat.reduceSub, Int.reduceEq, Int.reduceLT, Int.reduceLE, Int.reduceNeg, hlt, hx]
      with_reducible refine post_fork (fun h1 => ?_) (fun h1 => ?_) <;> simp only [go_sem, Int.cast_ofNat_Int, Int.reduceToNat, Bool.true_xor, Bool.false_xor, Bool.xor_true, Bool.xor_false, Nat.reduceAdd, Nat.reduceBEq, Nat.reduceLeDiff, Nat.reduceLT, Nat.reduceMul, Nat.reduceSub, Int.reduceEq, Int.reduceLT, Int.reduceLE, Int.reduceNeg, h1]
      · rw [lsB_no hlt (key2 (by rintro ⟨h, _⟩; simp at h1; omega))]
      simp only [go_sem, Int.cast_ofNat_Int, Int.reduceToNat, Bool.true_xor, Bool.false_xor, Bool.xor_true, Bool.xor_false, Nat.reduceAdd, Nat.reduceBEq, Nat.reduceLeDiff, Nat.reduceLT, Nat.reduceMul, Nat.reduceSub, Int.reduceEq, Int.reduceLT, Int.reduceLE, Int.reduceNeg, hlt, hx]
      with_reducible refine post_fork (fun h2 => ?_) (fun h2 => ?_) <;> simp only [go_sem, Int.cast_ofNat_Int, Int.reduceToNat, Bool.true_xor, Bool.false_xor, Bool.xor_true, Bool.xor_false, Nat.reduceAdd, Nat.reduceBEq, Nat.reduceLeDiff, Nat.reduceLT, Nat.reduceMul, Nat.reduceSub, Int.reduceEq, Int.reduceLT, Int.reduceLE, Int.reduceNeg, h2]
      · rw [lsB_no hlt (key2 (by rintro ⟨_, h, _⟩; simp at h2; omega))]
      cases i with
      | zero =>
        simp only [go_sem, Int.cast_ofNat_Int, Int.reduceToNat, Bool.true_xor, Bool.false_xor, Bool.xor_true, Bool.xor_false, Nat.reduceAdd, Nat.reduceBEq, Nat.reduceLeDiff, Nat.reduceLT, Nat.reduceMul, Nat.reduceSub, Int.reduceEq, Int.reduceLT, Int.reduceLE, Int.reduceNeg, hs]
        refine ⟨hlt, rfl, fun j hj => ?_⟩
        obtain rfl : j = 0 := by omega
        exact key ⟨by simpa using h1, by simpa using h2, fun h => by omega⟩
      | succ i =>
        have hlt' : i < L.length := by omega
        obtain ⟨y, hy⟩ := getS hlt'
        have h01 : decide ((0 : Int) < ((i + 1 : Nat) : Int)) = true := decide_eq_true (by omega)
        have hm : maxLen = 9223372036854775807 := rfl
        have hpr : w64 (((i + 1 : Nat) : Int) - 1) = (i : Nat) := by rw [w64_id (by omega) (by omega)]; omega
        simp only [go_sem, Int.cast_ofNat_Int, Int.reduceToNat, Bool.true_xor, Bool.false_xor, Bool.xor_true, Bool.xor_false, Nat.reduceAdd, Nat.reduceBEq, Nat.reduceLeDiff, Nat.reduceLT, Nat.reduceMul, Nat.reduceSub, Int.reduceEq, Int.reduceLT, Int.reduceLE, Int.reduceNeg, h01, hpr, hy, hlt', hlt, hx]
        with_reducible refine post_fork (fun h3 => ?_) (fun h3 => ?_) <;> simp only [go_sem, Int.cast_ofNat_Int, Int.reduceToNat, Bool.true_xor, Bool.false_xor, Bool.xor_true, Bool.xor_false, Nat.reduceAdd, Nat.reduceBEq, Nat.reduceLeDiff, Nat.reduceLT, Nat.reduceMul, Nat.reduceSub, Int.reduceEq, Int.reduceLT, Int.reduceLE, Int.reduceNeg, h3]
        · rw [lsB_no hlt (key2 (by
            rintro ⟨_, _, h⟩
            have := h (by omega) y hy
            simp at h3; omega))]
        · simp only [hs]
          refine ⟨by omega, by first | trivial | rfl, fun j hj => ?_⟩
          rcases Nat.lt_or_ge j (i + 1) with h4 | h4
          · exact hI j h4
          · obtain rfl : j = i + 1 := by omega
            refine key ⟨by simpa using h1, by simpa using h2, fun _ y' hy' => ?_⟩
            simp only [Nat.add_sub_cancel] at hy'
            rw [hy] at hy'; cases hy'
            simpa using h3
    · obtain rfl : i = L.length := by omega
      have hd : decide (L.length < L.length) = false := decide_eq_false (by omega)
      simp only [go_sem, Int.cast_ofNat_Int, Int.reduceToNat, Bool.true_xor, Bool.false_xor, Bool.xor_true, Bool.xor_false, Nat.reduceAdd, Nat.reduceBEq, Nat.reduceLeDiff, Nat.reduceLT, Nat.reduceMul, Nat.reduceSub, Int.reduceEq, Int.reduceLT, Int.reduceLE, Int.reduceNeg, hd]
      refine congrArg some (congrArg SV.bool ?_)
      unfold lsB
      rw [decide_eq_true (p := ∀ i, i < L.length → lsP L i) hI]
      simp
/-- A command: number, kind, slot, identifier, nodes. -/
abbrev cm (k d s : Int) (x : ByteArray) (z : Nat) (L : List Int) (f : Bool) : List SV := [.int .i64 k, .int .i64 d, .int .i64 s, .str x, .lst z (iS L) f]
def cmB (k d s : Int) (x : ByteArray) (L : List Int) : Bool :=
  decide (1 ≤ k) && decide (k ≤ 1048576) && idB x && lsB L && (decide (d = 1) && decide (1 ≤ s) && decide (s ≤ 1073741824) || decide (d = 2) && decide (s = 0))
theorem s44 (n : Nat) (H : Heap) (k d s : Int) (x : ByteArray) (z : Nat) (L : List Int) (f : Bool) (hz : z = 1 ∨ L = []) (hL : L.length ≤ maxLen) : call1 T (n + 2) (.fn 44) [.agg (cm k d s x z L f)] H = some (.bool (cmB k d s x L), H) := by
  refine call_pure e44 (by rfl) ?_
  have h54 := fun H => s54 n H z L f hz hL
  simp only [c44, heap0, go_sem, Int.cast_ofNat_Int, Int.reduceToNat, Bool.true_xor, Bool.false_xor, Bool.xor_true, Bool.xor_false, Nat.reduceAdd, Nat.reduceBEq, Nat.reduceLeDiff, Nat.reduceLT, Nat.reduceMul, Nat.reduceSub, Int.reduceEq, Int.reduceLT, Int.reduceLE, Int.reduceNeg, s42, h54, cm]
  repeat' (with_reducible refine fork_split (fun _ => ?_) (fun _ => ?_) <;> simp only [*, go_sem, Int.cast_ofNat_Int, Int.reduceToNat, Bool.true_xor, Bool.false_xor, Bool.xor_true, Bool.xor_false, Nat.reduceAdd, Nat.reduceBEq, Nat.reduceLeDiff, Nat.reduceLT, Nat.reduceMul, Nat.reduceSub, Int.reduceEq, Int.reduceLT, Int.reduceLE, Int.reduceNeg, s42, h54])
  all_goals
    clear h54
    refine congrArg some (congrArg SV.bool ?_)
    simp only [cmB]
    generalize idB x = X at *
    generalize lsB L = Y at *
    clear hz hL
    grind
theorem s49 (n : Nat) (H : Heap) (k d s : Int) (x : ByteArray) (z : Nat) (L : List Int) (f : Bool) (hz : z = 1 ∨ L = []) (hL : L.length ≤ maxLen) : call1 T (n + 2) (.fn 49) [.agg (cm k d s x z L f)] H = some (.bool (cmB k d s x L), H) := by
  refine call_pure e49 (by rfl) ?_
  have h57 := fun H => s57 n H z L f hz hL
  simp only [c49, heap0, go_sem, Int.cast_ofNat_Int, Int.reduceToNat, Bool.true_xor, Bool.false_xor, Bool.xor_true, Bool.xor_false, Nat.reduceAdd, Nat.reduceBEq, Nat.reduceLeDiff, Nat.reduceLT, Nat.reduceMul, Nat.reduceSub, Int.reduceEq, Int.reduceLT, Int.reduceLE, Int.reduceNeg, s56, h57, cm]
  repeat' (with_reducible refine fork_split (fun _ => ?_) (fun _ => ?_) <;> simp only [*, go_sem, Int.cast_ofNat_Int, Int.reduceToNat, Bool.true_xor, Bool.false_xor, Bool.xor_true, Bool.xor_false, Nat.reduceAdd, Nat.reduceBEq, Nat.reduceLeDiff, Nat.reduceLT, Nat.reduceMul, Nat.reduceSub, Int.reduceEq, Int.reduceLT, Int.reduceLE, Int.reduceNeg, s56, h57])
  all_goals
    clear h57
    refine congrArg some (congrArg SV.bool ?_)
    simp only [cmB]
    generalize idB x = X at *
    generalize lsB L = Y at *
    clear hz hL
    grind
end Go.Sh
namespace Go.Sh
set_option linter.unusedSectionVars false
set_option linter.unnecessarySimpa false
set_option linter.unusedVariables false
set_option linter.unusedSimpArgs false
set_option maxRecDepth 100000
set_option maxHeartbeats 4000000
abbrev dvZ : List SV := dv ⟨#[]⟩ ⟨#[]⟩ false ⟨#[]⟩ 0 0
/-- What a device has once an image is complete on it. -/
def cpV (r c : ByteArray) (a : Bool) (x : ByteArray) (s k : Int) (i : ByteArray) : SV :=
  bif dvB r c a x s k && idB i then .tup [.agg (bif a && !decide (x = i) then dv r i false ⟨#[]⟩ 0 k else dv r i a x s k), .int .i64 0] else .tup [.agg dvZ, .int .i64 1]
theorem s12 (n : Nat) (H : Heap) (r c : ByteArray) (a : Bool) (x : ByteArray) (s k : Int) (i : ByteArray) : call1 T (n + 4) (.fn 12) [.agg (dv r c a x s k), .str i] H = some (cpV r c a x s k i, H) := by
  refine call_pure e12 (by rfl) ?_
  simp only [c12, heap0, go_sem, Int.cast_ofNat_Int, Int.reduceToNat, Bool.true_xor, Bool.false_xor, Bool.xor_true, Bool.xor_false, Nat.reduceAdd, Nat.reduceBEq, Nat.reduceLeDiff, Nat.reduceLT, Nat.reduceMul, Nat.reduceSub, Int.reduceEq, Int.reduceLT, Int.reduceLE, Int.reduceNeg, s16, s42]
  cases h : dvB r c a x s k <;> cases hi : idB i <;> cases a <;> simp only [go_sem, Int.cast_ofNat_Int, Int.reduceToNat, Bool.true_xor, Bool.false_xor, Bool.xor_true, Bool.xor_false, Nat.reduceAdd, Nat.reduceBEq, Nat.reduceLeDiff, Nat.reduceLT, Nat.reduceMul, Nat.reduceSub, Int.reduceEq, Int.reduceLT, Int.reduceLE, Int.reduceNeg, s42, hi, cpV, h]
  cases hx : decide (x = i) <;> simp only [go_sem, Int.cast_ofNat_Int, Int.reduceToNat, Bool.true_xor, Bool.false_xor, Bool.xor_true, Bool.xor_false, Nat.reduceAdd, Nat.reduceBEq, Nat.reduceLeDiff, Nat.reduceLT, Nat.reduceMul, Nat.reduceSub, Int.reduceEq, Int.reduceLT, Int.reduceLE, Int.reduceNeg, s43, hx]
theorem x45 : T 45 = some (stdCF 73) := e45
theorem x73 : T 73 = some (stdIdxF false 1) := e73
theorem s46 (n : Nat) (x0 x1 x3 : SBlk) (ro : Nat) (q y : Int) : call1 T (n + 1) (.fn 46) [.int .i64 y, .ptr 2 0 0 0] ⟨[x0, x1, .box [.int .i64 q], x3], [], ro⟩ = some (.bool (decide (y = q)), ⟨[x0, x1, .box [.int .i64 q], x3], [], ro⟩) := by
  refine call_in e46 (by rfl) ?_
  simp only [c46, go_sem, Int.cast_ofNat_Int, Int.reduceToNat, Bool.true_xor, Bool.false_xor, Bool.xor_true, Bool.xor_false, Nat.reduceAdd, Nat.reduceBEq, Nat.reduceLeDiff, Nat.reduceLT, Nat.reduceMul, Nat.reduceSub, Int.reduceEq, Int.reduceLT, Int.reduceLE, Int.reduceNeg]
theorem s45 (n : Nat) (x0 x1 x3 : SBlk) (es : List (Nat × Nat)) (ro : Nat) (q : Int) (z : Nat) (L : List Int) (f : Bool) (hz : z = 1 ∨ L = []) (hL : L.length ≤ maxLen) :
    call1 T (n + 3) (.fn 45) [.lst z (iS L) f, .fn 46 [.ptr 2 0 0 0]] ⟨[x0, x1, .box [.int .i64 q], x3], es, ro⟩ = some (.bool (decide (q ∈ L)), ⟨[x0, x1, .box [.int .i64 q], x3], es, ro⟩) := by
  have := stdCF_ok (T := T) (f := 45) (g := 73) (n := n + 1) (H := ⟨[x0, x1, .box [.int .i64 q], x3], es, ro⟩) (ag := false) (z := 1) (id := 46) (caps := [.ptr 2 0 0 0])
    (v := .lst z (iS L) f) (L := iS L) (p := fun r => match r with | [.int _ y] => decide (y = q) | _ => false) x45 x73 (.lst z f (hz.imp id (by rintro rfl; rfl))) (iS_row L) (fun _ => rfl)
    (by rw [iS_len]; exact hL)
    (fun r hr bl ro' hbl => by
      have hbl : bl = [x0, x1, .box [.int .i64 q], x3] := by
        rcases hbl with ⟨_, _, h2⟩ | h
        · simp [SV.refs.refsL, SV.refs] at h2
        · exact h
      subst hbl
      simp only [iS, List.mem_map] at hr
      obtain ⟨m, hm, rfl⟩ := hr
      exact s46 n x0 x1 x3 ro' q m)
    (by simp [SV.refs.refsL, SV.refs])
  rw [this]
  refine congrArg some (Prod.ext (congrArg SV.bool ?_) rfl)
  simp only [iS, List.any_map]
  rw [Bool.eq_iff_iff]
  simp [List.any_eq_true, Function.comp]
/-- What a device has that has taken a command. -/
def tkV (r c : ByteArray) (a : Bool) (x : ByteArray) (s k : Int) (k' d' s' : Int) (x' : ByteArray) (L : List Int) (q t : Int) : SV :=
  bif !dvB r c a x s k || !cmB k' d' s' x' L then .tup [.agg dvZ, .int .i64 1]
  else bif decide (q < 0) || decide (32 ≤ q) || decide (t < 0) || decide (1073741824 < t) then .tup [.agg dvZ, .int .i64 2]
  else bif decide (k' ≤ k) then .tup [.agg (dv r c a x s k), .int .i64 23]
  else bif !decide (q ∈ L) then .tup [.agg (dv r c a x s k'), .int .i64 0]
  else bif decide (d' = 2) then (bif a && decide (x = x') then .tup [.agg (dv r c false ⟨#[]⟩ 0 k'), .int .i64 0] else .tup [.agg (dv r c a x s k'), .int .i64 0])
  else bif !decide (c = x') then .tup [.agg (dv r c a x s k'), .int .i64 7]
  else bif decide (s' ≤ t) then .tup [.agg (dv r c a x s k'), .int .i64 15]
  else .tup [.agg (dv r c true x' s' k'), .int .i64 0]
theorem s14 (n : Nat) (H : Heap) (r c : ByteArray) (a : Bool) (x : ByteArray) (s k : Int) (k' d' s' : Int) (x' : ByteArray) (z : Nat) (L : List Int) (f : Bool) (q t : Int) (hz : z = 1 ∨ L = []) (hL : L.length ≤ maxLen) :
    call1 T (n + 4) (.fn 14) [.agg (dv r c a x s k), .agg (cm k' d' s' x' z L f), .int .i64 q, .int .i64 t] H = some (tkV r c a x s k k' d' s' x' L q t, H) := by
  refine call_pure e14 (by rfl) ?_
  have h44 := fun H => s44 (n + 1) H k' d' s' x' z L f hz hL
  have h45 := fun x0 x1 x3 es ro => s45 n x0 x1 x3 es ro q z L f hz hL
  simp only [c14, heap0, go_sem, Int.cast_ofNat_Int, Int.reduceToNat, Bool.true_xor, Bool.false_xor, Bool.xor_true, Bool.xor_false, Nat.reduceAdd, Nat.reduceBEq, Nat.reduceLeDiff, Nat.reduceLT, Nat.reduceMul, Nat.reduceSub, Int.reduceEq, Int.reduceLT, Int.reduceLE, Int.reduceNeg, s16, h44]
  cases h1 : dvB r c a x s k with
  | false => simp only [go_sem, Int.cast_ofNat_Int, Int.reduceToNat, Bool.true_xor, Bool.false_xor, Bool.xor_true, Bool.xor_false, Nat.reduceAdd, Nat.reduceBEq, Nat.reduceLeDiff, Nat.reduceLT, Nat.reduceMul, Nat.reduceSub, Int.reduceEq, Int.reduceLT, Int.reduceLE, Int.reduceNeg, tkV, h1]
  | true =>
    cases h2 : cmB k' d' s' x' L with
    | false => simp only [go_sem, Int.cast_ofNat_Int, Int.reduceToNat, Bool.true_xor, Bool.false_xor, Bool.xor_true, Bool.xor_false, Nat.reduceAdd, Nat.reduceBEq, Nat.reduceLeDiff, Nat.reduceLT, Nat.reduceMul, Nat.reduceSub, Int.reduceEq, Int.reduceLT, Int.reduceLE, Int.reduceNeg, h44, tkV, h1, h2]
    | true =>
      simp only [go_sem, Int.cast_ofNat_Int, Int.reduceToNat, Bool.true_xor, Bool.false_xor, Bool.xor_true, Bool.xor_false, Nat.reduceAdd, Nat.reduceBEq, Nat.reduceLeDiff, Nat.reduceLT, Nat.reduceMul, Nat.reduceSub, Int.reduceEq, Int.reduceLT, Int.reduceLE, Int.reduceNeg, h44, tkV, h1, h2]
      cases h3 : decide (q < 0) <;> simp only [go_sem, Int.cast_ofNat_Int, Int.reduceToNat, Bool.true_xor, Bool.false_xor, Bool.xor_true, Bool.xor_false, Nat.reduceAdd, Nat.reduceBEq, Nat.reduceLeDiff, Nat.reduceLT, Nat.reduceMul, Nat.reduceSub, Int.reduceEq, Int.reduceLT, Int.reduceLE, Int.reduceNeg, h3]
      cases h4 : decide (32 ≤ q) <;> simp only [go_sem, Int.cast_ofNat_Int, Int.reduceToNat, Bool.true_xor, Bool.false_xor, Bool.xor_true, Bool.xor_false, Nat.reduceAdd, Nat.reduceBEq, Nat.reduceLeDiff, Nat.reduceLT, Nat.reduceMul, Nat.reduceSub, Int.reduceEq, Int.reduceLT, Int.reduceLE, Int.reduceNeg, h3, h4]
      cases h5 : decide (t < 0) <;> simp only [go_sem, Int.cast_ofNat_Int, Int.reduceToNat, Bool.true_xor, Bool.false_xor, Bool.xor_true, Bool.xor_false, Nat.reduceAdd, Nat.reduceBEq, Nat.reduceLeDiff, Nat.reduceLT, Nat.reduceMul, Nat.reduceSub, Int.reduceEq, Int.reduceLT, Int.reduceLE, Int.reduceNeg, h3, h4, h5]
      cases h6 : decide (1073741824 < t) <;> simp only [go_sem, Int.cast_ofNat_Int, Int.reduceToNat, Bool.true_xor, Bool.false_xor, Bool.xor_true, Bool.xor_false, Nat.reduceAdd, Nat.reduceBEq, Nat.reduceLeDiff, Nat.reduceLT, Nat.reduceMul, Nat.reduceSub, Int.reduceEq, Int.reduceLT, Int.reduceLE, Int.reduceNeg, h3, h4, h5, h6]
      cases h7 : decide (k' ≤ k) <;> simp only [go_sem, Int.cast_ofNat_Int, Int.reduceToNat, Bool.true_xor, Bool.false_xor, Bool.xor_true, Bool.xor_false, Nat.reduceAdd, Nat.reduceBEq, Nat.reduceLeDiff, Nat.reduceLT, Nat.reduceMul, Nat.reduceSub, Int.reduceEq, Int.reduceLT, Int.reduceLE, Int.reduceNeg, h3, h4, h5, h6, h7, h45]
      cases h8 : decide (q ∈ L) <;> simp only [go_sem, Int.cast_ofNat_Int, Int.reduceToNat, Bool.true_xor, Bool.false_xor, Bool.xor_true, Bool.xor_false, Nat.reduceAdd, Nat.reduceBEq, Nat.reduceLeDiff, Nat.reduceLT, Nat.reduceMul, Nat.reduceSub, Int.reduceEq, Int.reduceLT, Int.reduceLE, Int.reduceNeg, h3, h4, h5, h6, h7, h8, h45]
      cases h9 : decide (d' = 2) <;> simp only [go_sem, Int.cast_ofNat_Int, Int.reduceToNat, Bool.true_xor, Bool.false_xor, Bool.xor_true, Bool.xor_false, Nat.reduceAdd, Nat.reduceBEq, Nat.reduceLeDiff, Nat.reduceLT, Nat.reduceMul, Nat.reduceSub, Int.reduceEq, Int.reduceLT, Int.reduceLE, Int.reduceNeg, h3, h4, h5, h6, h7, h8, h9]
      · cases hA : decide (c = x') <;> simp only [go_sem, Int.cast_ofNat_Int, Int.reduceToNat, Bool.true_xor, Bool.false_xor, Bool.xor_true, Bool.xor_false, Nat.reduceAdd, Nat.reduceBEq, Nat.reduceLeDiff, Nat.reduceLT, Nat.reduceMul, Nat.reduceSub, Int.reduceEq, Int.reduceLT, Int.reduceLE, Int.reduceNeg, h3, h4, h5, h6, h7, h8, h9, hA]
        cases hB : decide (s' ≤ t) <;> simp only [go_sem, Int.cast_ofNat_Int, Int.reduceToNat, Bool.true_xor, Bool.false_xor, Bool.xor_true, Bool.xor_false, Nat.reduceAdd, Nat.reduceBEq, Nat.reduceLeDiff, Nat.reduceLT, Nat.reduceMul, Nat.reduceSub, Int.reduceEq, Int.reduceLT, Int.reduceLE, Int.reduceNeg, h3, h4, h5, h6, h7, h8, h9, hA, hB]
      · cases a <;> simp only [go_sem, Int.cast_ofNat_Int, Int.reduceToNat, Bool.true_xor, Bool.false_xor, Bool.xor_true, Bool.xor_false, Nat.reduceAdd, Nat.reduceBEq, Nat.reduceLeDiff, Nat.reduceLT, Nat.reduceMul, Nat.reduceSub, Int.reduceEq, Int.reduceLT, Int.reduceLE, Int.reduceNeg, h3, h4, h5, h6, h7, h8, h9]
        cases hA : decide (x = x') <;> simp only [go_sem, Int.cast_ofNat_Int, Int.reduceToNat, Bool.true_xor, Bool.false_xor, Bool.xor_true, Bool.xor_false, Nat.reduceAdd, Nat.reduceBEq, Nat.reduceLeDiff, Nat.reduceLT, Nat.reduceMul, Nat.reduceSub, Int.reduceEq, Int.reduceLT, Int.reduceLE, Int.reduceNeg, s43, h3, h4, h5, h6, h7, h8, h9, hA]
/-- What a device does in a slot. -/
def stV (r c : ByteArray) (a : Bool) (x : ByteArray) (s k : Int) (t : Int) : SV :=
  bif !dvB r c a x s k then .tup [.agg dvZ, .bool false, .int .i64 1]
  else bif decide (t < 0) || decide (1073741824 < t) then .tup [.agg dvZ, .bool false, .int .i64 2]
  else bif !a || decide (t < s) then .tup [.agg (dv r c a x s k), .bool false, .int .i64 0]
  else .tup [.agg (dv (bif decide (t = s) then x else r) c false ⟨#[]⟩ 0 k), .bool (decide (t = s)), .int .i64 0]
theorem s15 (n : Nat) (H : Heap) (r c : ByteArray) (a : Bool) (x : ByteArray) (s k : Int) (t : Int) :
    call1 T (n + 4) (.fn 15) [.agg (dv r c a x s k), .int .i64 t] H = some (stV r c a x s k t, H) := by
  refine call_pure e15 (by rfl) ?_
  simp only [c15, heap0, go_sem, Int.cast_ofNat_Int, Int.reduceToNat, Bool.true_xor, Bool.false_xor, Bool.xor_true, Bool.xor_false, Nat.reduceAdd, Nat.reduceBEq, Nat.reduceLeDiff, Nat.reduceLT, Nat.reduceMul, Nat.reduceSub, Int.reduceEq, Int.reduceLT, Int.reduceLE, Int.reduceNeg, s16]
  cases h1 : dvB r c a x s k <;> simp only [go_sem, Int.cast_ofNat_Int, Int.reduceToNat, Bool.true_xor, Bool.false_xor, Bool.xor_true, Bool.xor_false, Nat.reduceAdd, Nat.reduceBEq, Nat.reduceLeDiff, Nat.reduceLT, Nat.reduceMul, Nat.reduceSub, Int.reduceEq, Int.reduceLT, Int.reduceLE, Int.reduceNeg, stV, h1]
  cases h3 : decide (t < 0) <;> simp only [go_sem, Int.cast_ofNat_Int, Int.reduceToNat, Bool.true_xor, Bool.false_xor, Bool.xor_true, Bool.xor_false, Nat.reduceAdd, Nat.reduceBEq, Nat.reduceLeDiff, Nat.reduceLT, Nat.reduceMul, Nat.reduceSub, Int.reduceEq, Int.reduceLT, Int.reduceLE, Int.reduceNeg, h3]
  cases h4 : decide (1073741824 < t) <;> simp only [go_sem, Int.cast_ofNat_Int, Int.reduceToNat, Bool.true_xor, Bool.false_xor, Bool.xor_true, Bool.xor_false, Nat.reduceAdd, Nat.reduceBEq, Nat.reduceLeDiff, Nat.reduceLT, Nat.reduceMul, Nat.reduceSub, Int.reduceEq, Int.reduceLT, Int.reduceLE, Int.reduceNeg, h3, h4]
  cases a <;> simp only [go_sem, Int.cast_ofNat_Int, Int.reduceToNat, Bool.true_xor, Bool.false_xor, Bool.xor_true, Bool.xor_false, Nat.reduceAdd, Nat.reduceBEq, Nat.reduceLeDiff, Nat.reduceLT, Nat.reduceMul, Nat.reduceSub, Int.reduceEq, Int.reduceLT, Int.reduceLE, Int.reduceNeg, h3, h4]
  cases h5 : decide (t < s) <;> simp only [go_sem, Int.cast_ofNat_Int, Int.reduceToNat, Bool.true_xor, Bool.false_xor, Bool.xor_true, Bool.xor_false, Nat.reduceAdd, Nat.reduceBEq, Nat.reduceLeDiff, Nat.reduceLT, Nat.reduceMul, Nat.reduceSub, Int.reduceEq, Int.reduceLT, Int.reduceLE, Int.reduceNeg, h3, h4, h5]
  cases h6 : decide (t = s) <;> simp only [go_sem, Int.cast_ofNat_Int, Int.reduceToNat, Bool.true_xor, Bool.false_xor, Bool.xor_true, Bool.xor_false, Nat.reduceAdd, Nat.reduceBEq, Nat.reduceLeDiff, Nat.reduceLT, Nat.reduceMul, Nat.reduceSub, Int.reduceEq, Int.reduceLT, Int.reduceLE, Int.reduceNeg, s43, h3, h4, h5, h6]
end Go.Sh
namespace Go.Sh
set_option linter.unusedSectionVars false
set_option linter.unnecessarySimpa false
set_option linter.unusedVariables false
set_option linter.unusedSimpArgs false
set_option maxRecDepth 100000
set_option maxHeartbeats 4000000
theorem dvB_zero : dvB ⟨#[]⟩ ⟨#[]⟩ false ⟨#[]⟩ 0 0 = true := by decide
theorem cpV_zero : cpV ⟨#[]⟩ ⟨#[]⟩ false ⟨#[]⟩ 0 0 idX = .tup [.agg (dv ⟨#[]⟩ idX false ⟨#[]⟩ 0 0), .int .i64 0] := by
  unfold cpV; rw [dvB_zero]; rfl
theorem idB_X : idB idX = true := by rfl
theorem emB_X : emB idX = true := by rfl
theorem emB_E : emB ⟨#[]⟩ = true := by rfl
theorem ls5 : lsB [5] = true := by decide
theorem dvB_idle {k : Int} (h0 : 0 ≤ k) (h1 : k ≤ 1048576) : dvB ⟨#[]⟩ idX false ⟨#[]⟩ 0 k = true := by
  unfold dvB; rw [emB_E, emB_X, decide_eq_true h0, decide_eq_true h1]; rfl
theorem dvB_arm {k s : Int} (h0 : 0 ≤ k) (h1 : k ≤ 1048576) (h2 : 1 ≤ s) (h3 : s ≤ 1073741824) : dvB ⟨#[]⟩ idX true idX s k = true := by
  unfold dvB; rw [emB_E, emB_X, idB_X, decide_eq_true h0, decide_eq_true h1, decide_eq_true h2, decide_eq_true h3]; simp
theorem cmB_act {k s : Int} {L : List Int} (h0 : 1 ≤ k) (h1 : k ≤ 1048576) (h2 : 1 ≤ s) (h3 : s ≤ 1073741824) (hL : lsB L = true) : cmB k 1 s idX L = true := by
  unfold cmB; rw [idB_X, hL, decide_eq_true h0, decide_eq_true h1, decide_eq_true h2, decide_eq_true h3]; rfl
theorem cmB_can {k : Int} {L : List Int} (h0 : 1 ≤ k) (h1 : k ≤ 1048576) (hL : lsB L = true) : cmB k 2 0 idX L = true := by
  unfold cmB; rw [idB_X, hL, decide_eq_true h0, decide_eq_true h1]; rfl
/-- A device that has the image and takes the command to start it. -/
theorem tk_act {k k' s : Int} {L : List Int} {q t : Int} (hd : dvB ⟨#[]⟩ idX false ⟨#[]⟩ 0 k = true) (hc : cmB k' 1 s idX L = true) (hk : k < k') (h0 : 0 ≤ q) (h1 : q < 32) (h2 : 0 ≤ t) (h3 : t < s) (h4 : s ≤ 1073741824) (hq : q ∈ L) :
    tkV ⟨#[]⟩ idX false ⟨#[]⟩ 0 k k' 1 s idX L q t = .tup [.agg (dv ⟨#[]⟩ idX true idX s k'), .int .i64 0] := by
  unfold tkV
  rw [hd, hc, decide_eq_false (show ¬ q < 0 by omega), decide_eq_false (show ¬ 32 ≤ q by omega), decide_eq_false (show ¬ t < 0 by omega), decide_eq_false (show ¬ 1073741824 < t by omega), decide_eq_false (show ¬ k' ≤ k by omega), decide_eq_true hq,
    decide_eq_true (show idX = idX from rfl), decide_eq_false (show ¬ s ≤ t by omega)]
  rfl
theorem s4 (a b s : Int) (ha : 0 ≤ a ∧ a ≤ 255) (hb : 0 ≤ b ∧ b ≤ 255) (hs : 0 ≤ s ∧ s ≤ 255) : call1 T 41 (.fn 4) [.int .u8 a, .int .u8 b, .int .u8 s] heap0 = some (.bool true, heap0) := by
  refine call_pure e4 (by rfl) ?_
  have wa : w64 a = a := w64_id (by omega) (by omega)
  have wb : w64 b = b := w64_id (by omega) (by omega)
  have ws : w64 s = s := w64_id (by omega) (by omega)
  have wa1 : w64 (1 + a) = 1 + a := w64_id (by omega) (by omega)
  have wb1 : w64 (1 + b) = 1 + b := w64_id (by omega) (by omega)
  have h14 := fun n H r c a x s k k' d' s' x' f q t => s14 n H r c a x s k k' d' s' x' 1 [5] f q t (.inl rfl) (by decide)
  simp only [cm, iS, List.map_cons, List.map_nil] at h14
  simp only [c4, heap0, go_sem, Int.cast_ofNat_Int, Int.reduceToNat, Bool.true_xor, Bool.false_xor, Bool.xor_true, Bool.xor_false, Nat.reduceAdd, Nat.reduceBEq, Nat.reduceLeDiff, Nat.reduceLT, Nat.reduceMul, Nat.reduceSub, Int.reduceEq, Int.reduceLT, Int.reduceLE, Int.reduceNeg, s10]
  cases h1 : decide (s < 3) <;> simp only [go_sem, Int.cast_ofNat_Int, Int.reduceToNat, Bool.true_xor, Bool.false_xor, Bool.xor_true, Bool.xor_false, Nat.reduceAdd, Nat.reduceBEq, Nat.reduceLeDiff, Nat.reduceLT, Nat.reduceMul, Nat.reduceSub, Int.reduceEq, Int.reduceLT, Int.reduceLE, Int.reduceNeg, s10, h1]
  simp only [decide_eq_false_iff_not] at h1
  have t1 := tk_act (k := 0) (k' := 1 + a) (s := s) (L := [5]) (q := 5) (t := 0) (dvB_idle (by omega) (by omega)) (cmB_act (by omega) (by omega) (by omega) (by omega) ls5) (by omega) (by omega) (by omega) (by omega) (by omega) (by omega) (by simp)
  have t2 : tkV ⟨#[]⟩ idX true idX s (1 + a) (1 + b) 2 0 idX [5] 5 1 = bif decide (1 + b ≤ 1 + a) then .tup [.agg (dv ⟨#[]⟩ idX true idX s (1 + a)), .int .i64 23] else .tup [.agg (dv ⟨#[]⟩ idX false ⟨#[]⟩ 0 (1 + b)), .int .i64 0] := by
    unfold tkV
    rw [dvB_arm (by omega) (by omega) (by omega) (by omega), cmB_can (by omega) (by omega) ls5, decide_eq_true (show idX = idX from rfl)]
    rfl
  simp only [go_sem, Int.cast_ofNat_Int, Int.reduceToNat, Bool.true_xor, Bool.false_xor, Bool.xor_true, Bool.xor_false, Nat.reduceAdd, Nat.reduceBEq, Nat.reduceLeDiff, Nat.reduceLT, Nat.reduceMul, Nat.reduceSub, Int.reduceEq, Int.reduceLT, Int.reduceLE, Int.reduceNeg, s11x, s12, cpV_zero, wa, wb, ws, wa1, wb1, h14, t1, t2]
  cases h2 : decide (1 + b ≤ 1 + a) with
  | true =>
    have t3 : stV ⟨#[]⟩ idX true idX s (1 + a) s = .tup [.agg (dv idX idX false ⟨#[]⟩ 0 (1 + a)), .bool true, .int .i64 0] := by
      unfold stV
      rw [dvB_arm (by omega) (by omega) (by omega) (by omega), decide_eq_false (show ¬ s < 0 by omega), decide_eq_false (show ¬ 1073741824 < s by omega), decide_eq_false (show ¬ s < s by omega), decide_eq_true (show s = s from rfl)]
      rfl
    have h3 : decide (a < b) = false := by simp only [decide_eq_true_eq, decide_eq_false_iff_not] at h2 ⊢; omega
    simp only [go_sem, Int.cast_ofNat_Int, Int.reduceToNat, Bool.true_xor, Bool.false_xor, Bool.xor_true, Bool.xor_false, Nat.reduceAdd, Nat.reduceBEq, Nat.reduceLeDiff, Nat.reduceLT, Nat.reduceMul, Nat.reduceSub, Int.reduceEq, Int.reduceLT, Int.reduceLE, Int.reduceNeg, s15, t3, ws, h2, h3]
  | false =>
    have t3 : stV ⟨#[]⟩ idX false ⟨#[]⟩ 0 (1 + b) s = .tup [.agg (dv ⟨#[]⟩ idX false ⟨#[]⟩ 0 (1 + b)), .bool false, .int .i64 0] := by
      unfold stV
      rw [dvB_idle (by omega) (by omega), decide_eq_false (show ¬ s < 0 by omega), decide_eq_false (show ¬ 1073741824 < s by omega)]
      rfl
    have h3 : decide (a < b) = true := by simp only [decide_eq_true_eq, decide_eq_false_iff_not] at h2 ⊢; omega
    simp only [go_sem, Int.cast_ofNat_Int, Int.reduceToNat, Bool.true_xor, Bool.false_xor, Bool.xor_true, Bool.xor_false, Nat.reduceAdd, Nat.reduceBEq, Nat.reduceLeDiff, Nat.reduceLT, Nat.reduceMul, Nat.reduceSub, Int.reduceEq, Int.reduceLT, Int.reduceLE, Int.reduceNeg, s15, t3, ws, h2, h3]
theorem u8_wf {n : Int} (h : (Lit.int .u8 n).wf = true) : 0 ≤ n ∧ n ≤ 255 := by
  have h1 : IntKind.u8.min = 0 := rfl
  have h2 : IntKind.u8.max = 255 := rfl
  simp [Lit.wf, h1, h2] at h
  omega
theorem law4 (xs : List SV) (h : FitsAll [(false, [.int .u8]), (false, [.int .u8]), (false, [.int .u8])] xs) : ∃ m, call1 T m (.fn 4) xs heap0 = some (.bool true, heap0) := by
  obtain ⟨x1, r1, rfl, h1, h⟩ := fitsAll_cons h
  obtain ⟨x2, r2, rfl, h2, h⟩ := fitsAll_cons h
  obtain ⟨x3, r3, rfl, h3, h⟩ := fitsAll_cons h
  cases fitsAll_nil h
  obtain ⟨a, rfl, ha⟩ := fits_int (fitsA_one h1)
  obtain ⟨b, rfl, hb⟩ := fits_int (fitsA_one h2)
  obtain ⟨s, rfl, hs⟩ := fits_int (fitsA_one h3)
  exact ⟨41, s4 a b s (u8_wf ha) (u8_wf hb) (u8_wf hs)⟩
end Go.Sh
namespace Go.Sh
set_option linter.unusedSectionVars false
set_option linter.unnecessarySimpa false
set_option linter.unusedVariables false
set_option linter.unusedSimpArgs false
set_option maxRecDepth 100000
set_option maxHeartbeats 4000000
def bbS (D : List Bool) : List (List SV) := D.map fun b => [.bool b]
@[go_sem] theorem bbS_len {D : List Bool} : (bbS D).length = D.length := by simp [bbS]
@[go_sem] theorem bbS_get (D : List Bool) (i : Nat) : (bbS D)[i]? = (D[i]?).map (fun p => [.bool p]) := by simp [bbS]
/-- slices.Index of bools. -/
theorem s74 (n : Nat) (H : Heap) (z : Nat) (D : List Bool) (f b : Bool) (hz : z = 1 ∨ D = []) (hL : D.length ≤ maxLen) : call1 T (n + 1) (.fn 74) [.lst z (bbS D) f, .bool b] H = some (.int .i64 (idx1 (fun y => b == y) D), H) := by
  refine call_pure e74 (by rfl) ?_
  simp only [c74, heap0, go_sem, Int.cast_ofNat_Int, Int.reduceToNat, Bool.true_xor, Bool.false_xor, Bool.xor_true, Bool.xor_false, Nat.reduceAdd, Nat.reduceBEq, Nat.reduceLeDiff, Nat.reduceLT, Nat.reduceMul, Nat.reduceSub, Int.reduceEq, Int.reduceLT, Int.reduceLE, Int.reduceNeg]
  refine loop_rule (fun i => ([(0, .lst z (bbS D) f), (1, .bool b), (7, .int .i64 D.length), (8, .int .i64 i)], ⟨[], [], 0⟩)) (fun i => ∀ (j : Nat) y, j < i → D[j]? = some y → (b == y) = false) D.length ?_ (fun j r h => by omega) ?_
  · simp only [go_sem, Int.cast_ofNat_Int, Int.reduceToNat, Bool.true_xor, Bool.false_xor, Bool.xor_true, Bool.xor_false, Nat.reduceAdd, Nat.reduceBEq, Nat.reduceLeDiff, Nat.reduceLT, Nat.reduceMul, Nat.reduceSub, Int.reduceEq, Int.reduceLT, Int.reduceLE, Int.reduceNeg] <;> rfl
  · intro i hi hP
    rcases Nat.lt_or_ge i D.length with hlt | hge
    · obtain ⟨y, hy⟩ := getS hlt
      obtain rfl : z = 1 := hz.resolve_right (by rintro rfl; simp at hlt)
      have hw := w64_suc hlt hL
      cases hp : (b == y) with
      | true =>
        have hx := idx1_at hy hp hP
        simp only [go_sem, Int.cast_ofNat_Int, Int.reduceToNat, Bool.true_xor, Bool.false_xor, Bool.xor_true, Bool.xor_false, Nat.reduceAdd, Nat.reduceBEq, Nat.reduceLeDiff, Nat.reduceLT, Nat.reduceMul, Nat.reduceSub, Int.reduceEq, Int.reduceLT, Int.reduceLE, Int.reduceNeg, hlt, hy, hp, hx]
      | false =>
        simp only [go_sem, Int.cast_ofNat_Int, Int.reduceToNat, Bool.true_xor, Bool.false_xor, Bool.xor_true, Bool.xor_false, Nat.reduceAdd, Nat.reduceBEq, Nat.reduceLeDiff, Nat.reduceLT, Nat.reduceMul, Nat.reduceSub, Int.reduceEq, Int.reduceLT, Int.reduceLE, Int.reduceNeg, hlt, hy, hp, hw]
        refine ⟨by first | trivial | omega, by first | trivial | rfl, fun j r' hj hr2 => ?_⟩
        rcases Nat.lt_or_ge j i with hlt2 | hge2
        · exact hP j r' hlt2 hr2
        · have : j = i := by omega
          subst this
          rw [hy] at hr2
          cases hr2
          exact hp
    · have hlt : ¬ i < D.length := by omega
      have hx : idx1 (fun y => b == y) D = -1 := idx1_none (fun j a hj => hP j a (by have := (List.getElem?_eq_some_iff.1 hj).1; omega) hj)
      simp only [go_sem, Int.cast_ofNat_Int, Int.reduceToNat, Bool.true_xor, Bool.false_xor, Bool.xor_true, Bool.xor_false, Nat.reduceAdd, Nat.reduceBEq, Nat.reduceLeDiff, Nat.reduceLT, Nat.reduceMul, Nat.reduceSub, Int.reduceEq, Int.reduceLT, Int.reduceLE, Int.reduceNeg, hlt, hx]
def hasB (b : Bool) (D : List Bool) : Bool := D.any fun y => b == y
theorem s58 (n : Nat) (H : Heap) (z : Nat) (D : List Bool) (f b : Bool) (hz : z = 1 ∨ D = []) (hL : D.length ≤ maxLen) : call1 T (n + 2) (.fn 58) [.lst z (bbS D) f, .bool b] H = some (.bool (hasB b D), H) := by
  have h74 := fun H => s74 n H z D f b hz hL
  refine call_pure e58 (by rfl) ?_
  simp only [c58, heap0, go_sem, Int.cast_ofNat_Int, Int.reduceToNat, Bool.true_xor, Bool.false_xor, Bool.xor_true, Bool.xor_false, Nat.reduceAdd, Nat.reduceBEq, Nat.reduceLeDiff, Nat.reduceLT, Nat.reduceMul, Nat.reduceSub, Int.reduceEq, Int.reduceLT, Int.reduceLE, Int.reduceNeg, h74, idx1_any, hasB]
/-- A board: identifier, nodes, done, told, number, slot. -/
abbrev bd (i : ByteArray) (z1 : Nat) (N : List Int) (f1 : Bool) (z2 : Nat) (D : List Bool) (f2 : Bool) (z3 : Nat) (W : List Bool) (f3 : Bool) (k s : Int) : List SV :=
  [.str i, .lst z1 (iS N) f1, .lst z2 (bbS D) f2, .lst z3 (bbS W) f3, .int .i64 k, .int .i64 s]
def bdB (i : ByteArray) (N : List Int) (D W : List Bool) (k s : Int) : Bool :=
  idB i && lsB N && decide ((D.length : Int) = N.length) && decide ((W.length : Int) = N.length) && decide (0 ≤ k) && decide (k ≤ 1048576) && decide (0 ≤ s) && decide (s ≤ 1073741824) && !(decide (k = 0) && (!decide (s = 0) || hasB true W))
theorem s26 (n : Nat) (H : Heap) (i : ByteArray) (z1 : Nat) (N : List Int) (f1 : Bool) (z2 : Nat) (D : List Bool) (f2 : Bool) (z3 : Nat) (W : List Bool) (f3 : Bool) (k s : Int) (h1 : z1 = 1 ∨ N = []) (h2 : z2 = 1 ∨ D = []) (h3 : z3 = 1 ∨ W = [])
    (hN : N.length ≤ maxLen) (hD : D.length ≤ maxLen) (hW : W.length ≤ maxLen) : call1 T (n + 3) (.fn 26) [.agg (bd i z1 N f1 z2 D f2 z3 W f3 k s)] H = some (.int .i64 (bif bdB i N D W k s then 0 else 1), H) := by
  refine call_pure e26 (by rfl) ?_
  have h54 := fun H => s54 (n + 1) H z1 N f1 h1 hN
  have h58 := fun H => s58 n H z3 W f3 true h3 hW
  simp only [c26, heap0, go_sem, Int.cast_ofNat_Int, Int.reduceToNat, Bool.true_xor, Bool.false_xor, Bool.xor_true, Bool.xor_false, Nat.reduceAdd, Nat.reduceBEq, Nat.reduceLeDiff, Nat.reduceLT, Nat.reduceMul, Nat.reduceSub, Int.reduceEq, Int.reduceLT, Int.reduceLE, Int.reduceNeg, s42, h54, h58]
  repeat' (with_reducible refine fork_split (fun _ => ?_) (fun _ => ?_) <;> simp only [*, go_sem, Int.cast_ofNat_Int, Int.reduceToNat, Bool.true_xor, Bool.false_xor, Bool.xor_true, Bool.xor_false, Nat.reduceAdd, Nat.reduceBEq, Nat.reduceLeDiff, Nat.reduceLT, Nat.reduceMul, Nat.reduceSub, Int.reduceEq, Int.reduceLT, Int.reduceLE, Int.reduceNeg, s42, h54, h58])
  all_goals
    clear h54 h58
    refine congrArg some (congrArg (SV.int .i64) ?_)
    generalize hq : bdB i N D W k s = q
    simp only [bdB] at hq
    generalize idB i = X at *
    generalize lsB N = Y at *
    generalize hasB true W = Z at *
    clear h1 h2 h3 hN hD hW
    cases q <;> simp only [cond_true, cond_false] <;> grind
end Go.Sh
namespace Go.Sh
set_option linter.unusedSectionVars false
set_option linter.unnecessarySimpa false
set_option linter.unusedVariables false
set_option linter.unusedSimpArgs false
set_option maxRecDepth 100000
set_option maxHeartbeats 4000000
def tlB (k : Int) (W : List Bool) (i : Nat) : Bool := (W.take i).all fun w => !w || decide (0 < k)
theorem tlB_zero (k W) : tlB k W 0 = true := by simp [tlB]
theorem tlB_suc {k W i w} (h : W[i]? = some w) : tlB k W (i + 1) = (tlB k W i && (!w || decide (0 < k))) := by
  have : W.take (i + 1) = W.take i ++ [w] := by rw [List.take_add_one, h]; rfl
  simp [tlB, this]
theorem bdB_tl (i : ByteArray) (N : List Int) (D W : List Bool) (k s : Int) (q : Bool) (hq : q = (idB i && lsB N && decide ((D.length : Int) = N.length) && decide ((W.length : Int) = N.length) && decide (0 ≤ k) && decide (k ≤ 1048576) && decide (0 ≤ s) && decide (s ≤ 1073741824))) :
    bdB i N D W k s = (q && tlB k W W.length && !(decide (k = 0) && !decide (s = 0))) := by
  have h1 : tlB k W W.length = (decide (0 < k) || !hasB true W) := by
    unfold tlB hasB
    rw [List.take_length]
    cases h : decide (0 < k) with
    | true => simp
    | false => simp [List.not_any_eq_all_not]
  rw [h1]
  unfold bdB
  rw [← hq]
  generalize hasB true W = Z
  have hk : q = true → 0 ≤ k := by
    intro h
    rw [h] at hq
    simp only [Bool.true_eq, Bool.and_eq_true, decide_eq_true_eq] at hq
    exact hq.1.1.1.2
  cases q with
  | false => simp
  | true =>
    have := hk rfl
    rw [Bool.eq_iff_iff]
    cases Z <;> simp <;> omega
theorem s27 (n : Nat) (H : Heap) (i : ByteArray) (z1 : Nat) (N : List Int) (f1 : Bool) (z2 : Nat) (D : List Bool) (f2 : Bool) (z3 : Nat) (W : List Bool) (f3 : Bool) (k s : Int) (h1 : z1 = 1 ∨ N = []) (h2 : z2 = 1 ∨ D = []) (h3 : z3 = 1 ∨ W = [])
    (hN : N.length ≤ maxLen) (hD : D.length ≤ maxLen) (hW : W.length ≤ maxLen) : call1 T (n + 3) (.fn 27) [.agg (bd i z1 N f1 z2 D f2 z3 W f3 k s)] H = some (.int .i64 (bif bdB i N D W k s then 0 else 1), H) := by
  refine call_pure e27 (by rfl) ?_
  have h57 := fun H => s57 (n + 1) H z1 N f1 h1 hN
  simp only [c27, heap0, go_sem, Int.cast_ofNat_Int, Int.reduceToNat, Bool.true_xor, Bool.false_xor, Bool.xor_true, Bool.xor_false, Nat.reduceAdd, Nat.reduceBEq, Nat.reduceLeDiff, Nat.reduceLT, Nat.reduceMul, Nat.reduceSub, Int.reduceEq, Int.reduceLT, Int.reduceLE, Int.reduceNeg, s56, h57]
  repeat' (with_reducible refine fork_split (fun _ => ?_) (fun _ => ?_) <;> simp only [*, go_sem, Int.cast_ofNat_Int, Int.reduceToNat, Bool.true_xor, Bool.false_xor, Bool.xor_true, Bool.xor_false, Nat.reduceAdd, Nat.reduceBEq, Nat.reduceLeDiff, Nat.reduceLT, Nat.reduceMul, Nat.reduceSub, Int.reduceEq, Int.reduceLT, Int.reduceLE, Int.reduceNeg, s56, h57])
  all_goals
    obtain ⟨q, hq⟩ : ∃ q, q = (idB i && lsB N && decide ((D.length : Int) = N.length) && decide ((W.length : Int) = N.length) && decide (0 ≤ k) && decide (k ≤ 1048576) && decide (0 ≤ s) && decide (s ≤ 1073741824)) := ⟨_, rfl⟩
    rw [bdB_tl i N D W k s q hq]
    refine loop_rule (fun j => ([(1, .ptr 0 0 0 0), (3, .bool (q && tlB k W j)), (4, .int .i64 j)], ⟨[.box (bd i z1 N f1 z2 D f2 z3 W f3 k s)], [], 0⟩)) (fun _ => True) W.length ?_ trivial ?_
    · simp only [go_sem, Int.cast_ofNat_Int, Int.reduceToNat, Bool.true_xor, Bool.false_xor, Bool.xor_true, Bool.xor_false, Nat.reduceAdd, Nat.reduceBEq, Nat.reduceLeDiff, Nat.reduceLT, Nat.reduceMul, Nat.reduceSub, Int.reduceEq, Int.reduceLT, Int.reduceLE, Int.reduceNeg, tlB_zero, hq, *] <;> first | done | rfl
    · intro j hj _
      rcases Nat.lt_or_ge j W.length with hlt | hge
      · obtain ⟨w, hw⟩ := getS hlt
        obtain rfl : z3 = 1 := h3.resolve_right (by rintro rfl; simp at hlt)
        have hs := w64_suc hlt hW
        have hB : (q && tlB k W (j + 1)) = ((q && tlB k W j) && (!w || decide (0 < k))) := by rw [tlB_suc hw, Bool.and_assoc]
        clear hq h57
        cases hA : (q && tlB k W j) with
        | false =>
          rw [hA, Bool.false_and] at hB
          simp only [go_sem, Int.cast_ofNat_Int, Int.reduceToNat, Bool.true_xor, Bool.false_xor, Bool.xor_true, Bool.xor_false, Nat.reduceAdd, Nat.reduceBEq, Nat.reduceLeDiff, Nat.reduceLT, Nat.reduceMul, Nat.reduceSub, Int.reduceEq, Int.reduceLT, Int.reduceLE, Int.reduceNeg, hlt, hA, hs, hB]
          refine ⟨by first | trivial | omega, by first | trivial | rfl, trivial⟩
        | true =>
          rw [hA, Bool.true_and] at hB
          cases w <;> simp only [Bool.not_true, Bool.not_false, Bool.true_or, Bool.false_or] at hB <;> simp only [go_sem, Int.cast_ofNat_Int, Int.reduceToNat, Bool.true_xor, Bool.false_xor, Bool.xor_true, Bool.xor_false, Nat.reduceAdd, Nat.reduceBEq, Nat.reduceLeDiff, Nat.reduceLT, Nat.reduceMul, Nat.reduceSub, Int.reduceEq, Int.reduceLT, Int.reduceLE, Int.reduceNeg, hlt, hA, hw, hs, hB] <;> refine ⟨by first | trivial | omega, by first | trivial | rfl, trivial⟩
      · obtain rfl : j = W.length := by omega
        have hd : decide (W.length < W.length) = false := decide_eq_false (by omega)
        clear hq h57
        simp only [go_sem, Int.cast_ofNat_Int, Int.reduceToNat, Bool.true_xor, Bool.false_xor, Bool.xor_true, Bool.xor_false, Nat.reduceAdd, Nat.reduceBEq, Nat.reduceLeDiff, Nat.reduceLT, Nat.reduceMul, Nat.reduceSub, Int.reduceEq, Int.reduceLT, Int.reduceLE, Int.reduceNeg, hd]
        cases hA : (q && tlB k W W.length) with
        | false => simp only [go_sem, Int.cast_ofNat_Int, Int.reduceToNat, Bool.true_xor, Bool.false_xor, Bool.xor_true, Bool.xor_false, Nat.reduceAdd, Nat.reduceBEq, Nat.reduceLeDiff, Nat.reduceLT, Nat.reduceMul, Nat.reduceSub, Int.reduceEq, Int.reduceLT, Int.reduceLE, Int.reduceNeg, hA]
        | true =>
          simp only [go_sem, Int.cast_ofNat_Int, Int.reduceToNat, Bool.true_xor, Bool.false_xor, Bool.xor_true, Bool.xor_false, Nat.reduceAdd, Nat.reduceBEq, Nat.reduceLeDiff, Nat.reduceLT, Nat.reduceMul, Nat.reduceSub, Int.reduceEq, Int.reduceLT, Int.reduceLE, Int.reduceNeg, hA]
          cases hk : decide (k = 0) <;> simp only [go_sem, Int.cast_ofNat_Int, Int.reduceToNat, Bool.true_xor, Bool.false_xor, Bool.xor_true, Bool.xor_false, Nat.reduceAdd, Nat.reduceBEq, Nat.reduceLeDiff, Nat.reduceLT, Nat.reduceMul, Nat.reduceSub, Int.reduceEq, Int.reduceLT, Int.reduceLE, Int.reduceNeg, hA, hk]
          cases hz : decide (s = 0) <;> simp only [go_sem, Int.cast_ofNat_Int, Int.reduceToNat, Bool.true_xor, Bool.false_xor, Bool.xor_true, Bool.xor_false, Nat.reduceAdd, Nat.reduceBEq, Nat.reduceLeDiff, Nat.reduceLT, Nat.reduceMul, Nat.reduceSub, Int.reduceEq, Int.reduceLT, Int.reduceLE, Int.reduceNeg, hA, hk, hz]
end Go.Sh
namespace Go.Sh
set_option linter.unusedSectionVars false
set_option linter.unnecessarySimpa false
set_option linter.unusedVariables false
set_option linter.unusedSimpArgs false
set_option maxRecDepth 100000
set_option maxHeartbeats 4000000
def tdB (D : List Bool) (i : Nat) : Bool := (D.take i).all id
theorem tdB_zero (D) : tdB D 0 = true := by simp [tdB]
theorem tdB_suc {D : List Bool} {i : Nat} {w : Bool} (h : D[i]? = some w) : tdB D (i + 1) = (tdB D i && w) := by
  have : D.take (i + 1) = D.take i ++ [w] := by rw [List.take_add_one, h]; rfl
  simp [tdB, this]
theorem tdB_all (D : List Bool) : tdB D D.length = !hasB false D := by
  unfold tdB hasB
  rw [List.take_length, List.not_any_eq_all_not]
  congr 1
  funext y
  cases y <;> rfl
theorem tdB_no {D : List Bool} {i : Nat} (h : tdB D i = false) : hasB false D = true := by
  cases hh : hasB false D with
  | true => rfl
  | false =>
    have h1 : tdB D D.length = true := by rw [tdB_all, hh]; rfl
    unfold tdB at h h1
    rw [List.take_length] at h1
    have : (D.take i).all id = true := by
      rw [List.all_eq_true] at h1 ⊢
      exact fun x hx => h1 x (List.mem_of_mem_take hx)
    rw [this] at h; cases h
variable (i : ByteArray) (z1 : Nat) (N : List Int) (f1 : Bool) (z2 : Nat) (D : List Bool) (f2 : Bool) (z3 : Nat) (W : List Bool) (f3 : Bool) (k s : Int)
structure BdOk : Prop where
  h1 : z1 = 1 ∨ N = []
  h2 : z2 = 1 ∨ D = []
  h3 : z3 = 1 ∨ W = []
  hN : N.length ≤ 1000
  hD : D.length ≤ 1000
  hW : W.length ≤ 1000
theorem mx : 1000 ≤ maxLen := by decide
variable {i z1 N f1 z2 D f2 z3 W f3 k s}
theorem s26' (ok : BdOk z1 N z2 D z3 W) (n : Nat) (H : Heap) : call1 T (n + 3) (.fn 26) [.agg (bd i z1 N f1 z2 D f2 z3 W f3 k s)] H = some (.int .i64 (bif bdB i N D W k s then 0 else 1), H) :=
  s26 n H i z1 N f1 z2 D f2 z3 W f3 k s ok.h1 ok.h2 ok.h3 (Nat.le_trans ok.hN mx) (Nat.le_trans ok.hD mx) (Nat.le_trans ok.hW mx)
theorem s27' (ok : BdOk z1 N z2 D z3 W) (n : Nat) (H : Heap) : call1 T (n + 3) (.fn 27) [.agg (bd i z1 N f1 z2 D f2 z3 W f3 k s)] H = some (.int .i64 (bif bdB i N D W k s then 0 else 1), H) :=
  s27 n H i z1 N f1 z2 D f2 z3 W f3 k s ok.h1 ok.h2 ok.h3 (Nat.le_trans ok.hN mx) (Nat.le_trans ok.hD mx) (Nat.le_trans ok.hW mx)
theorem s28 (ok : BdOk z1 N z2 D z3 W) (n : Nat) (H : Heap) : call1 T (n + 4) (.fn 28) [.agg (bd i z1 N f1 z2 D f2 z3 W f3 k s)] H = some (.bool (bdB i N D W k s && !hasB false D), H) := by
  refine call_pure e28 (by rfl) ?_
  have h26 := fun H => s26' (i := i) (f1 := f1) (f2 := f2) (f3 := f3) (k := k) (s := s) ok n H
  have h58 := fun H => s58 (n + 1) H z2 D f2 false ok.h2 (Nat.le_trans ok.hD mx)
  simp only [c28, heap0, go_sem, Int.cast_ofNat_Int, Int.reduceToNat, Bool.true_xor, Bool.false_xor, Bool.xor_true, Bool.xor_false, Nat.reduceAdd, Nat.reduceBEq, Nat.reduceLeDiff, Nat.reduceLT, Nat.reduceMul, Nat.reduceSub, Int.reduceEq, Int.reduceLT, Int.reduceLE, Int.reduceNeg, h26]
  cases h : bdB i N D W k s <;> simp only [go_sem, Int.cast_ofNat_Int, Int.reduceToNat, Bool.true_xor, Bool.false_xor, Bool.xor_true, Bool.xor_false, Nat.reduceAdd, Nat.reduceBEq, Nat.reduceLeDiff, Nat.reduceLT, Nat.reduceMul, Nat.reduceSub, Int.reduceEq, Int.reduceLT, Int.reduceLE, Int.reduceNeg, h58]
theorem s30 (ok : BdOk z1 N z2 D z3 W) (n : Nat) (H : Heap) : call1 T (n + 4) (.fn 30) [.agg (bd i z1 N f1 z2 D f2 z3 W f3 k s)] H = some (.bool (bdB i N D W k s && !decide (s = 0) && !hasB false W), H) := by
  refine call_pure e30 (by rfl) ?_
  have h26 := fun H => s26' (i := i) (f1 := f1) (f2 := f2) (f3 := f3) (k := k) (s := s) ok n H
  have h58 := fun H => s58 (n + 1) H z3 W f3 false ok.h3 (Nat.le_trans ok.hW mx)
  simp only [c30, heap0, go_sem, Int.cast_ofNat_Int, Int.reduceToNat, Bool.true_xor, Bool.false_xor, Bool.xor_true, Bool.xor_false, Nat.reduceAdd, Nat.reduceBEq, Nat.reduceLeDiff, Nat.reduceLT, Nat.reduceMul, Nat.reduceSub, Int.reduceEq, Int.reduceLT, Int.reduceLE, Int.reduceNeg, h26]
  cases h : bdB i N D W k s <;> simp only [go_sem, Int.cast_ofNat_Int, Int.reduceToNat, Bool.true_xor, Bool.false_xor, Bool.xor_true, Bool.xor_false, Nat.reduceAdd, Nat.reduceBEq, Nat.reduceLeDiff, Nat.reduceLT, Nat.reduceMul, Nat.reduceSub, Int.reduceEq, Int.reduceLT, Int.reduceLE, Int.reduceNeg, h58]
  cases h2 : decide (s = 0) <;> simp only [go_sem, Int.cast_ofNat_Int, Int.reduceToNat, Bool.true_xor, Bool.false_xor, Bool.xor_true, Bool.xor_false, Nat.reduceAdd, Nat.reduceBEq, Nat.reduceLeDiff, Nat.reduceLT, Nat.reduceMul, Nat.reduceSub, Int.reduceEq, Int.reduceLT, Int.reduceLE, Int.reduceNeg, h58, h2]
theorem s29 (ok : BdOk z1 N z2 D z3 W) (n : Nat) (H : Heap) : call1 T (n + 4) (.fn 29) [.agg (bd i z1 N f1 z2 D f2 z3 W f3 k s)] H = some (.bool (bdB i N D W k s && !hasB false D), H) := by
  refine call_pure e29 (by rfl) ?_
  have h27 := fun H => s27' (i := i) (f1 := f1) (f2 := f2) (f3 := f3) (k := k) (s := s) ok n H
  have hz := ok.h2
  have hD := Nat.le_trans ok.hD mx
  simp only [c29, heap0, go_sem, Int.cast_ofNat_Int, Int.reduceToNat, Bool.true_xor, Bool.false_xor, Bool.xor_true, Bool.xor_false, Nat.reduceAdd, Nat.reduceBEq, Nat.reduceLeDiff, Nat.reduceLT, Nat.reduceMul, Nat.reduceSub, Int.reduceEq, Int.reduceLT, Int.reduceLE, Int.reduceNeg, h27]
  clear h27
  generalize hq : bdB i N D W k s = q
  have hq0 : decide ((bif q then (0 : Int) else 1) = 0) = q := by cases q <;> rfl
  simp only [go_sem, Int.cast_ofNat_Int, Int.reduceToNat, Bool.true_xor, Bool.false_xor, Bool.xor_true, Bool.xor_false, Nat.reduceAdd, Nat.reduceBEq, Nat.reduceLeDiff, Nat.reduceLT, Nat.reduceMul, Nat.reduceSub, Int.reduceEq, Int.reduceLT, Int.reduceLE, Int.reduceNeg, hq0]
  refine loop_rule (fun j => ([(1, .ptr 0 0 0 0), (3, .bool (q && tdB D j)), (4, .int .i64 j)], ⟨[.box (bd i z1 N f1 z2 D f2 z3 W f3 k s)], [], 0⟩)) (fun _ => True) D.length ?_ trivial ?_
  · simp only [go_sem, Int.cast_ofNat_Int, Int.reduceToNat, Bool.true_xor, Bool.false_xor, Bool.xor_true, Bool.xor_false, Nat.reduceAdd, Nat.reduceBEq, Nat.reduceLeDiff, Nat.reduceLT, Nat.reduceMul, Nat.reduceSub, Int.reduceEq, Int.reduceLT, Int.reduceLE, Int.reduceNeg, tdB_zero] <;> first | done | rfl
  · intro j hj _
    cases hA : (q && tdB D j) with
    | false =>
      have hr : (q && !hasB false D) = false := by
        cases q with
        | false => rfl
        | true => rw [Bool.true_and] at hA; rw [tdB_no hA]; rfl
      simp only [go_sem, Int.cast_ofNat_Int, Int.reduceToNat, Bool.true_xor, Bool.false_xor, Bool.xor_true, Bool.xor_false, Nat.reduceAdd, Nat.reduceBEq, Nat.reduceLeDiff, Nat.reduceLT, Nat.reduceMul, Nat.reduceSub, Int.reduceEq, Int.reduceLT, Int.reduceLE, Int.reduceNeg, hA, hr]
    | true =>
      rcases Nat.lt_or_ge j D.length with hlt | hge
      · obtain ⟨w, hw⟩ := getS hlt
        obtain rfl : z2 = 1 := hz.resolve_right (by rintro rfl; simp at hlt)
        have hs := w64_suc hlt hD
        have hB : (q && tdB D (j + 1)) = w := by rw [tdB_suc hw, ← Bool.and_assoc, hA, Bool.true_and]
        simp only [go_sem, Int.cast_ofNat_Int, Int.reduceToNat, Bool.true_xor, Bool.false_xor, Bool.xor_true, Bool.xor_false, Nat.reduceAdd, Nat.reduceBEq, Nat.reduceLeDiff, Nat.reduceLT, Nat.reduceMul, Nat.reduceSub, Int.reduceEq, Int.reduceLT, Int.reduceLE, Int.reduceNeg, hA, hlt, hw, hs, hB]
        refine ⟨by first | trivial | omega, by first | trivial | rfl, trivial⟩
      · obtain rfl : j = D.length := by omega
        have hd : decide (D.length < D.length) = false := decide_eq_false (by omega)
        have hr : (q && !hasB false D) = true := by rw [← tdB_all]; exact hA
        simp only [go_sem, Int.cast_ofNat_Int, Int.reduceToNat, Bool.true_xor, Bool.false_xor, Bool.xor_true, Bool.xor_false, Nat.reduceAdd, Nat.reduceBEq, Nat.reduceLeDiff, Nat.reduceLT, Nat.reduceMul, Nat.reduceSub, Int.reduceEq, Int.reduceLT, Int.reduceLE, Int.reduceNeg, hA, hd, hr]
theorem s31 (ok : BdOk z1 N z2 D z3 W) (n : Nat) (H : Heap) : call1 T (n + 4) (.fn 31) [.agg (bd i z1 N f1 z2 D f2 z3 W f3 k s)] H = some (.bool (bdB i N D W k s && !decide (s = 0) && !hasB false W), H) := by
  refine call_pure e31 (by rfl) ?_
  have h27 := fun H => s27' (i := i) (f1 := f1) (f2 := f2) (f3 := f3) (k := k) (s := s) ok n H
  have hz := ok.h3
  have hD := Nat.le_trans ok.hW mx
  obtain ⟨q, hq⟩ : ∃ q, q = (bdB i N D W k s && decide (0 < s)) := ⟨_, rfl⟩
  have hq2 : (bdB i N D W k s && !decide (s = 0) && !hasB false W) = (q && !hasB false W) := by
    rw [hq]
    cases h : bdB i N D W k s with
    | false => rfl
    | true =>
      have : 0 ≤ s := by
        unfold bdB at h
        simp only [Bool.and_eq_true, decide_eq_true_eq] at h
        exact h.1.1.2
      congr 1
      rw [Bool.eq_iff_iff]
      simp
      omega
  rw [hq2]
  simp only [c31, heap0, go_sem, Int.cast_ofNat_Int, Int.reduceToNat, Bool.true_xor, Bool.false_xor, Bool.xor_true, Bool.xor_false, Nat.reduceAdd, Nat.reduceBEq, Nat.reduceLeDiff, Nat.reduceLT, Nat.reduceMul, Nat.reduceSub, Int.reduceEq, Int.reduceLT, Int.reduceLE, Int.reduceNeg, h27]
  clear h27
  cases h : bdB i N D W k s <;> simp only [go_sem, Int.cast_ofNat_Int, Int.reduceToNat, Bool.true_xor, Bool.false_xor, Bool.xor_true, Bool.xor_false, Nat.reduceAdd, Nat.reduceBEq, Nat.reduceLeDiff, Nat.reduceLT, Nat.reduceMul, Nat.reduceSub, Int.reduceEq, Int.reduceLT, Int.reduceLE, Int.reduceNeg]
  all_goals
    refine loop_rule (fun j => ([(1, .ptr 0 0 0 0), (3, .bool (q && tdB W j)), (4, .int .i64 j)], ⟨[.box (bd i z1 N f1 z2 D f2 z3 W f3 k s)], [], 0⟩)) (fun _ => True) W.length ?_ trivial ?_
    · rw [h] at hq
      simp only [Bool.true_and, Bool.false_and] at hq
      simp only [go_sem, Int.cast_ofNat_Int, Int.reduceToNat, Bool.true_xor, Bool.false_xor, Bool.xor_true, Bool.xor_false, Nat.reduceAdd, Nat.reduceBEq, Nat.reduceLeDiff, Nat.reduceLT, Nat.reduceMul, Nat.reduceSub, Int.reduceEq, Int.reduceLT, Int.reduceLE, Int.reduceNeg, tdB_zero, hq] <;> first | done | rfl
    · intro j hj _
      clear hq hq2
      cases hA : (q && tdB W j) with
      | false =>
        have hr : (q && !hasB false W) = false := by
          cases q with
          | false => rfl
          | true => rw [Bool.true_and] at hA; rw [tdB_no hA]; rfl
        simp only [go_sem, Int.cast_ofNat_Int, Int.reduceToNat, Bool.true_xor, Bool.false_xor, Bool.xor_true, Bool.xor_false, Nat.reduceAdd, Nat.reduceBEq, Nat.reduceLeDiff, Nat.reduceLT, Nat.reduceMul, Nat.reduceSub, Int.reduceEq, Int.reduceLT, Int.reduceLE, Int.reduceNeg, hA, hr]
      | true =>
        rcases Nat.lt_or_ge j W.length with hlt | hge
        · obtain ⟨w, hw⟩ := getS hlt
          obtain rfl : z3 = 1 := hz.resolve_right (by rintro rfl; simp at hlt)
          have hs := w64_suc hlt hD
          have hB : (q && tdB W (j + 1)) = w := by rw [tdB_suc hw, ← Bool.and_assoc, hA, Bool.true_and]
          simp only [go_sem, Int.cast_ofNat_Int, Int.reduceToNat, Bool.true_xor, Bool.false_xor, Bool.xor_true, Bool.xor_false, Nat.reduceAdd, Nat.reduceBEq, Nat.reduceLeDiff, Nat.reduceLT, Nat.reduceMul, Nat.reduceSub, Int.reduceEq, Int.reduceLT, Int.reduceLE, Int.reduceNeg, hA, hlt, hw, hs, hB]
          refine ⟨by first | trivial | omega, by first | trivial | rfl, trivial⟩
        · obtain rfl : j = W.length := by omega
          have hd : decide (W.length < W.length) = false := decide_eq_false (by omega)
          have hr : (q && !hasB false W) = true := by rw [← tdB_all]; exact hA
          simp only [go_sem, Int.cast_ofNat_Int, Int.reduceToNat, Bool.true_xor, Bool.false_xor, Bool.xor_true, Bool.xor_false, Nat.reduceAdd, Nat.reduceBEq, Nat.reduceLeDiff, Nat.reduceLT, Nat.reduceMul, Nat.reduceSub, Int.reduceEq, Int.reduceLT, Int.reduceLE, Int.reduceNeg, hA, hd, hr]
end Go.Sh
namespace Go.Sh
set_option linter.unusedSectionVars false
set_option linter.unnecessarySimpa false
set_option linter.unusedVariables false
set_option linter.unusedSimpArgs false
set_option maxRecDepth 100000
set_option maxHeartbeats 4000000
theorem dself {A : Type} [DecidableEq A] (a : A) : decide (a = a) = true := decide_eq_true rfl
theorem s53 (n : Nat) (H : Heap) (z z' : Nat) (L : List Int) (f f' : Bool) (hz : z = 1 ∨ L = []) (hz' : z' = 1 ∨ L = []) (hL : L.length ≤ 1000) : call1 T (n + 1) (.fn 53) [.lst z (iS L) f, .lst z' (iS L) f'] H = some (.bool true, H) := by
  refine call_pure e53 (by rfl) ?_
  simp only [c53, heap0, go_sem, Int.cast_ofNat_Int, Int.reduceToNat, Bool.true_xor, Bool.false_xor, Bool.xor_true, Bool.xor_false, Nat.reduceAdd, Nat.reduceBEq, Nat.reduceLeDiff, Nat.reduceLT, Nat.reduceMul, Nat.reduceSub, Int.reduceEq, Int.reduceLT, Int.reduceLE, Int.reduceNeg, dself]
  refine loop_rule (fun i => ([(0, .lst z (iS L) f), (1, .lst z' (iS L) f'), (5, .int .i64 i)], ⟨[], [], 0⟩)) (fun _ => True) L.length ?_ trivial ?_
  · simp only [go_sem, Int.cast_ofNat_Int, Int.reduceToNat, Bool.true_xor, Bool.false_xor, Bool.xor_true, Bool.xor_false, Nat.reduceAdd, Nat.reduceBEq, Nat.reduceLeDiff, Nat.reduceLT, Nat.reduceMul, Nat.reduceSub, Int.reduceEq, Int.reduceLT, Int.reduceLE, Int.reduceNeg] <;> rfl
  · intro i hi _
    rcases Nat.lt_or_ge i L.length with hlt | hge
    · obtain ⟨x, hx⟩ := getS hlt
      obtain rfl : z = 1 := hz.resolve_right (by rintro rfl; simp at hlt)
      obtain rfl : z' = 1 := hz'.resolve_right (by rintro rfl; simp at hlt)
      have hs := w64_suc hlt (Nat.le_trans hL mx)
      simp only [go_sem, Int.cast_ofNat_Int, Int.reduceToNat, Bool.true_xor, Bool.false_xor, Bool.xor_true, Bool.xor_false, Nat.reduceAdd, Nat.reduceBEq, Nat.reduceLeDiff, Nat.reduceLT, Nat.reduceMul, Nat.reduceSub, Int.reduceEq, Int.reduceLT, Int.reduceLE, Int.reduceNeg, hlt, hx, dself, hs]
      refine ⟨by first | trivial | omega, by first | trivial | rfl, trivial⟩
    · have hd : decide (i < L.length) = false := decide_eq_false (by omega)
      have hd' : ¬ i < L.length := by omega
      simp only [go_sem, Int.cast_ofNat_Int, Int.reduceToNat, Bool.true_xor, Bool.false_xor, Bool.xor_true, Bool.xor_false, Nat.reduceAdd, Nat.reduceBEq, Nat.reduceLeDiff, Nat.reduceLT, Nat.reduceMul, Nat.reduceSub, Int.reduceEq, Int.reduceLT, Int.reduceLE, Int.reduceNeg, hd, hd']
theorem s21 (n : Nat) (H : Heap) (k d s : Int) (x : ByteArray) (z z' : Nat) (L : List Int) (f f' : Bool) (hz : z = 1 ∨ L = []) (hz' : z' = 1 ∨ L = []) (hL : L.length ≤ 1000) :
    call1 T (n + 2) (.fn 21) [.agg (cm k d s x z L f), .agg (cm k d s x z' L f')] H = some (.bool true, H) := by
  refine call_pure e21 (by rfl) ?_
  have h53 := fun H => s53 n H z z' L f f' hz hz' hL
  simp only [c21, heap0, go_sem, Int.cast_ofNat_Int, Int.reduceToNat, Bool.true_xor, Bool.false_xor, Bool.xor_true, Bool.xor_false, Nat.reduceAdd, Nat.reduceBEq, Nat.reduceLeDiff, Nat.reduceLT, Nat.reduceMul, Nat.reduceSub, Int.reduceEq, Int.reduceLT, Int.reduceLE, Int.reduceNeg, dself, h53]
theorem s25 {i : ByteArray} {z1 z1' : Nat} {N : List Int} {f1 f1' : Bool} {z2 z2' : Nat} {D : List Bool} {f2 f2' : Bool} {z3 z3' : Nat} {W : List Bool} {f3 f3' : Bool} {k s : Int} (ok : BdOk z1 N z2 D z3 W) (ok' : BdOk z1' N z2' D z3' W) (n : Nat) (H : Heap) :
    call1 T (n + 2) (.fn 25) [.agg (bd i z1 N f1 z2 D f2 z3 W f3 k s), .agg (bd i z1' N f1' z2' D f2' z3' W f3' k s)] H = some (.bool true, H) := by
  refine call_pure e25 (by rfl) ?_
  have h53 := fun H => s53 n H z1 z1' N f1 f1' ok.h1 ok'.h1 ok.hN
  simp only [c25, heap0, go_sem, Int.cast_ofNat_Int, Int.reduceToNat, Bool.true_xor, Bool.false_xor, Bool.xor_true, Bool.xor_false, Nat.reduceAdd, Nat.reduceBEq, Nat.reduceLeDiff, Nat.reduceLT, Nat.reduceMul, Nat.reduceSub, Int.reduceEq, Int.reduceLT, Int.reduceLE, Int.reduceNeg, dself, h53]
  refine loop_rule (fun j => ([(2, .ptr 0 0 0 0), (3, .ptr 1 0 0 0), (5, .int .i64 j)], ⟨[.box (bd i z1 N f1 z2 D f2 z3 W f3 k s), .box (bd i z1' N f1' z2' D f2' z3' W f3' k s)], [], 0⟩)) (fun _ => True) D.length ?_ trivial ?_
  · simp only [go_sem, Int.cast_ofNat_Int, Int.reduceToNat, Bool.true_xor, Bool.false_xor, Bool.xor_true, Bool.xor_false, Nat.reduceAdd, Nat.reduceBEq, Nat.reduceLeDiff, Nat.reduceLT, Nat.reduceMul, Nat.reduceSub, Int.reduceEq, Int.reduceLT, Int.reduceLE, Int.reduceNeg] <;> rfl
  · intro j hj _
    rcases Nat.lt_or_ge j D.length with hlt | hge
    · obtain ⟨x, hx⟩ := getS hlt
      obtain rfl : z2 = 1 := ok.h2.resolve_right (by rintro rfl; simp at hlt)
      obtain rfl : z2' = 1 := ok'.h2.resolve_right (by rintro rfl; simp at hlt)
      have hs := w64_suc hlt (Nat.le_trans ok.hD mx)
      simp only [go_sem, Int.cast_ofNat_Int, Int.reduceToNat, Bool.true_xor, Bool.false_xor, Bool.xor_true, Bool.xor_false, Nat.reduceAdd, Nat.reduceBEq, Nat.reduceLeDiff, Nat.reduceLT, Nat.reduceMul, Nat.reduceSub, Int.reduceEq, Int.reduceLT, Int.reduceLE, Int.reduceNeg, hlt, hx, dself, hs, beq_self_eq_true]
      refine ⟨by first | trivial | omega, by first | trivial | rfl, trivial⟩
    · have hd' : ¬ j < D.length := by omega
      simp only [go_sem, Int.cast_ofNat_Int, Int.reduceToNat, Bool.true_xor, Bool.false_xor, Bool.xor_true, Bool.xor_false, Nat.reduceAdd, Nat.reduceBEq, Nat.reduceLeDiff, Nat.reduceLT, Nat.reduceMul, Nat.reduceSub, Int.reduceEq, Int.reduceLT, Int.reduceLE, Int.reduceNeg, hd']
      refine loop_rule (fun j => ([(2, .ptr 0 0 0 0), (3, .ptr 1 0 0 0), (6, .int .i64 j)], ⟨[.box (bd i z1 N f1 z2 D f2 z3 W f3 k s), .box (bd i z1' N f1' z2' D f2' z3' W f3' k s)], [], 0⟩)) (fun _ => True) W.length ?_ trivial ?_
      · simp only [go_sem, Int.cast_ofNat_Int, Int.reduceToNat, Bool.true_xor, Bool.false_xor, Bool.xor_true, Bool.xor_false, Nat.reduceAdd, Nat.reduceBEq, Nat.reduceLeDiff, Nat.reduceLT, Nat.reduceMul, Nat.reduceSub, Int.reduceEq, Int.reduceLT, Int.reduceLE, Int.reduceNeg] <;> rfl
      · intro j hj _
        rcases Nat.lt_or_ge j W.length with hlt | hge
        · obtain ⟨x, hx⟩ := getS hlt
          obtain rfl : z3 = 1 := ok.h3.resolve_right (by rintro rfl; simp at hlt)
          obtain rfl : z3' = 1 := ok'.h3.resolve_right (by rintro rfl; simp at hlt)
          have hs := w64_suc hlt (Nat.le_trans ok.hW mx)
          simp only [go_sem, Int.cast_ofNat_Int, Int.reduceToNat, Bool.true_xor, Bool.false_xor, Bool.xor_true, Bool.xor_false, Nat.reduceAdd, Nat.reduceBEq, Nat.reduceLeDiff, Nat.reduceLT, Nat.reduceMul, Nat.reduceSub, Int.reduceEq, Int.reduceLT, Int.reduceLE, Int.reduceNeg, hlt, hx, dself, hs, beq_self_eq_true]
          refine ⟨by first | trivial | omega, by first | trivial | rfl, trivial⟩
        · have hd' : ¬ j < W.length := by omega
          simp only [go_sem, Int.cast_ofNat_Int, Int.reduceToNat, Bool.true_xor, Bool.false_xor, Bool.xor_true, Bool.xor_false, Nat.reduceAdd, Nat.reduceBEq, Nat.reduceLeDiff, Nat.reduceLT, Nat.reduceMul, Nat.reduceSub, Int.reduceEq, Int.reduceLT, Int.reduceLE, Int.reduceNeg, hd']
/-- Small commands and boards. -/
theorem s13 (n : Nat) (H : Heap) (k d s : Int) (x : ByteArray) (z : Nat) (L : List Int) (f : Bool) : call1 T (n + 1) (.fn 13) [.agg (cm k d s x z L f)] H = some (.bool (decide ((x.size : Int) ≤ 100) && decide ((L.length : Int) ≤ 40)), H) := by
  refine call_pure e13 (by rfl) ?_
  simp only [c13, heap0, go_sem, Int.cast_ofNat_Int, Int.reduceToNat, Bool.true_xor, Bool.false_xor, Bool.xor_true, Bool.xor_false, Nat.reduceAdd, Nat.reduceBEq, Nat.reduceLeDiff, Nat.reduceLT, Nat.reduceMul, Nat.reduceSub, Int.reduceEq, Int.reduceLT, Int.reduceLE, Int.reduceNeg]
  repeat' (with_reducible refine fork_split (fun _ => ?_) (fun _ => ?_) <;> simp only [*, go_sem, Int.cast_ofNat_Int, Int.reduceToNat, Bool.true_xor, Bool.false_xor, Bool.xor_true, Bool.xor_false, Nat.reduceAdd, Nat.reduceBEq, Nat.reduceLeDiff, Nat.reduceLT, Nat.reduceMul, Nat.reduceSub, Int.reduceEq, Int.reduceLT, Int.reduceLE, Int.reduceNeg])
  all_goals trace_state
theorem x75 : T 75 = some stdIdx := e75
theorem s75 (n : Nat) (H : Heap) (z : Nat) (L : List Int) (f : Bool) (q : Int) (hz : z = 1 ∨ L = []) (hL : L.length ≤ 1000) : call1 T (n + 1) (.fn 75) [.lst z (iS L) f, .int .i64 q] H = some (.int .i64 (idx1 (fun y => decide (q = y)) L), H) :=
  stdIdx_ok x75 (.lst z f (hz.imp id (by rintro rfl; rfl))) (Nat.le_trans hL mx)
theorem s77 (n : Nat) (H : Heap) (z : Nat) (D : List Int) (f : Bool) (q : Int) (hz : z = 1 ∨ D = []) (hL : D.length ≤ 1000) : call1 T (n + 1) (.fn 77) [.lst z (iS D) f, .int .i64 q] H = some (.int .i64 (idx1 (fun y => decide (q = y)) D), H) := by
  refine call_pure e77 (by rfl) ?_
  simp only [c77, heap0, go_sem, Int.cast_ofNat_Int, Int.reduceToNat, Bool.true_xor, Bool.false_xor, Bool.xor_true, Bool.xor_false, Nat.reduceAdd, Nat.reduceBEq, Nat.reduceLeDiff, Nat.reduceLT, Nat.reduceMul, Nat.reduceSub, Int.reduceEq, Int.reduceLT, Int.reduceLE, Int.reduceNeg]
  refine loop_rule (fun i => ([(0, .lst z (iS D) f), (1, .int .i64 q), (5, .int .i64 i)], ⟨[], [], 0⟩)) (fun i => ∀ (j : Nat) y, j < i → D[j]? = some y → decide (q = y) = false) D.length ?_ (fun j r h => by omega) ?_
  · simp only [go_sem, Int.cast_ofNat_Int, Int.reduceToNat, Bool.true_xor, Bool.false_xor, Bool.xor_true, Bool.xor_false, Nat.reduceAdd, Nat.reduceBEq, Nat.reduceLeDiff, Nat.reduceLT, Nat.reduceMul, Nat.reduceSub, Int.reduceEq, Int.reduceLT, Int.reduceLE, Int.reduceNeg] <;> rfl
  · intro i hi hP
    rcases Nat.lt_or_ge i D.length with hlt | hge
    · obtain ⟨y, hy⟩ := getS hlt
      obtain rfl : z = 1 := hz.resolve_right (by rintro rfl; simp at hlt)
      have hw := w64_suc hlt (Nat.le_trans hL mx)
      have hc : decide (y = q) = decide (q = y) := by rw [Bool.eq_iff_iff]; simp [eq_comm]
      cases hp : decide (q = y) with
      | true =>
        have hx := idx1_at hy hp hP
        rw [hp] at hc
        simp only [go_sem, Int.cast_ofNat_Int, Int.reduceToNat, Bool.true_xor, Bool.false_xor, Bool.xor_true, Bool.xor_false, Nat.reduceAdd, Nat.reduceBEq, Nat.reduceLeDiff, Nat.reduceLT, Nat.reduceMul, Nat.reduceSub, Int.reduceEq, Int.reduceLT, Int.reduceLE, Int.reduceNeg, hlt, hy, hc, hx]
      | false =>
        rw [hp] at hc
        simp only [go_sem, Int.cast_ofNat_Int, Int.reduceToNat, Bool.true_xor, Bool.false_xor, Bool.xor_true, Bool.xor_false, Nat.reduceAdd, Nat.reduceBEq, Nat.reduceLeDiff, Nat.reduceLT, Nat.reduceMul, Nat.reduceSub, Int.reduceEq, Int.reduceLT, Int.reduceLE, Int.reduceNeg, hlt, hy, hc, hw]
        refine ⟨by first | trivial | omega, by first | trivial | rfl, fun j r' hj hr2 => ?_⟩
        rcases Nat.lt_or_ge j i with hlt2 | hge2
        · exact hP j r' hlt2 hr2
        · have : j = i := by omega
          subst this
          rw [hy] at hr2
          cases hr2
          exact hp
    · have hlt : ¬ i < D.length := by omega
      have hx : idx1 (fun y => decide (q = y)) D = -1 := idx1_none (fun j a hj => hP j a (by have := (List.getElem?_eq_some_iff.1 hj).1; omega) hj)
      simp only [go_sem, Int.cast_ofNat_Int, Int.reduceToNat, Bool.true_xor, Bool.false_xor, Bool.xor_true, Bool.xor_false, Nat.reduceAdd, Nat.reduceBEq, Nat.reduceLeDiff, Nat.reduceLT, Nat.reduceMul, Nat.reduceSub, Int.reduceEq, Int.reduceLT, Int.reduceLE, Int.reduceNeg, hlt, hx]
end Go.Sh
namespace Go.Sh
set_option linter.unusedSectionVars false
set_option linter.unnecessarySimpa false
set_option linter.unusedVariables false
set_option linter.unusedSimpArgs false
set_option maxRecDepth 100000
set_option maxHeartbeats 4000000
theorem x55 : T 55 = some (stdClone 1 8 [.int .i64 0]) := e55
theorem s55k (n : Nat) (z : Nat) (L : List Int) (f : Bool) (hz : z = 1 ∨ L = []) (hL : L.length ≤ 1000) (bl : List SBlk) (es ro) : call1 T (n + 1) (.kfn 55) [.lst z (iS L) f] ⟨bl, es, ro⟩ = some (.slc bl.length 0 0 L.length, ⟨bl ++ [.arr 0 1 (iS L) false], es, ro⟩) := by
  have := stdCloneK_ok (T := T) (f := 55) (n := n) (z := 1) (z' := z) (L := iS L) (fl := f) x55 (hz.imp id (by rintro rfl; rfl)) (by rw [iS_len]; exact Nat.le_trans (show L.length * 8 ≤ 10000 by omega) (by decide)) bl es ro
  rw [iS_len] at this
  exact this
theorem s55 (n : Nat) (H : Heap) (z : Nat) (L : List Int) (f : Bool) (hz : z = 1 ∨ L = []) (hL : L.length ≤ 1000) : call1 T (n + 1) (.fn 55) [.lst z (iS L) f] H = some (.lst 1 (iS L) false, H) :=
  stdClone_ok x55 (hz.imp id (by rintro rfl; rfl)) (Still.ints L) (by rw [iS_len]; exact Nat.le_trans (show L.length * 8 ≤ 10000 by omega) (by decide))
theorem bb_still (D : List Bool) : Still (bbS D) := fun cs hcs c hc => by
  simp only [bbS, List.mem_map] at hcs
  obtain ⟨b, _, rfl⟩ := hcs
  simp only [List.mem_singleton] at hc
  subst hc
  exact ⟨rfl, fun _ _ _ => rfl⟩
theorem bb_refs (D : List Bool) : SV.refs.refsL (bbS D).flatten = 0 := (bb_still D).zero
theorem bb_cons (D : List Bool) : bbS D = [] ∨ ∃ b E, bbS D = b :: E := by cases bbS D with | nil => exact .inl rfl | cons a l => exact .inr ⟨a, l, rfl⟩
theorem mkB (H : Heap) (m : Nat) (h : m ≤ 1000) : smake 1 [.bool false] 1 H (.int .i64 m) (.int .i64 m) = some (.slc H.bl.length 0 0 m, hnew H (.arr 0 1 (List.replicate m [.bool false]) true)) := by
  have h1 : decide ((m : Int) * ((1 : Nat) : Int) ≤ (mostLen : Int)) = true := decide_eq_true (by have : (mostLen : Int) = 1099511627776 := rfl; omega)
  have h2 : decide ((0 : Int) ≤ (m : Int)) = true := decide_eq_true (by omega)
  have h3 : decide ((m : Int) ≤ (m : Int)) = true := decide_eq_true (by omega)
  simp only [smake, h1, h2, h3, Bool.and_self, cond_true, Int.toNat_natCast]
theorem bb_rep (n : Nat) : List.replicate n [SV.bool false] = bbS (List.replicate n false) := by simp [bbS]
theorem s84 (n : Nat) (z : Nat) (D : List Bool) (f : Bool) (hz : z = 1 ∨ D = []) (hD : D.length ≤ 1000) (bl : List SBlk) (es ro) : call1 T (n + 1) (.fn 84) [.lst z (bbS D) f] ⟨bl, es, ro⟩ = some (.slc bl.length 0 0 D.length, ⟨bl ++ [.arr 0 1 (bbS D) true], es, ro⟩) := by
  refine call_in e84 (by rfl) ?_
  have hb : decide ((D.length : Int) ≤ 1099511627776) = true := decide_eq_true (by omega)
  have hz' : ∀ H, rdL 1 H (.lst z (bbS D) f) = some (bbS D) := by
    intro H
    rcases hz with rfl | rfl <;> simp [rdL, bbS]
  have h1 : (bbS D).take D.length = bbS D := by rw [← bbS_len (D := D)]; exact List.take_length
  have h2 : (List.replicate D.length [SV.bool false]).drop (min D.length D.length) = [] := by simp
  simp only [c84, go_sem, Int.cast_ofNat_Int, Int.reduceToNat, Bool.true_xor, Bool.false_xor, Bool.xor_true, Bool.xor_false, Nat.reduceAdd, Nat.reduceBEq, Nat.reduceLeDiff, Nat.reduceLT, Nat.reduceMul, Nat.reduceSub, Int.reduceEq, Int.reduceLT, Int.reduceLE, Int.reduceNeg, fr_get0, fr_getk, fr_set0, fr_setk, fr_take0, fr_takek, fr_drop0, fr_dropk, fr_le, fr_le0, fr_lt, fr_lt0, fr_lt1, fr_min, fr_mink, fr_beq, fr_beq0, fr_beq1, fr_maxle, fr_refl, fr_z, fr_s, List.append_assoc, List.length_append, Nat.add_assoc, hz', mkB _ _ hD, List.length_replicate, bb_refs, h1, h2, List.append_nil]
/-- A board of slices that are blocks from b on. -/
abbrev ob (b : Nat) (i : ByteArray) (N : List Int) (D W : List Bool) (k s : Int) : List SV := [.str i, .slc b 0 0 N.length, .slc (b + 1) 0 0 D.length, .slc (b + 2) 0 0 W.length, .int .i64 k, .int .i64 s]
theorem s76k (n : Nat) (i : ByteArray) (z1 : Nat) (N : List Int) (f1 : Bool) (z2 : Nat) (D : List Bool) (f2 : Bool) (z3 : Nat) (W : List Bool) (f3 : Bool) (k s : Int) (ok : BdOk z1 N z2 D z3 W) (bl : List SBlk) (es ro) :
    call1 T (n + 2) (.kfn 76) [.agg (bd i z1 N f1 z2 D f2 z3 W f3 k s)] ⟨bl, es, ro⟩ = some (.agg (ob (bl.length + 2) i N D W k s),
      ⟨bl ++ [.box (ob (bl.length + 2) i N D W k s), .box (ob (bl.length + 2) i N D W k s), .arr 0 1 (iS N) false, .arr 0 1 (bbS D) true, .arr 0 1 (bbS W) true],
        es ++ [(bl.length + 1, bl.length + 5), (bl.length, bl.length + 5), (bl.length, bl.length + 4), (bl.length, bl.length + 3)], ro⟩) := by
  refine kcall_in e76 ?_
  have h55 := fun bl es ro => s55k n z1 N f1 ok.h1 ok.hN bl es ro
  have h84 := fun bl es ro => s84 n z2 D f2 ok.h2 ok.hD bl es ro
  have h84' := fun bl es ro => s84 n z3 W f3 ok.h3 ok.hW bl es ro
  have hm : max 0 (max (bl.length + 3) (max (bl.length + 4) (max (bl.length + 5) 0))) = bl.length + 5 := by omega
  simp only [c76, go_sem, Int.cast_ofNat_Int, Int.reduceToNat, Bool.true_xor, Bool.false_xor, Bool.xor_true, Bool.xor_false, Nat.reduceAdd, Nat.reduceBEq, Nat.reduceLeDiff, Nat.reduceLT, Nat.reduceMul, Nat.reduceSub, Int.reduceEq, Int.reduceLT, Int.reduceLE, Int.reduceNeg, fr_get0, fr_getk, fr_set0, fr_setk, fr_take0, fr_takek, fr_drop0, fr_dropk, fr_le, fr_le0, fr_lt, fr_lt0, fr_lt1, fr_min, fr_mink, fr_beq, fr_beq0, fr_beq1, fr_maxle, fr_refl, fr_z, fr_s, List.append_assoc, List.length_append, Nat.add_assoc, h55, h84, h84', hm]
theorem s61k (n : Nat) (i : ByteArray) (z1 : Nat) (N : List Int) (f1 : Bool) (z2 : Nat) (D : List Bool) (f2 : Bool) (z3 : Nat) (W : List Bool) (f3 : Bool) (k s : Int) (ok : BdOk z1 N z2 D z3 W) (bl : List SBlk) (es ro) :
    call1 T (n + 2) (.kfn 61) [.agg (bd i z1 N f1 z2 D f2 z3 W f3 k s)] ⟨bl, es, ro⟩ = some (.agg (ob (bl.length + 2) i N D W k s),
      ⟨bl ++ [.box (ob (bl.length + 2) i N D W k s), .box (ob (bl.length + 2) i N D W k s), .arr 0 1 (iS N) false, .arr 0 1 (bbS D) false, .arr 0 1 (bbS W) false],
        es ++ [(bl.length + 1, bl.length + 5), (bl.length, bl.length + 5), (bl.length, bl.length + 4), (bl.length, bl.length + 3)], ro⟩) := by
  refine kcall_in e61 ?_
  have q1 : ∀ H, rdL 1 H (.lst z1 (iS N) f1) = some (iS N) := fun H => by rcases ok.h1 with rfl | rfl <;> simp [rdL, iS]
  have q2 : ∀ H, rdL 1 H (.lst z2 (bbS D) f2) = some (bbS D) := fun H => by rcases ok.h2 with rfl | rfl <;> simp [rdL, bbS]
  have q3 : ∀ H, rdL 1 H (.lst z3 (bbS W) f3) = some (bbS W) := fun H => by rcases ok.h3 with rfl | rfl <;> simp [rdL, bbS]
  have r1 : decide (N.length * 8 ≤ mostLen) = true := decide_eq_true (Nat.le_trans (show N.length * 8 ≤ 10000 by have := ok.hN; omega) (by decide))
  have r2 : decide (D.length ≤ mostLen) = true := decide_eq_true (Nat.le_trans ok.hD (by decide))
  have r3 : decide (W.length ≤ mostLen) = true := decide_eq_true (Nat.le_trans ok.hW (by decide))
  have hm : max 0 (max (bl.length + 3) (max (bl.length + 4) (max (bl.length + 5) 0))) = bl.length + 5 := by omega
  simp only [c61, go_sem, Int.cast_ofNat_Int, Int.reduceToNat, Bool.true_xor, Bool.false_xor, Bool.xor_true, Bool.xor_false, Nat.reduceAdd, Nat.reduceBEq, Nat.reduceLeDiff, Nat.reduceLT, Nat.reduceMul, Nat.reduceSub, Int.reduceEq, Int.reduceLT, Int.reduceLE, Int.reduceNeg, fr_get0, fr_getk, fr_set0, fr_setk, fr_take0, fr_takek, fr_drop0, fr_dropk, fr_le, fr_le0, fr_lt, fr_lt0, fr_lt1, fr_min, fr_mink, fr_beq, fr_beq0, fr_beq1, fr_maxle, fr_refl, fr_z, fr_s, List.append_assoc, List.length_append, Nat.add_assoc, q1, q2, q3, r1, r2, r3, Nat.mul_one, hm]
end Go.Sh
namespace Go.Sh
set_option linter.unusedSectionVars false
set_option linter.unnecessarySimpa false
set_option linter.unusedVariables false
set_option linter.unusedSimpArgs false
set_option maxRecDepth 100000
set_option maxHeartbeats 4000000
abbrev bdZ : List SV := [.str ⟨#[]⟩, .lst 0 [] true, .lst 0 [] true, .lst 0 [] true, .int .i64 0, .int .i64 0]
theorem bdZ_eq : bd ⟨#[]⟩ 0 [] true 0 [] true 0 [] true 0 0 = bdZ := rfl
/-- Where a node is on a board, if it is. -/
theorem idx_at {q : Int} {N : List Int} (h : ¬ idx1 (fun y => decide (q = y)) N < 0) : ∃ j : Nat, idx1 (fun y => decide (q = y)) N = j ∧ j < N.length := by
  have := idx1_ge (fun y => decide (q = y)) N
  exact ⟨(idx1 (fun y => decide (q = y)) N).toNat, by omega, by omega⟩
variable (n : Nat) (i : ByteArray) (z1 : Nat) (N : List Int) (f1 : Bool) (z2 : Nat) (D : List Bool) (f2 : Bool) (z3 : Nat) (W : List Bool) (f3 : Bool) (k s : Int) (ok : BdOk z1 N z2 D z3 W) (q : Int)
include ok
theorem s59a (hb : bdB i N D W k s = false) (bl : List SBlk) (es ro) :
    ∃ x0 x1, call1 T (n + 4) (.kfn 59) [.agg (bd i z1 N f1 z2 D f2 z3 W f3 k s), .int .i64 q] ⟨bl, es, ro⟩ = some (.tup [.agg bdZ, .int .i64 0, .int .i64 1], ⟨bl ++ [x0, x1], es, ro⟩) := by
  have h26 := fun H => s26' (i := i) (f1 := f1) (f2 := f2) (f3 := f3) (k := k) (s := s) ok n H
  refine ⟨.box (bd i z1 N f1 z2 D f2 z3 W f3 k s), .box bdZ, ?_⟩
  refine kcall_in e59 ?_
  simp only [c59, go_sem, Int.cast_ofNat_Int, Int.reduceToNat, Bool.true_xor, Bool.false_xor, Bool.xor_true, Bool.xor_false, Nat.reduceAdd, Nat.reduceBEq, Nat.reduceLeDiff, Nat.reduceLT, Nat.reduceMul, Nat.reduceSub, Int.reduceEq, Int.reduceLT, Int.reduceLE, Int.reduceNeg, fr_get0, fr_getk, fr_set0, fr_setk, fr_take0, fr_takek, fr_drop0, fr_dropk, fr_le, fr_le0, fr_lt, fr_lt0, fr_lt1, fr_min, fr_mink, fr_beq, fr_beq0, fr_beq1, fr_maxle, fr_refl, fr_z, fr_s, List.append_assoc, List.length_append, Nat.add_assoc, h26, hb]
theorem s59b (hb : bdB i N D W k s = true) (hq : idx1 (fun y => decide (q = y)) N < 0) (bl : List SBlk) (es ro) :
    ∃ x0 x1, call1 T (n + 4) (.kfn 59) [.agg (bd i z1 N f1 z2 D f2 z3 W f3 k s), .int .i64 q] ⟨bl, es, ro⟩ = some (.tup [.agg bdZ, .int .i64 0, .int .i64 7], ⟨bl ++ [x0, x1], es, ro⟩) := by
  have h26 := fun H => s26' (i := i) (f1 := f1) (f2 := f2) (f3 := f3) (k := k) (s := s) ok n H
  have h75 := fun H => s75 (n + 2) H z1 N f1 q ok.h1 ok.hN
  refine ⟨.box (bd i z1 N f1 z2 D f2 z3 W f3 k s), .box bdZ, ?_⟩
  refine kcall_in e59 ?_
  simp only [c59, go_sem, Int.cast_ofNat_Int, Int.reduceToNat, Bool.true_xor, Bool.false_xor, Bool.xor_true, Bool.xor_false, Nat.reduceAdd, Nat.reduceBEq, Nat.reduceLeDiff, Nat.reduceLT, Nat.reduceMul, Nat.reduceSub, Int.reduceEq, Int.reduceLT, Int.reduceLE, Int.reduceNeg, fr_get0, fr_getk, fr_set0, fr_setk, fr_take0, fr_takek, fr_drop0, fr_dropk, fr_le, fr_le0, fr_lt, fr_lt0, fr_lt1, fr_min, fr_mink, fr_beq, fr_beq0, fr_beq1, fr_maxle, fr_refl, fr_z, fr_s, List.append_assoc, List.length_append, Nat.add_assoc, h26, hb, h75, hq]
theorem s59c (hb : bdB i N D W k s = true) (j : Nat) (hq : idx1 (fun y => decide (q = y)) N = j) (bl : List SBlk) (es ro) :
    ∃ x0 x1 x2 x3 es', call1 T (n + 4) (.kfn 59) [.agg (bd i z1 N f1 z2 D f2 z3 W f3 k s), .int .i64 q] ⟨bl, es, ro⟩ = some (.tup [.agg (ob (bl.length + 4) i N D W k s), .int .i64 j, .int .i64 0],
      ⟨bl ++ [x0, x1, x2, x3, .arr 0 1 (iS N) false, .arr 0 1 (bbS D) true, .arr 0 1 (bbS W) true], es', ro⟩) := by
  have h26 := fun H => s26' (i := i) (f1 := f1) (f2 := f2) (f3 := f3) (k := k) (s := s) ok n H
  have h75 := fun H => s75 (n + 2) H z1 N f1 q ok.h1 ok.hN
  have h76 := fun bl es ro => s76k (n + 1) i z1 N f1 z2 D f2 z3 W f3 k s ok bl es ro
  have h0 : decide ((j : Int) < 0) = false := decide_eq_false (by omega)
  refine ⟨.box (bd i z1 N f1 z2 D f2 z3 W f3 k s), .box (ob (bl.length + 4) i N D W k s), .box (ob (bl.length + 4) i N D W k s), .box (ob (bl.length + 4) i N D W k s), ?_⟩
  refine Exists.imp (fun es' h => kcall_in e59 h) ?_
  simp only [c59, go_sem, Int.cast_ofNat_Int, Int.reduceToNat, Bool.true_xor, Bool.false_xor, Bool.xor_true, Bool.xor_false, Nat.reduceAdd, Nat.reduceBEq, Nat.reduceLeDiff, Nat.reduceLT, Nat.reduceMul, Nat.reduceSub, Int.reduceEq, Int.reduceLT, Int.reduceLE, Int.reduceNeg, fr_get0, fr_getk, fr_set0, fr_setk, fr_take0, fr_takek, fr_drop0, fr_dropk, fr_le, fr_le0, fr_lt, fr_lt0, fr_lt1, fr_min, fr_mink, fr_beq, fr_beq0, fr_beq1, fr_maxle, fr_refl, fr_z, fr_s, List.append_assoc, List.length_append, Nat.add_assoc, h26, hb, h75, hq, h0, h76]
  exact ⟨_, rfl⟩
theorem s60 (H : Heap) : call1 T (n + 4) (.fn 60) [.agg (bd i z1 N f1 z2 D f2 z3 W f3 k s), .int .i64 q] H =
    some (bif bdB i N D W k s then (bif decide (idx1 (fun y => decide (q = y)) N < 0) then .tup [.int .i64 0, .int .i64 7] else .tup [.int .i64 (idx1 (fun y => decide (q = y)) N), .int .i64 0]) else .tup [.int .i64 0, .int .i64 1], H) := by
  refine call_pure e60 (by rfl) ?_
  have h27 := fun H => s27' (i := i) (f1 := f1) (f2 := f2) (f3 := f3) (k := k) (s := s) ok n H
  have h77 := fun H => s77 (n + 2) H z1 N f1 q ok.h1 ok.hN
  simp only [c60, heap0, go_sem, Int.cast_ofNat_Int, Int.reduceToNat, Bool.true_xor, Bool.false_xor, Bool.xor_true, Bool.xor_false, Nat.reduceAdd, Nat.reduceBEq, Nat.reduceLeDiff, Nat.reduceLT, Nat.reduceMul, Nat.reduceSub, Int.reduceEq, Int.reduceLT, Int.reduceLE, Int.reduceNeg, h27]
  cases hb : bdB i N D W k s <;> simp only [go_sem, Int.cast_ofNat_Int, Int.reduceToNat, Bool.true_xor, Bool.false_xor, Bool.xor_true, Bool.xor_false, Nat.reduceAdd, Nat.reduceBEq, Nat.reduceLeDiff, Nat.reduceLT, Nat.reduceMul, Nat.reduceSub, Int.reduceEq, Int.reduceLT, Int.reduceLE, Int.reduceNeg, h77]
  cases h0 : decide (idx1 (fun y => decide (q = y)) N < 0) <;> simp only [go_sem, Int.cast_ofNat_Int, Int.reduceToNat, Bool.true_xor, Bool.false_xor, Bool.xor_true, Bool.xor_false, Nat.reduceAdd, Nat.reduceBEq, Nat.reduceLeDiff, Nat.reduceLT, Nat.reduceMul, Nat.reduceSub, Int.reduceEq, Int.reduceLT, Int.reduceLE, Int.reduceNeg, h0]
/-- The board behind a report, of the flags' fullness g. -/
def rpV (g : Bool) (x : ByteArray) : SV :=
  bif bdB i N D W k s then (bif decide (idx1 (fun y => decide (q = y)) N < 0) then .tup [.agg bdZ, .int .i64 7]
    else .tup [.agg (bd i 1 N false 1 (D.set (idx1 (fun y => decide (q = y)) N).toNat (decide (x = i))) g 1 W g k s), .int .i64 0]) else .tup [.agg bdZ, .int .i64 1]
omit ok in
theorem bb_set (D : List Bool) (j : Nat) (b : Bool) : (bbS D).set j [.bool b] = bbS (D.set j b) := by simp [bbS, List.map_set]
omit ok in
theorem bdB_len (hb : bdB i N D W k s = true) : D.length = N.length ∧ W.length = N.length ∧ 0 < N.length := by
  unfold bdB lsB at hb
  simp only [Bool.and_eq_true, decide_eq_true_eq] at hb
  omega
omit ok in
theorem fz_i (L : List Int) (N : Nat) (H d v m e) (hn : L.length = m) : fzB N H (d + 1) v 0 m (some (.arr v 1 (iS L) e)) = some (.lst 1 (iS L) e) := Still.fz (Still.ints L) N H d v m 1 e (by rw [iS_len]; exact hn)
omit ok in
theorem fz_b (D : List Bool) (N : Nat) (H d v m e) (hn : D.length = m) : fzB N H (d + 1) v 0 m (some (.arr v 1 (bbS D) e)) = some (.lst 1 (bbS D) e) := Still.fz (bb_still D) N H d v m 1 e (by rw [bbS_len]; exact hn)
omit ok in
theorem drop1 {A : Type} (a : A) : List.drop 1 [a] = [] := rfl
theorem s32 (x : ByteArray) (H : Heap) : call1 T (n + 5) (.fn 32) [.agg (bd i z1 N f1 z2 D f2 z3 W f3 k s), .int .i64 q, .str x] H = some (rpV i N D W k s q true x, H) := by
  refine call_pure e32 (by rfl) ?_
  unfold rpV
  cases hb : bdB i N D W k s with
  | false =>
    obtain ⟨x0, x1, h59⟩ := s59a n i z1 N f1 z2 D f2 z3 W f3 k s ok q hb [.box (bd i z1 N f1 z2 D f2 z3 W f3 k s), .box bdZ] [] 0
    simp only [c32, heap0, go_sem, Int.cast_ofNat_Int, Int.reduceToNat, Bool.true_xor, Bool.false_xor, Bool.xor_true, Bool.xor_false, Nat.reduceAdd, Nat.reduceBEq, Nat.reduceLeDiff, Nat.reduceLT, Nat.reduceMul, Nat.reduceSub, Int.reduceEq, Int.reduceLT, Int.reduceLE, Int.reduceNeg, h59, List.cons_append, List.nil_append]
  | true =>
    cases h0 : decide (idx1 (fun y => decide (q = y)) N < 0) with
    | true =>
      obtain ⟨x0, x1, h59⟩ := s59b n i z1 N f1 z2 D f2 z3 W f3 k s ok q hb (by simpa using h0) [.box (bd i z1 N f1 z2 D f2 z3 W f3 k s), .box bdZ] [] 0
      simp only [c32, heap0, go_sem, Int.cast_ofNat_Int, Int.reduceToNat, Bool.true_xor, Bool.false_xor, Bool.xor_true, Bool.xor_false, Nat.reduceAdd, Nat.reduceBEq, Nat.reduceLeDiff, Nat.reduceLT, Nat.reduceMul, Nat.reduceSub, Int.reduceEq, Int.reduceLT, Int.reduceLE, Int.reduceNeg, h59, List.cons_append, List.nil_append]
    | false =>
      obtain ⟨j, hj, hlt⟩ := idx_at (by simpa using h0)
      obtain ⟨x0, x1, x2, x3, es', h59⟩ := s59c n i z1 N f1 z2 D f2 z3 W f3 k s ok q hb j hj [.box (bd i z1 N f1 z2 D f2 z3 W f3 k s), .box bdZ] [] 0
      obtain ⟨l1, l2, l3⟩ := bdB_len _ _ _ _ _ _ hb
      have hlt2 : j < D.length := by omega
      obtain ⟨y, hy⟩ := getS hlt2
      have g1 := fun Hp d => fz_i N 0 Hp d 0 N.length false rfl
      have g2 := fun Hp d => fz_b (D.set j (decide (x = i))) 0 Hp d 0 D.length true (by simp)
      have g3 := fun Hp d => fz_b W 0 Hp d 0 W.length true rfl
      simp only [c32, heap0, go_sem, Int.cast_ofNat_Int, Int.reduceToNat, Bool.true_xor, Bool.false_xor, Bool.xor_true, Bool.xor_false, Nat.reduceAdd, Nat.reduceBEq, Nat.reduceLeDiff, Nat.reduceLT, Nat.reduceMul, Nat.reduceSub, Int.reduceEq, Int.reduceLT, Int.reduceLE, Int.reduceNeg, h59, hlt2, List.cons_append, List.nil_append, bb_set, hj, Int.toNat_natCast, hy, drop1, g1, g2, g3]
end Go.Sh
namespace Go.Sh
set_option linter.unusedSectionVars false
set_option linter.unnecessarySimpa false
set_option linter.unusedVariables false
set_option linter.unusedSimpArgs false
set_option maxRecDepth 100000
set_option maxHeartbeats 4000000
variable (n : Nat) (i : ByteArray) (z1 : Nat) (N : List Int) (f1 : Bool) (z2 : Nat) (D : List Bool) (f2 : Bool) (z3 : Nat) (W : List Bool) (f3 : Bool) (k s : Int) (ok : BdOk z1 N z2 D z3 W) (q : Int)
include ok
theorem s33 (x : ByteArray) (H : Heap) : call1 T (n + 5) (.fn 33) [.agg (bd i z1 N f1 z2 D f2 z3 W f3 k s), .int .i64 q, .str x] H = some (rpV i N D W k s q false x, H) := by
  refine call_pure e33 (by rfl) ?_
  unfold rpV
  have h60 := fun H => s60 n i z1 N f1 z2 D f2 z3 W f3 k s ok q H
  simp only [c33, heap0, go_sem, Int.cast_ofNat_Int, Int.reduceToNat, Bool.true_xor, Bool.false_xor, Bool.xor_true, Bool.xor_false, Nat.reduceAdd, Nat.reduceBEq, Nat.reduceLeDiff, Nat.reduceLT, Nat.reduceMul, Nat.reduceSub, Int.reduceEq, Int.reduceLT, Int.reduceLE, Int.reduceNeg, h60]
  cases hb : bdB i N D W k s with
  | false => simp only [go_sem, Int.cast_ofNat_Int, Int.reduceToNat, Bool.true_xor, Bool.false_xor, Bool.xor_true, Bool.xor_false, Nat.reduceAdd, Nat.reduceBEq, Nat.reduceLeDiff, Nat.reduceLT, Nat.reduceMul, Nat.reduceSub, Int.reduceEq, Int.reduceLT, Int.reduceLE, Int.reduceNeg]
  | true =>
    cases h0 : decide (idx1 (fun y => decide (q = y)) N < 0) with
    | true => simp only [go_sem, Int.cast_ofNat_Int, Int.reduceToNat, Bool.true_xor, Bool.false_xor, Bool.xor_true, Bool.xor_false, Nat.reduceAdd, Nat.reduceBEq, Nat.reduceLeDiff, Nat.reduceLT, Nat.reduceMul, Nat.reduceSub, Int.reduceEq, Int.reduceLT, Int.reduceLE, Int.reduceNeg, h0]
    | false =>
      obtain ⟨j, hj, hlt⟩ := idx_at (by simpa using h0)
      have h61 := s61k (n + 2) i z1 N f1 z2 D f2 z3 W f3 k s ok [.box (bd i z1 N f1 z2 D f2 z3 W f3 k s), .box bdZ] [] 0
      obtain ⟨l1, l2, l3⟩ := bdB_len _ _ _ _ _ _ hb
      have hlt2 : j < D.length := by omega
      obtain ⟨y, hy⟩ := getS hlt2
      have g1 := fun Hp d => fz_i N 0 Hp d 0 N.length false rfl
      have g2 := fun Hp d => fz_b (D.set j (decide (x = i))) 0 Hp d 0 D.length false (by simp)
      have g3 := fun Hp d => fz_b W 0 Hp d 0 W.length false rfl
      simp only [go_sem, Int.cast_ofNat_Int, Int.reduceToNat, Bool.true_xor, Bool.false_xor, Bool.xor_true, Bool.xor_false, Nat.reduceAdd, Nat.reduceBEq, Nat.reduceLeDiff, Nat.reduceLT, Nat.reduceMul, Nat.reduceSub, Int.reduceEq, Int.reduceLT, Int.reduceLE, Int.reduceNeg, h0, h61, hlt2, List.cons_append, List.nil_append, List.length_cons, List.length_nil, bb_set, hj, Int.toNat_natCast, hy, drop1, g1, g2, g3]
/-- The board behind an acknowledgement. -/
def akV (g : Bool) (m : Int) : SV :=
  bif bdB i N D W k s then (bif decide (idx1 (fun y => decide (q = y)) N < 0) then .tup [.agg bdZ, .int .i64 7]
    else .tup [.agg (bd i 1 N false 1 D g 1 (bif decide (m = k) && decide (0 < m) then W.set (idx1 (fun y => decide (q = y)) N).toNat true else W) g k s), .int .i64 0]) else .tup [.agg bdZ, .int .i64 1]
theorem s34 (m : Int) (H : Heap) : call1 T (n + 5) (.fn 34) [.agg (bd i z1 N f1 z2 D f2 z3 W f3 k s), .int .i64 q, .int .i64 m] H = some (akV i N D W k s q true m, H) := by
  refine call_pure e34 (by rfl) ?_
  unfold akV
  cases hb : bdB i N D W k s with
  | false =>
    obtain ⟨x0, x1, h59⟩ := s59a n i z1 N f1 z2 D f2 z3 W f3 k s ok q hb [.box (bd i z1 N f1 z2 D f2 z3 W f3 k s), .box bdZ] [] 0
    simp only [c34, heap0, go_sem, Int.cast_ofNat_Int, Int.reduceToNat, Bool.true_xor, Bool.false_xor, Bool.xor_true, Bool.xor_false, Nat.reduceAdd, Nat.reduceBEq, Nat.reduceLeDiff, Nat.reduceLT, Nat.reduceMul, Nat.reduceSub, Int.reduceEq, Int.reduceLT, Int.reduceLE, Int.reduceNeg, h59, List.cons_append, List.nil_append]
  | true =>
    cases h0 : decide (idx1 (fun y => decide (q = y)) N < 0) with
    | true =>
      obtain ⟨x0, x1, h59⟩ := s59b n i z1 N f1 z2 D f2 z3 W f3 k s ok q hb (by simpa using h0) [.box (bd i z1 N f1 z2 D f2 z3 W f3 k s), .box bdZ] [] 0
      simp only [c34, heap0, go_sem, Int.cast_ofNat_Int, Int.reduceToNat, Bool.true_xor, Bool.false_xor, Bool.xor_true, Bool.xor_false, Nat.reduceAdd, Nat.reduceBEq, Nat.reduceLeDiff, Nat.reduceLT, Nat.reduceMul, Nat.reduceSub, Int.reduceEq, Int.reduceLT, Int.reduceLE, Int.reduceNeg, h59, List.cons_append, List.nil_append]
    | false =>
      obtain ⟨j, hj, hlt⟩ := idx_at (by simpa using h0)
      obtain ⟨x0, x1, x2, x3, es', h59⟩ := s59c n i z1 N f1 z2 D f2 z3 W f3 k s ok q hb j hj [.box (bd i z1 N f1 z2 D f2 z3 W f3 k s), .box bdZ] [] 0
      obtain ⟨l1, l2, l3⟩ := bdB_len _ _ _ _ _ _ hb
      have hlt2 : j < W.length := by omega
      obtain ⟨y, hy⟩ := getS hlt2
      have g1 := fun Hp d => fz_i N 0 Hp d 0 N.length false rfl
      have g2 := fun Hp d => fz_b D 0 Hp d 0 D.length true rfl
      have g3 := fun Hp d => fz_b W 0 Hp d 0 W.length true rfl
      have g4 := fun Hp d => fz_b (W.set j true) 0 Hp d 0 W.length true (by simp)
      simp only [c34, heap0, go_sem, Int.cast_ofNat_Int, Int.reduceToNat, Bool.true_xor, Bool.false_xor, Bool.xor_true, Bool.xor_false, Nat.reduceAdd, Nat.reduceBEq, Nat.reduceLeDiff, Nat.reduceLT, Nat.reduceMul, Nat.reduceSub, Int.reduceEq, Int.reduceLT, Int.reduceLE, Int.reduceNeg, h59, hlt2, List.cons_append, List.nil_append, hj, Int.toNat_natCast]
      cases c1 : decide (m = k) <;> simp only [go_sem, Int.cast_ofNat_Int, Int.reduceToNat, Bool.true_xor, Bool.false_xor, Bool.xor_true, Bool.xor_false, Nat.reduceAdd, Nat.reduceBEq, Nat.reduceLeDiff, Nat.reduceLT, Nat.reduceMul, Nat.reduceSub, Int.reduceEq, Int.reduceLT, Int.reduceLE, Int.reduceNeg, c1, hlt2, bb_set, hy, drop1, g1, g2, g3, g4]
      cases c2 : decide (0 < m) <;> simp only [go_sem, Int.cast_ofNat_Int, Int.reduceToNat, Bool.true_xor, Bool.false_xor, Bool.xor_true, Bool.xor_false, Nat.reduceAdd, Nat.reduceBEq, Nat.reduceLeDiff, Nat.reduceLT, Nat.reduceMul, Nat.reduceSub, Int.reduceEq, Int.reduceLT, Int.reduceLE, Int.reduceNeg, c1, c2, hlt2, bb_set, hy, drop1, g1, g2, g3, g4]
theorem s35 (m : Int) (H : Heap) : call1 T (n + 5) (.fn 35) [.agg (bd i z1 N f1 z2 D f2 z3 W f3 k s), .int .i64 q, .int .i64 m] H = some (akV i N D W k s q false m, H) := by
  refine call_pure e35 (by rfl) ?_
  unfold akV
  have h60 := fun H => s60 n i z1 N f1 z2 D f2 z3 W f3 k s ok q H
  simp only [c35, heap0, go_sem, Int.cast_ofNat_Int, Int.reduceToNat, Bool.true_xor, Bool.false_xor, Bool.xor_true, Bool.xor_false, Nat.reduceAdd, Nat.reduceBEq, Nat.reduceLeDiff, Nat.reduceLT, Nat.reduceMul, Nat.reduceSub, Int.reduceEq, Int.reduceLT, Int.reduceLE, Int.reduceNeg, h60]
  cases hb : bdB i N D W k s with
  | false => simp only [go_sem, Int.cast_ofNat_Int, Int.reduceToNat, Bool.true_xor, Bool.false_xor, Bool.xor_true, Bool.xor_false, Nat.reduceAdd, Nat.reduceBEq, Nat.reduceLeDiff, Nat.reduceLT, Nat.reduceMul, Nat.reduceSub, Int.reduceEq, Int.reduceLT, Int.reduceLE, Int.reduceNeg]
  | true =>
    cases h0 : decide (idx1 (fun y => decide (q = y)) N < 0) with
    | true => simp only [go_sem, Int.cast_ofNat_Int, Int.reduceToNat, Bool.true_xor, Bool.false_xor, Bool.xor_true, Bool.xor_false, Nat.reduceAdd, Nat.reduceBEq, Nat.reduceLeDiff, Nat.reduceLT, Nat.reduceMul, Nat.reduceSub, Int.reduceEq, Int.reduceLT, Int.reduceLE, Int.reduceNeg, h0]
    | false =>
      obtain ⟨j, hj, hlt⟩ := idx_at (by simpa using h0)
      have h61 := s61k (n + 2) i z1 N f1 z2 D f2 z3 W f3 k s ok [.box (bd i z1 N f1 z2 D f2 z3 W f3 k s), .box bdZ] [] 0
      obtain ⟨l1, l2, l3⟩ := bdB_len _ _ _ _ _ _ hb
      have hlt2 : j < W.length := by omega
      obtain ⟨y, hy⟩ := getS hlt2
      have g1 := fun Hp d => fz_i N 0 Hp d 0 N.length false rfl
      have g2 := fun Hp d => fz_b D 0 Hp d 0 D.length false rfl
      have g3 := fun b Hp d => fz_b (W.set j b) 0 Hp d 0 W.length false (by simp)
      have hW : ∀ b, b = y → W.set j b = W := fun b e => by
        subst e
        obtain ⟨h1, h2⟩ := List.getElem?_eq_some_iff.1 hy
        rw [← h2]; simp
      have key : (bif decide (m = k) && decide (0 < m) then W.set j true else W) = W.set j (y || decide (0 < k) && decide (m = k)) := by
        by_cases c1 : m = k
        · subst c1
          cases y with
          | true => rw [Bool.true_or, hW true rfl]; simp
          | false =>
            by_cases c2 : 0 < m
            · simp [c2]
            · simp [c2, hW false rfl]
        · have : decide (m = k) = false := decide_eq_false c1
          rw [this]
          simp [hW y rfl]
      simp only [go_sem, Int.cast_ofNat_Int, Int.reduceToNat, Bool.true_xor, Bool.false_xor, Bool.xor_true, Bool.xor_false, Nat.reduceAdd, Nat.reduceBEq, Nat.reduceLeDiff, Nat.reduceLT, Nat.reduceMul, Nat.reduceSub, Int.reduceEq, Int.reduceLT, Int.reduceLE, Int.reduceNeg, h0, h61, hlt2, List.cons_append, List.nil_append, List.length_cons, List.length_nil, hj, Int.toNat_natCast, key, hy]
      cases y <;> simp only [go_sem, Int.cast_ofNat_Int, Int.reduceToNat, Bool.true_xor, Bool.false_xor, Bool.xor_true, Bool.xor_false, Nat.reduceAdd, Nat.reduceBEq, Nat.reduceLeDiff, Nat.reduceLT, Nat.reduceMul, Nat.reduceSub, Int.reduceEq, Int.reduceLT, Int.reduceLE, Int.reduceNeg, h61, hlt2, bb_set, hy, drop1, g1, g2, g3]
      cases c1 : decide (0 < k) <;> simp only [go_sem, Int.cast_ofNat_Int, Int.reduceToNat, Bool.true_xor, Bool.false_xor, Bool.xor_true, Bool.xor_false, Nat.reduceAdd, Nat.reduceBEq, Nat.reduceLeDiff, Nat.reduceLT, Nat.reduceMul, Nat.reduceSub, Int.reduceEq, Int.reduceLT, Int.reduceLE, Int.reduceNeg, c1, hlt2, bb_set, hy, drop1, g1, g2, g3]
end Go.Sh
namespace Go.Sh
set_option linter.unusedSectionVars false
set_option linter.unnecessarySimpa false
set_option linter.unusedVariables false
set_option linter.unusedSimpArgs false
set_option maxRecDepth 100000
set_option maxHeartbeats 4000000
theorem s55s (n : Nat) (N : List Int) (hN : N.length ≤ 1000) (h0 : 0 < N.length) (x0 x1 x2 x3 x4 x6 x7 x8 : SBlk) : call1 T (n + 1) (.fn 55) [.slc 5 0 0 N.length] ⟨[x0, x1, x2, x3, x4, .arr 0 1 (iS N) false, x6, x7, x8], [], 9⟩ = some (.lst 1 (iS N) false, ⟨[x0, x1, x2, x3, x4, .arr 0 1 (iS N) false, x6, x7, x8], [], 9⟩) := by
  refine call_in e55 (by rfl) ?_
  have h1 : (N.length == 0) = false := by simpa using Nat.pos_iff_ne_zero.1 h0
  have h2 : decide (N.length * 8 ≤ mostLen) = true := decide_eq_true (Nat.le_trans (show N.length * 8 ≤ 10000 by omega) (by decide))
  have h3 : ∀ (x : SBlk), (List.take N.length (iS N)) = iS N := fun _ => by rw [← iS_len (W := N)]; exact List.take_length
  obtain ⟨a, l, hl⟩ : ∃ a l, iS N = a :: l := by
    cases N with
    | nil => simp at h0
    | cons a l => exact ⟨_, _, rfl⟩
  have g1 := fun Hp d => fz_i N 9 Hp d 0 N.length false rfl
  simp only [c55, go_sem, Int.cast_ofNat_Int, Int.reduceToNat, Bool.true_xor, Bool.false_xor, Bool.xor_true, Bool.xor_false, Nat.reduceAdd, Nat.reduceBEq, Nat.reduceLeDiff, Nat.reduceLT, Nat.reduceMul, Nat.reduceSub, Int.reduceEq, Int.reduceLT, Int.reduceLE, Int.reduceNeg, h1, h2, h3 .dead, g1]
variable (n : Nat) (i : ByteArray) (z1 : Nat) (N : List Int) (f1 : Bool) (z2 : Nat) (D : List Bool) (f2 : Bool) (z3 : Nat) (W : List Bool) (f3 : Bool) (k s : Int) (ok : BdOk z1 N z2 D z3 W)
abbrev cmZ : List SV := [.int .i64 0, .int .i64 0, .int .i64 0, .str ⟨#[]⟩, .lst 0 [] true]
/-- The board behind a command, and the command. -/
def sdV (g : Bool) (d t : Int) : SV :=
  bif decide (k = 1048576) then .tup [.agg bdZ, .agg cmZ, .int .i64 13]
  else .tup [.agg (bd i 1 N false 1 D g 1 (List.replicate W.length false) true (w64 (k + 1)) t), .agg (cm (w64 (k + 1)) d t i 1 N false), .int .i64 0]
include ok
theorem s62 (h0 : 0 < N.length) (d t : Int) (H : Heap) : call1 T (n + 5) (.fn 62) [.agg (bd i z1 N f1 z2 D f2 z3 W f3 k s), .int .i64 d, .int .i64 t] H = some (sdV i N D W k true d t, H) := by
  refine call_pure e62 (by rfl) ?_
  unfold sdV
  cases hk : decide (k = 1048576) with
  | true => simp only [c62, heap0, go_sem, Int.cast_ofNat_Int, Int.reduceToNat, Bool.true_xor, Bool.false_xor, Bool.xor_true, Bool.xor_false, Nat.reduceAdd, Nat.reduceBEq, Nat.reduceLeDiff, Nat.reduceLT, Nat.reduceMul, Nat.reduceSub, Int.reduceEq, Int.reduceLT, Int.reduceLE, Int.reduceNeg, hk]
  | false =>
    have h76 := s76k (n + 2) i z1 N f1 z2 D f2 z3 W f3 k s ok [.box (bd i z1 N f1 z2 D f2 z3 W f3 k s), .box bdZ, .box cmZ] [] 0
    have h55 := fun x0 x1 x2 x3 x4 x6 x7 x8 => s55s (n + 3) N ok.hN h0 x0 x1 x2 x3 x4 x6 x7 x8
    have hd : List.drop W.length (bbS W) = [] := by rw [← bbS_len (D := W)]; exact List.drop_length
    have g1 := fun Hp d => fz_i N 0 Hp d 0 N.length false rfl
    have g2 := fun Hp d => fz_b D 0 Hp d 0 D.length true rfl
    have g3 := fun Hp d => fz_b (List.replicate W.length false) 0 Hp d 0 W.length true (by simp)
    have hm : max 0 (max 6 (max 7 (max 8 0))) = 8 := rfl
    simp only [c62, heap0, go_sem, Int.cast_ofNat_Int, Int.reduceToNat, Bool.true_xor, Bool.false_xor, Bool.xor_true, Bool.xor_false, Nat.reduceAdd, Nat.reduceBEq, Nat.reduceLeDiff, Nat.reduceLT, Nat.reduceMul, Nat.reduceSub, Int.reduceEq, Int.reduceLT, Int.reduceLE, Int.reduceNeg, hm, hk, h76, List.cons_append, List.nil_append, List.length_cons, List.length_nil, hd, List.append_nil, bb_rep, h55, g1, g2, g3]
theorem s63 (d t : Int) (hlen : W.length = N.length) (H : Heap) : call1 T (n + 5) (.fn 63) [.agg (bd i z1 N f1 z2 D f2 z3 W f3 k s), .int .i64 d, .int .i64 t] H = some (sdV i N D W k false d t, H) := by
  refine call_pure e63 (by rfl) ?_
  unfold sdV
  cases hk : decide (k = 1048576) with
  | true => simp only [c63, heap0, go_sem, Int.cast_ofNat_Int, Int.reduceToNat, Bool.true_xor, Bool.false_xor, Bool.xor_true, Bool.xor_false, Nat.reduceAdd, Nat.reduceBEq, Nat.reduceLeDiff, Nat.reduceLT, Nat.reduceMul, Nat.reduceSub, Int.reduceEq, Int.reduceLT, Int.reduceLE, Int.reduceNeg, hk]
  | false =>
    have h61 := s61k (n + 2) i z1 N f1 z2 D f2 z3 W f3 k s ok [.box (bd i z1 N f1 z2 D f2 z3 W f3 k s), .box bdZ, .box cmZ] [] 0
    have g1 := fun Hp d => fz_i N 0 Hp d 0 N.length false rfl
    have g2 := fun Hp d => fz_b D 0 Hp d 0 D.length false rfl
    have g3 := fun Hp d => fz_b (List.replicate N.length false) 0 Hp d 0 N.length true (by simp)
    have r1 : decide (N.length * 8 ≤ mostLen) = true := decide_eq_true (Nat.le_trans (show N.length * 8 ≤ 10000 by have := ok.hN; omega) (by decide))
    have h3 : ∀ (x : SBlk), (List.take N.length (iS N)) = iS N := fun _ => by rw [← iS_len (W := N)]; exact List.take_length
    rw [hlen]
    have hm : max 0 (max 6 (max 7 (max 8 0))) = 8 := rfl
    have hm2 : max 0 (max 6 (max 7 (max 9 0))) = 9 := rfl
    simp only [c63, heap0, go_sem, Int.cast_ofNat_Int, Int.reduceToNat, Bool.true_xor, Bool.false_xor, Bool.xor_true, Bool.xor_false, Nat.reduceAdd, Nat.reduceBEq, Nat.reduceLeDiff, Nat.reduceLT, Nat.reduceMul, Nat.reduceSub, Int.reduceEq, Int.reduceLT, Int.reduceLE, Int.reduceNeg, hm, hm2, hk, h61, List.cons_append, List.nil_append, List.length_cons, List.length_nil, mkB _ _ ok.hN, List.append_nil, bb_rep, r1, h3 .dead, g1, g2, g3]
end Go.Sh
namespace Go.Sh
set_option linter.unusedSectionVars false
set_option linter.unnecessarySimpa false
set_option linter.unusedVariables false
set_option linter.unusedSimpArgs false
set_option maxRecDepth 100000
set_option maxHeartbeats 4000000
variable (n : Nat) (i : ByteArray) (z1 : Nat) (N : List Int) (f1 : Bool) (z2 : Nat) (D : List Bool) (f2 : Bool) (z3 : Nat) (W : List Bool) (f3 : Bool) (k s : Int) (ok : BdOk z1 N z2 D z3 W)
def orV (g : Bool) (t : Int) : SV :=
  bif !bdB i N D W k s then .tup [.agg bdZ, .agg cmZ, .int .i64 1] else bif hasB false D then .tup [.agg bdZ, .agg cmZ, .int .i64 12]
  else bif decide (t < 1) || decide (1073741824 < t) then .tup [.agg bdZ, .agg cmZ, .int .i64 2] else sdV i N D W k g 1 t
def wdV (g : Bool) : SV :=
  bif !bdB i N D W k s then .tup [.agg bdZ, .agg cmZ, .int .i64 1] else bif decide (s = 0) then .tup [.agg bdZ, .agg cmZ, .int .i64 12] else sdV i N D W k g 2 0
/-- What a command leaves, whatever it is. -/
theorem sdV_cases (g : Bool) (d t : Int) : ∃ u v e, sdV i N D W k g d t = .tup [.agg u, .agg v, .int .i64 e] ∧ u.length = 6 ∧ v.length = 5 := by
  unfold sdV
  cases decide (k = 1048576)
  · exact ⟨_, _, _, rfl, rfl, rfl⟩
  · exact ⟨_, _, _, rfl, rfl, rfl⟩
include ok
theorem s36 (t : Int) (H : Heap) : call1 T (n + 6) (.fn 36) [.agg (bd i z1 N f1 z2 D f2 z3 W f3 k s), .int .i64 t] H = some (orV i N D W k s true t, H) := by
  refine call_pure e36 (by rfl) ?_
  unfold orV
  have h26 := fun H => s26' (i := i) (f1 := f1) (f2 := f2) (f3 := f3) (k := k) (s := s) ok (n + 2) H
  have h28 := fun H => s28 (i := i) (f1 := f1) (f2 := f2) (f3 := f3) (k := k) (s := s) ok (n + 1) H
  simp only [c36, heap0, go_sem, Int.cast_ofNat_Int, Int.reduceToNat, Bool.true_xor, Bool.false_xor, Bool.xor_true, Bool.xor_false, Nat.reduceAdd, Nat.reduceBEq, Nat.reduceLeDiff, Nat.reduceLT, Nat.reduceMul, Nat.reduceSub, Int.reduceEq, Int.reduceLT, Int.reduceLE, Int.reduceNeg, h26]
  cases hb : bdB i N D W k s with
  | false => simp only [go_sem, Int.cast_ofNat_Int, Int.reduceToNat, Bool.true_xor, Bool.false_xor, Bool.xor_true, Bool.xor_false, Nat.reduceAdd, Nat.reduceBEq, Nat.reduceLeDiff, Nat.reduceLT, Nat.reduceMul, Nat.reduceSub, Int.reduceEq, Int.reduceLT, Int.reduceLE, Int.reduceNeg]
  | true =>
    obtain ⟨l1, l2, l3⟩ := bdB_len _ _ _ _ _ _ hb
    have h62 := fun H => s62 n i z1 N f1 z2 D f2 z3 W f3 k s ok l3 1 t H
    simp only [go_sem, Int.cast_ofNat_Int, Int.reduceToNat, Bool.true_xor, Bool.false_xor, Bool.xor_true, Bool.xor_false, Nat.reduceAdd, Nat.reduceBEq, Nat.reduceLeDiff, Nat.reduceLT, Nat.reduceMul, Nat.reduceSub, Int.reduceEq, Int.reduceLT, Int.reduceLE, Int.reduceNeg, h28, hb]
    cases hd : hasB false D with
    | true => simp only [go_sem, Int.cast_ofNat_Int, Int.reduceToNat, Bool.true_xor, Bool.false_xor, Bool.xor_true, Bool.xor_false, Nat.reduceAdd, Nat.reduceBEq, Nat.reduceLeDiff, Nat.reduceLT, Nat.reduceMul, Nat.reduceSub, Int.reduceEq, Int.reduceLT, Int.reduceLE, Int.reduceNeg]
    | false =>
      simp only [go_sem, Int.cast_ofNat_Int, Int.reduceToNat, Bool.true_xor, Bool.false_xor, Bool.xor_true, Bool.xor_false, Nat.reduceAdd, Nat.reduceBEq, Nat.reduceLeDiff, Nat.reduceLT, Nat.reduceMul, Nat.reduceSub, Int.reduceEq, Int.reduceLT, Int.reduceLE, Int.reduceNeg]
      cases h1 : decide (t < 1) <;> simp only [go_sem, Int.cast_ofNat_Int, Int.reduceToNat, Bool.true_xor, Bool.false_xor, Bool.xor_true, Bool.xor_false, Nat.reduceAdd, Nat.reduceBEq, Nat.reduceLeDiff, Nat.reduceLT, Nat.reduceMul, Nat.reduceSub, Int.reduceEq, Int.reduceLT, Int.reduceLE, Int.reduceNeg, h1]
      cases h2 : decide (1073741824 < t) <;> simp only [go_sem, Int.cast_ofNat_Int, Int.reduceToNat, Bool.true_xor, Bool.false_xor, Bool.xor_true, Bool.xor_false, Nat.reduceAdd, Nat.reduceBEq, Nat.reduceLeDiff, Nat.reduceLT, Nat.reduceMul, Nat.reduceSub, Int.reduceEq, Int.reduceLT, Int.reduceLE, Int.reduceNeg, h1, h2, h62]
      unfold sdV
      cases hk : decide (k = 1048576) <;> simp only [go_sem, Int.cast_ofNat_Int, Int.reduceToNat, Bool.true_xor, Bool.false_xor, Bool.xor_true, Bool.xor_false, Nat.reduceAdd, Nat.reduceBEq, Nat.reduceLeDiff, Nat.reduceLT, Nat.reduceMul, Nat.reduceSub, Int.reduceEq, Int.reduceLT, Int.reduceLE, Int.reduceNeg]
theorem s37 (t : Int) (H : Heap) : call1 T (n + 6) (.fn 37) [.agg (bd i z1 N f1 z2 D f2 z3 W f3 k s), .int .i64 t] H = some (orV i N D W k s false t, H) := by
  refine call_pure e37 (by rfl) ?_
  unfold orV
  have h27 := fun H => s27' (i := i) (f1 := f1) (f2 := f2) (f3 := f3) (k := k) (s := s) ok (n + 2) H
  have h29 := fun H => s29 (i := i) (f1 := f1) (f2 := f2) (f3 := f3) (k := k) (s := s) ok (n + 1) H
  simp only [c37, heap0, go_sem, Int.cast_ofNat_Int, Int.reduceToNat, Bool.true_xor, Bool.false_xor, Bool.xor_true, Bool.xor_false, Nat.reduceAdd, Nat.reduceBEq, Nat.reduceLeDiff, Nat.reduceLT, Nat.reduceMul, Nat.reduceSub, Int.reduceEq, Int.reduceLT, Int.reduceLE, Int.reduceNeg, h27]
  cases hb : bdB i N D W k s with
  | false => simp only [go_sem, Int.cast_ofNat_Int, Int.reduceToNat, Bool.true_xor, Bool.false_xor, Bool.xor_true, Bool.xor_false, Nat.reduceAdd, Nat.reduceBEq, Nat.reduceLeDiff, Nat.reduceLT, Nat.reduceMul, Nat.reduceSub, Int.reduceEq, Int.reduceLT, Int.reduceLE, Int.reduceNeg]
  | true =>
    obtain ⟨l1, l2, l3⟩ := bdB_len _ _ _ _ _ _ hb
    have h63 := fun H => s63 n i z1 N f1 z2 D f2 z3 W f3 k s ok 1 t l2 H
    simp only [go_sem, Int.cast_ofNat_Int, Int.reduceToNat, Bool.true_xor, Bool.false_xor, Bool.xor_true, Bool.xor_false, Nat.reduceAdd, Nat.reduceBEq, Nat.reduceLeDiff, Nat.reduceLT, Nat.reduceMul, Nat.reduceSub, Int.reduceEq, Int.reduceLT, Int.reduceLE, Int.reduceNeg, h29, hb]
    cases hd : hasB false D with
    | true => simp only [go_sem, Int.cast_ofNat_Int, Int.reduceToNat, Bool.true_xor, Bool.false_xor, Bool.xor_true, Bool.xor_false, Nat.reduceAdd, Nat.reduceBEq, Nat.reduceLeDiff, Nat.reduceLT, Nat.reduceMul, Nat.reduceSub, Int.reduceEq, Int.reduceLT, Int.reduceLE, Int.reduceNeg]
    | false =>
      simp only [go_sem, Int.cast_ofNat_Int, Int.reduceToNat, Bool.true_xor, Bool.false_xor, Bool.xor_true, Bool.xor_false, Nat.reduceAdd, Nat.reduceBEq, Nat.reduceLeDiff, Nat.reduceLT, Nat.reduceMul, Nat.reduceSub, Int.reduceEq, Int.reduceLT, Int.reduceLE, Int.reduceNeg]
      cases h1 : decide (t < 1) <;> simp only [go_sem, Int.cast_ofNat_Int, Int.reduceToNat, Bool.true_xor, Bool.false_xor, Bool.xor_true, Bool.xor_false, Nat.reduceAdd, Nat.reduceBEq, Nat.reduceLeDiff, Nat.reduceLT, Nat.reduceMul, Nat.reduceSub, Int.reduceEq, Int.reduceLT, Int.reduceLE, Int.reduceNeg, h1]
      cases h2 : decide (1073741824 < t) <;> simp only [go_sem, Int.cast_ofNat_Int, Int.reduceToNat, Bool.true_xor, Bool.false_xor, Bool.xor_true, Bool.xor_false, Nat.reduceAdd, Nat.reduceBEq, Nat.reduceLeDiff, Nat.reduceLT, Nat.reduceMul, Nat.reduceSub, Int.reduceEq, Int.reduceLT, Int.reduceLE, Int.reduceNeg, h1, h2, h63]
      unfold sdV
      cases hk : decide (k = 1048576) <;> simp only [go_sem, Int.cast_ofNat_Int, Int.reduceToNat, Bool.true_xor, Bool.false_xor, Bool.xor_true, Bool.xor_false, Nat.reduceAdd, Nat.reduceBEq, Nat.reduceLeDiff, Nat.reduceLT, Nat.reduceMul, Nat.reduceSub, Int.reduceEq, Int.reduceLT, Int.reduceLE, Int.reduceNeg]
theorem s38 (H : Heap) : call1 T (n + 6) (.fn 38) [.agg (bd i z1 N f1 z2 D f2 z3 W f3 k s)] H = some (wdV i N D W k s true, H) := by
  refine call_pure e38 (by rfl) ?_
  unfold wdV
  have h26 := fun H => s26' (i := i) (f1 := f1) (f2 := f2) (f3 := f3) (k := k) (s := s) ok (n + 2) H
  simp only [c38, heap0, go_sem, Int.cast_ofNat_Int, Int.reduceToNat, Bool.true_xor, Bool.false_xor, Bool.xor_true, Bool.xor_false, Nat.reduceAdd, Nat.reduceBEq, Nat.reduceLeDiff, Nat.reduceLT, Nat.reduceMul, Nat.reduceSub, Int.reduceEq, Int.reduceLT, Int.reduceLE, Int.reduceNeg, h26]
  cases hb : bdB i N D W k s with
  | false => simp only [go_sem, Int.cast_ofNat_Int, Int.reduceToNat, Bool.true_xor, Bool.false_xor, Bool.xor_true, Bool.xor_false, Nat.reduceAdd, Nat.reduceBEq, Nat.reduceLeDiff, Nat.reduceLT, Nat.reduceMul, Nat.reduceSub, Int.reduceEq, Int.reduceLT, Int.reduceLE, Int.reduceNeg]
  | true =>
    obtain ⟨l1, l2, l3⟩ := bdB_len _ _ _ _ _ _ hb
    have h62 := fun H => s62 n i z1 N f1 z2 D f2 z3 W f3 k s ok l3 2 0 H
    simp only [go_sem, Int.cast_ofNat_Int, Int.reduceToNat, Bool.true_xor, Bool.false_xor, Bool.xor_true, Bool.xor_false, Nat.reduceAdd, Nat.reduceBEq, Nat.reduceLeDiff, Nat.reduceLT, Nat.reduceMul, Nat.reduceSub, Int.reduceEq, Int.reduceLT, Int.reduceLE, Int.reduceNeg]
    cases h1 : decide (s = 0) <;> simp only [go_sem, Int.cast_ofNat_Int, Int.reduceToNat, Bool.true_xor, Bool.false_xor, Bool.xor_true, Bool.xor_false, Nat.reduceAdd, Nat.reduceBEq, Nat.reduceLeDiff, Nat.reduceLT, Nat.reduceMul, Nat.reduceSub, Int.reduceEq, Int.reduceLT, Int.reduceLE, Int.reduceNeg, h1, h62]
    unfold sdV
    cases hk : decide (k = 1048576) <;> simp only [go_sem, Int.cast_ofNat_Int, Int.reduceToNat, Bool.true_xor, Bool.false_xor, Bool.xor_true, Bool.xor_false, Nat.reduceAdd, Nat.reduceBEq, Nat.reduceLeDiff, Nat.reduceLT, Nat.reduceMul, Nat.reduceSub, Int.reduceEq, Int.reduceLT, Int.reduceLE, Int.reduceNeg]
theorem s39 (H : Heap) : call1 T (n + 6) (.fn 39) [.agg (bd i z1 N f1 z2 D f2 z3 W f3 k s)] H = some (wdV i N D W k s false, H) := by
  refine call_pure e39 (by rfl) ?_
  unfold wdV
  have h27 := fun H => s27' (i := i) (f1 := f1) (f2 := f2) (f3 := f3) (k := k) (s := s) ok (n + 2) H
  simp only [c39, heap0, go_sem, Int.cast_ofNat_Int, Int.reduceToNat, Bool.true_xor, Bool.false_xor, Bool.xor_true, Bool.xor_false, Nat.reduceAdd, Nat.reduceBEq, Nat.reduceLeDiff, Nat.reduceLT, Nat.reduceMul, Nat.reduceSub, Int.reduceEq, Int.reduceLT, Int.reduceLE, Int.reduceNeg, h27]
  cases hb : bdB i N D W k s with
  | false => simp only [go_sem, Int.cast_ofNat_Int, Int.reduceToNat, Bool.true_xor, Bool.false_xor, Bool.xor_true, Bool.xor_false, Nat.reduceAdd, Nat.reduceBEq, Nat.reduceLeDiff, Nat.reduceLT, Nat.reduceMul, Nat.reduceSub, Int.reduceEq, Int.reduceLT, Int.reduceLE, Int.reduceNeg]
  | true =>
    obtain ⟨l1, l2, l3⟩ := bdB_len _ _ _ _ _ _ hb
    have h63 := fun H => s63 n i z1 N f1 z2 D f2 z3 W f3 k s ok 2 0 l2 H
    simp only [go_sem, Int.cast_ofNat_Int, Int.reduceToNat, Bool.true_xor, Bool.false_xor, Bool.xor_true, Bool.xor_false, Nat.reduceAdd, Nat.reduceBEq, Nat.reduceLeDiff, Nat.reduceLT, Nat.reduceMul, Nat.reduceSub, Int.reduceEq, Int.reduceLT, Int.reduceLE, Int.reduceNeg]
    cases h1 : decide (s = 0) <;> simp only [go_sem, Int.cast_ofNat_Int, Int.reduceToNat, Bool.true_xor, Bool.false_xor, Bool.xor_true, Bool.xor_false, Nat.reduceAdd, Nat.reduceBEq, Nat.reduceLeDiff, Nat.reduceLT, Nat.reduceMul, Nat.reduceSub, Int.reduceEq, Int.reduceLT, Int.reduceLE, Int.reduceNeg, h1, h63]
    unfold sdV
    cases hk : decide (k = 1048576) <;> simp only [go_sem, Int.cast_ofNat_Int, Int.reduceToNat, Bool.true_xor, Bool.false_xor, Bool.xor_true, Bool.xor_false, Nat.reduceAdd, Nat.reduceBEq, Nat.reduceLeDiff, Nat.reduceLT, Nat.reduceMul, Nat.reduceSub, Int.reduceEq, Int.reduceLT, Int.reduceLE, Int.reduceNeg]
omit ok
/-- A new board. -/
def nwV (x : ByteArray) (L : List Int) : SV := bif idB x && lsB L then .tup [.agg (bd x 1 L false 1 (List.replicate L.length false) true 1 (List.replicate L.length false) true 0 0), .int .i64 0] else .tup [.agg bdZ, .int .i64 1]
theorem s23 (x : ByteArray) (z : Nat) (L : List Int) (f : Bool) (hz : z = 1 ∨ L = []) (hL : L.length ≤ 1000) (H : Heap) : call1 T (n + 3) (.fn 23) [.str x, .lst z (iS L) f] H = some (nwV x L, H) := by
  refine call_pure e23 (by rfl) ?_
  unfold nwV
  have h54 := fun H => s54 (n + 1) H z L f hz (Nat.le_trans hL mx)
  have h55 := fun H => s55 (n + 1) H z L f hz hL
  have g3 := fun Hp d => fz_b (List.replicate L.length false) 0 Hp d 0 L.length true (by simp)
  simp only [c23, heap0, go_sem, Int.cast_ofNat_Int, Int.reduceToNat, Bool.true_xor, Bool.false_xor, Bool.xor_true, Bool.xor_false, Nat.reduceAdd, Nat.reduceBEq, Nat.reduceLeDiff, Nat.reduceLT, Nat.reduceMul, Nat.reduceSub, Int.reduceEq, Int.reduceLT, Int.reduceLE, Int.reduceNeg, s42]
  cases h1 : idB x <;> simp only [go_sem, Int.cast_ofNat_Int, Int.reduceToNat, Bool.true_xor, Bool.false_xor, Bool.xor_true, Bool.xor_false, Nat.reduceAdd, Nat.reduceBEq, Nat.reduceLeDiff, Nat.reduceLT, Nat.reduceMul, Nat.reduceSub, Int.reduceEq, Int.reduceLT, Int.reduceLE, Int.reduceNeg, h54]
  cases h2 : lsB L <;> simp only [go_sem, Int.cast_ofNat_Int, Int.reduceToNat, Bool.true_xor, Bool.false_xor, Bool.xor_true, Bool.xor_false, Nat.reduceAdd, Nat.reduceBEq, Nat.reduceLeDiff, Nat.reduceLT, Nat.reduceMul, Nat.reduceSub, Int.reduceEq, Int.reduceLT, Int.reduceLE, Int.reduceNeg, h54]
  simp only [go_sem, Int.cast_ofNat_Int, Int.reduceToNat, Bool.true_xor, Bool.false_xor, Bool.xor_true, Bool.xor_false, Nat.reduceAdd, Nat.reduceBEq, Nat.reduceLeDiff, Nat.reduceLT, Nat.reduceMul, Nat.reduceSub, Int.reduceEq, Int.reduceLT, Int.reduceLE, Int.reduceNeg, h55, mkB _ _ hL, bb_rep, g3]
theorem s24 (x : ByteArray) (z : Nat) (L : List Int) (f : Bool) (hz : z = 1 ∨ L = []) (hL : L.length ≤ 1000) (H : Heap) : call1 T (n + 3) (.fn 24) [.str x, .lst z (iS L) f] H = some (nwV x L, H) := by
  refine call_pure e24 (by rfl) ?_
  unfold nwV
  have h57 := fun H => s57 (n + 1) H z L f hz (Nat.le_trans hL mx)
  have g1 := fun Hp d => fz_i L 0 Hp d 0 L.length false rfl
  have g3 := fun Hp d => fz_b (List.replicate L.length false) 0 Hp d 0 L.length true (by simp)
  have q1 : ∀ H, rdL 1 H (.lst z (iS L) f) = some (iS L) := fun H => by rcases hz with rfl | rfl <;> simp [rdL, iS]
  have r1 : decide (L.length * 8 ≤ mostLen) = true := decide_eq_true (Nat.le_trans (show L.length * 8 ≤ 10000 by omega) (by decide))
  simp only [c24, heap0, go_sem, Int.cast_ofNat_Int, Int.reduceToNat, Bool.true_xor, Bool.false_xor, Bool.xor_true, Bool.xor_false, Nat.reduceAdd, Nat.reduceBEq, Nat.reduceLeDiff, Nat.reduceLT, Nat.reduceMul, Nat.reduceSub, Int.reduceEq, Int.reduceLT, Int.reduceLE, Int.reduceNeg, s56]
  cases h1 : idB x <;> simp only [go_sem, Int.cast_ofNat_Int, Int.reduceToNat, Bool.true_xor, Bool.false_xor, Bool.xor_true, Bool.xor_false, Nat.reduceAdd, Nat.reduceBEq, Nat.reduceLeDiff, Nat.reduceLT, Nat.reduceMul, Nat.reduceSub, Int.reduceEq, Int.reduceLT, Int.reduceLE, Int.reduceNeg, h57]
  cases h2 : lsB L <;> simp only [go_sem, Int.cast_ofNat_Int, Int.reduceToNat, Bool.true_xor, Bool.false_xor, Bool.xor_true, Bool.xor_false, Nat.reduceAdd, Nat.reduceBEq, Nat.reduceLeDiff, Nat.reduceLT, Nat.reduceMul, Nat.reduceSub, Int.reduceEq, Int.reduceLT, Int.reduceLE, Int.reduceNeg, h57]
  simp only [go_sem, Int.cast_ofNat_Int, Int.reduceToNat, Bool.true_xor, Bool.false_xor, Bool.xor_true, Bool.xor_false, Nat.reduceAdd, Nat.reduceBEq, Nat.reduceLeDiff, Nat.reduceLT, Nat.reduceMul, Nat.reduceSub, Int.reduceEq, Int.reduceLT, Int.reduceLE, Int.reduceNeg, q1, r1, mkB _ _ hL, bb_rep, g1, g3]
end Go.Sh
namespace Go.Sh
set_option linter.unusedSectionVars false
set_option linter.unnecessarySimpa false
set_option linter.unusedVariables false
set_option linter.unusedSimpArgs false
set_option maxRecDepth 100000
set_option maxHeartbeats 4000000
/-- Two results with the same board, and the same error. -/
def Same6 (a b : SV) : Prop := ∃ (i : ByteArray) (z1 : Nat) (N : List Int) (f1 : Bool) (z2 : Nat) (D : List Bool) (f2 : Bool) (z3 : Nat) (W : List Bool) (f3 : Bool) (k s : Int) (z1' : Nat) (f1' : Bool) (z2' : Nat) (f2' : Bool) (z3' : Nat) (f3' : Bool) (e : Int),
  a = .tup [.agg (bd i z1 N f1 z2 D f2 z3 W f3 k s), .int .i64 e] ∧ b = .tup [.agg (bd i z1' N f1' z2' D f2' z3' W f3' k s), .int .i64 e] ∧ BdOk z1 N z2 D z3 W ∧ BdOk z1' N z2' D z3' W
def Same7 (a b : SV) : Prop := ∃ (i : ByteArray) (z1 : Nat) (N : List Int) (f1 : Bool) (z2 : Nat) (D : List Bool) (f2 : Bool) (z3 : Nat) (W : List Bool) (f3 : Bool) (k s : Int) (z1' : Nat) (f1' : Bool) (z2' : Nat) (f2' : Bool) (z3' : Nat) (f3' : Bool)
  (k' d' s' : Int) (x' : ByteArray) (z : Nat) (L : List Int) (f : Bool) (z' : Nat) (f' : Bool) (e : Int),
  a = .tup [.agg (bd i z1 N f1 z2 D f2 z3 W f3 k s), .agg (cm k' d' s' x' z L f), .int .i64 e] ∧ b = .tup [.agg (bd i z1' N f1' z2' D f2' z3' W f3' k s), .agg (cm k' d' s' x' z' L f'), .int .i64 e] ∧ BdOk z1 N z2 D z3 W ∧ BdOk z1' N z2' D z3' W ∧
    (z = 1 ∨ L = []) ∧ (z' = 1 ∨ L = []) ∧ L.length ≤ 1000
theorem ok_nil : BdOk 0 [] 0 [] 0 [] := ⟨.inr rfl, .inr rfl, .inr rfl, by simp, by simp, by simp⟩
theorem same6_z (e : Int) : Same6 (.tup [.agg bdZ, .int .i64 e]) (.tup [.agg bdZ, .int .i64 e]) := ⟨⟨#[]⟩, 0, [], true, 0, [], true, 0, [], true, 0, 0, 0, true, 0, true, 0, true, e, rfl, rfl, ok_nil, ok_nil⟩
theorem same7_z (e : Int) : Same7 (.tup [.agg bdZ, .agg cmZ, .int .i64 e]) (.tup [.agg bdZ, .agg cmZ, .int .i64 e]) := ⟨⟨#[]⟩, 0, [], true, 0, [], true, 0, [], true, 0, 0, 0, true, 0, true, 0, true, 0, 0, 0, ⟨#[]⟩, 0, [], true, 0, true, e, rfl, rfl, ok_nil, ok_nil, .inr rfl, .inr rfl, by simp⟩
theorem ok_one {N : List Int} {D W : List Bool} (h1 : N.length ≤ 1000) (h2 : D.length ≤ 1000) (h3 : W.length ≤ 1000) : BdOk 1 N 1 D 1 W := ⟨.inl rfl, .inl rfl, .inl rfl, h1, h2, h3⟩
theorem same6_one (i : ByteArray) (N : List Int) (f1 : Bool) (D : List Bool) (f2 : Bool) (W : List Bool) (f3 : Bool) (k s : Int) (f1' f2' f3' : Bool) (e : Int) (h1 : N.length ≤ 1000) (h2 : D.length ≤ 1000) (h3 : W.length ≤ 1000) :
    Same6 (.tup [.agg (bd i 1 N f1 1 D f2 1 W f3 k s), .int .i64 e]) (.tup [.agg (bd i 1 N f1' 1 D f2' 1 W f3' k s), .int .i64 e]) := ⟨i, 1, N, f1, 1, D, f2, 1, W, f3, k, s, 1, f1', 1, f2', 1, f3', e, rfl, rfl, ok_one h1 h2 h3, ok_one h1 h2 h3⟩
variable (i : ByteArray) (z1 : Nat) (N : List Int) (f1 : Bool) (z2 : Nat) (D : List Bool) (f2 : Bool) (z3 : Nat) (W : List Bool) (f3 : Bool) (k s : Int) (ok : BdOk z1 N z2 D z3 W)
theorem nwV_same (x : ByteArray) (L : List Int) (hL : L.length ≤ 1000) : Same6 (nwV x L) (nwV x L) := by
  unfold nwV
  cases idB x && lsB L
  · exact same6_z 1
  · exact same6_one _ _ _ _ _ _ _ _ _ _ _ _ _ hL (by simpa using hL) (by simpa using hL)
include ok
theorem rpV_same (q : Int) (x : ByteArray) : Same6 (rpV i N D W k s q true x) (rpV i N D W k s q false x) := by
  unfold rpV
  cases bdB i N D W k s
  · exact same6_z 1
  · cases decide (idx1 (fun y => decide (q = y)) N < 0)
    · exact same6_one _ _ _ _ _ _ _ _ _ _ _ _ _ ok.hN (by simpa using ok.hD) ok.hW
    · exact same6_z 7
theorem akV_same (q m : Int) : Same6 (akV i N D W k s q true m) (akV i N D W k s q false m) := by
  unfold akV
  cases bdB i N D W k s
  · exact same6_z 1
  · cases decide (idx1 (fun y => decide (q = y)) N < 0)
    · refine same6_one _ _ _ _ _ _ _ _ _ _ _ _ _ ok.hN ok.hD ?_
      cases (decide (m = k) && decide (0 < m))
      · exact ok.hW
      · simpa using ok.hW
    · exact same6_z 7
theorem sdV_same (d t : Int) : Same7 (sdV i N D W k true d t) (sdV i N D W k false d t) := by
  unfold sdV
  cases decide (k = 1048576)
  · exact ⟨_, _, _, _, _, _, _, _, _, _, _, _, _, _, _, _, _, _, _, _, _, _, _, _, _, _, _, _, rfl, rfl, ok_one ok.hN ok.hD (by simpa using ok.hW), ok_one ok.hN ok.hD (by simpa using ok.hW), .inl rfl, .inl rfl, ok.hN⟩
  · exact same7_z 13
theorem orV_same (t : Int) : Same7 (orV i N D W k s true t) (orV i N D W k s false t) := by
  unfold orV
  cases bdB i N D W k s
  · exact same7_z 1
  · cases hasB false D
    · cases (decide (t < 1) || decide (1073741824 < t))
      · exact sdV_same i z1 N z2 D z3 W k ok 1 t
      · exact same7_z 2
    · exact same7_z 12
theorem wdV_same : Same7 (wdV i N D W k s true) (wdV i N D W k s false) := by
  unfold wdV
  cases bdB i N D W k s
  · exact same7_z 1
  · cases decide (s = 0)
    · exact sdV_same i z1 N z2 D z3 W k ok 2 0
    · exact same7_z 12
omit ok
def fwB (i : ByteArray) (N : List Int) (D W : List Bool) : Bool := decide ((i.size : Int) ≤ 100) && decide ((N.length : Int) ≤ 40) && decide ((D.length : Int) ≤ 40) && decide ((W.length : Int) ≤ 40)
theorem s22 (n : Nat) (H : Heap) : call1 T (n + 1) (.fn 22) [.agg (bd i z1 N f1 z2 D f2 z3 W f3 k s)] H = some (.bool (fwB i N D W), H) := by
  refine call_pure e22 (by rfl) ?_
  unfold fwB
  simp only [c22, heap0, go_sem, Int.cast_ofNat_Int, Int.reduceToNat, Bool.true_xor, Bool.false_xor, Bool.xor_true, Bool.xor_false, Nat.reduceAdd, Nat.reduceBEq, Nat.reduceLeDiff, Nat.reduceLT, Nat.reduceMul, Nat.reduceSub, Int.reduceEq, Int.reduceLT, Int.reduceLE, Int.reduceNeg]
  repeat' (with_reducible refine fork_split (fun _ => ?_) (fun _ => ?_) <;> simp only [*, go_sem, Int.cast_ofNat_Int, Int.reduceToNat, Bool.true_xor, Bool.false_xor, Bool.xor_true, Bool.xor_false, Nat.reduceAdd, Nat.reduceBEq, Nat.reduceLeDiff, Nat.reduceLT, Nat.reduceMul, Nat.reduceSub, Int.reduceEq, Int.reduceLT, Int.reduceLE, Int.reduceNeg])
theorem s6 (x : ByteArray) (q t : Int) (h1 : z1 = 1 ∨ N = []) (h2 : z2 = 1 ∨ D = []) (h3 : z3 = 1 ∨ W = []) : call1 T 41 (.fn 6) [.agg (bd i z1 N f1 z2 D f2 z3 W f3 k s), .str x, .int .i64 q, .int .i64 t] heap0 = some (.bool true, heap0) := by
  refine call_pure e6 (by rfl) ?_
  have h22 := fun H => s22 i z1 N f1 z2 D f2 z3 W f3 k s 39 H
  cases hf : fwB i N D W with
  | false => simp only [c6, heap0, go_sem, Int.cast_ofNat_Int, Int.reduceToNat, Bool.true_xor, Bool.false_xor, Bool.xor_true, Bool.xor_false, Nat.reduceAdd, Nat.reduceBEq, Nat.reduceLeDiff, Nat.reduceLT, Nat.reduceMul, Nat.reduceSub, Int.reduceEq, Int.reduceLT, Int.reduceLE, Int.reduceNeg, s10, h22, hf]
  | true =>
    have ok : BdOk z1 N z2 D z3 W := by
      unfold fwB at hf
      simp only [Bool.and_eq_true, decide_eq_true_eq] at hf
      exact ⟨h1, h2, h3, by omega, by omega, by omega⟩
    cases hx : decide (100 < (x.size : Int)) with
    | true => simp only [c6, heap0, go_sem, Int.cast_ofNat_Int, Int.reduceToNat, Bool.true_xor, Bool.false_xor, Bool.xor_true, Bool.xor_false, Nat.reduceAdd, Nat.reduceBEq, Nat.reduceLeDiff, Nat.reduceLT, Nat.reduceMul, Nat.reduceSub, Int.reduceEq, Int.reduceLT, Int.reduceLE, Int.reduceNeg, s10, h22, hf, hx]
    | false =>
      have h23 := fun H => s23 37 x z1 N f1 h1 ok.hN H
      have h24 := fun H => s24 37 x z1 N f1 h1 ok.hN H
      have h26 := fun H => s26' (i := i) (f1 := f1) (f2 := f2) (f3 := f3) (k := k) (s := s) ok 37 H
      have h27 := fun H => s27' (i := i) (f1 := f1) (f2 := f2) (f3 := f3) (k := k) (s := s) ok 37 H
      have h28 := fun H => s28 (i := i) (f1 := f1) (f2 := f2) (f3 := f3) (k := k) (s := s) ok 36 H
      have h29 := fun H => s29 (i := i) (f1 := f1) (f2 := f2) (f3 := f3) (k := k) (s := s) ok 36 H
      have h30 := fun H => s30 (i := i) (f1 := f1) (f2 := f2) (f3 := f3) (k := k) (s := s) ok 36 H
      have h31 := fun H => s31 (i := i) (f1 := f1) (f2 := f2) (f3 := f3) (k := k) (s := s) ok 36 H
      have h32 := fun H => s32 35 i z1 N f1 z2 D f2 z3 W f3 k s ok q x H
      have h33 := fun H => s33 35 i z1 N f1 z2 D f2 z3 W f3 k s ok q x H
      have h34 := fun H => s34 35 i z1 N f1 z2 D f2 z3 W f3 k s ok q t H
      have h35 := fun H => s35 35 i z1 N f1 z2 D f2 z3 W f3 k s ok q t H
      have h36 := fun H => s36 34 i z1 N f1 z2 D f2 z3 W f3 k s ok t H
      have h37 := fun H => s37 34 i z1 N f1 z2 D f2 z3 W f3 k s ok t H
      have h38 := fun H => s38 34 i z1 N f1 z2 D f2 z3 W f3 k s ok H
      have h39 := fun H => s39 34 i z1 N f1 z2 D f2 z3 W f3 k s ok H
      obtain ⟨i0, a1, N0, b1, a2, D0, b2, a3, W0, b3, k0, s0, a1', b1', a2', b2', a3', b3', e0, hA, hB, okA, okB⟩ := nwV_same x N ok.hN
      have hS0 := fun H => s25 (i := i0) (f1 := b1) (f1' := b1') (f2 := b2) (f2' := b2') (f3 := b3) (f3' := b3') (k := k0) (s := s0) okA okB 38 H
      rw [hA] at h23
      rw [hB] at h24
      clear hA hB
      obtain ⟨i1, a1, N1, b1, a2, D1, b2, a3, W1, b3, k1, s1, a1', b1', a2', b2', a3', b3', e1, hA, hB, okA, okB⟩ := rpV_same i z1 N z2 D z3 W k s ok q x
      have hS1 := fun H => s25 (i := i1) (f1 := b1) (f1' := b1') (f2 := b2) (f2' := b2') (f3 := b3) (f3' := b3') (k := k1) (s := s1) okA okB 38 H
      rw [hA] at h32
      rw [hB] at h33
      clear hA hB okA okB
      obtain ⟨i2, a1, N2, b1, a2, D2, b2, a3, W2, b3, k2, s2, a1', b1', a2', b2', a3', b3', e2, hA, hB, okA, okB⟩ := akV_same i z1 N z2 D z3 W k s ok q t
      have hS2 := fun H => s25 (i := i2) (f1 := b1) (f1' := b1') (f2 := b2) (f2' := b2') (f3 := b3) (f3' := b3') (k := k2) (s := s2) okA okB 38 H
      rw [hA] at h34
      rw [hB] at h35
      clear hA hB okA okB
      obtain ⟨i3, a1, N3, b1, a2, D3, b2, a3, W3, b3, k3, s3, a1', b1', a2', b2', a3', b3', k3', d3', s3', x3', c1, L3, c2, c1', c2', e3, hA, hB, okA, okB, hz, hz', hL⟩ := orV_same i z1 N z2 D z3 W k s ok t
      have hS3 := fun H => s25 (i := i3) (f1 := b1) (f1' := b1') (f2 := b2) (f2' := b2') (f3 := b3) (f3' := b3') (k := k3) (s := s3) okA okB 38 H
      have hC3 := fun H => s21 38 H k3' d3' s3' x3' c1 c1' L3 c2 c2' hz hz' hL
      rw [hA] at h36
      rw [hB] at h37
      clear hA hB okA okB
      obtain ⟨i4, a1, N4, b1, a2, D4, b2, a3, W4, b3, k4, s4, a1', b1', a2', b2', a3', b3', k4', d4', s4', x4', c1, L4, c2, c1', c2', e4, hA, hB, okA, okB, hz, hz', hL⟩ := wdV_same i z1 N z2 D z3 W k s ok
      have hS4 := fun H => s25 (i := i4) (f1 := b1) (f1' := b1') (f2 := b2) (f2' := b2') (f3 := b3) (f3' := b3') (k := k4) (s := s4) okA okB 38 H
      have hC4 := fun H => s21 38 H k4' d4' s4' x4' c1 c1' L4 c2 c2' hz hz' hL
      rw [hA] at h38
      rw [hB] at h39
      clear hA hB okA okB
      simp only [c6, heap0, go_sem, Int.cast_ofNat_Int, Int.reduceToNat, Bool.true_xor, Bool.false_xor, Bool.xor_true, Bool.xor_false, Nat.reduceAdd, Nat.reduceBEq, Nat.reduceLeDiff, Nat.reduceLT, Nat.reduceMul, Nat.reduceSub, Int.reduceEq, Int.reduceLT, Int.reduceLE, Int.reduceNeg, s10, h22, hf, hx, h23, h24, hS0, dself, h26, h27, h28, h29, h30, h31, beq_self_eq_true, h32, h33, hS1, h34, h35, hS2, h36, h37, hS3, hC3, h38, h39, hS4, hC4]
end Go.Sh
namespace Go.Sh
set_option linter.unusedSectionVars false
set_option linter.unnecessarySimpa false
set_option linter.unusedVariables false
set_option linter.unusedSimpArgs false
set_option maxRecDepth 100000
set_option maxHeartbeats 4000000
theorem iS_of : ∀ {L : List (List SV)}, (∀ q ∈ L, FitsL [.int .i64] q) → ∃ N, L = iS N
  | [], _ => ⟨[], rfl⟩
  | c :: L, h => by
    obtain ⟨N, rfl⟩ := iS_of (L := L) (fun q hq => h q (by simp [hq]))
    obtain ⟨n, r, rfl, _, h2⟩ := fitsL_i (h c (by simp))
    obtain rfl := fitsL_nil' h2
    exact ⟨n :: N, rfl⟩
theorem fitsL_b {es : List DT} {cs : List SV} (h : FitsL (.bool :: es) cs) : ∃ b r, cs = .bool b :: r ∧ FitsL es r := by
  obtain ⟨c, r, rfl, h1, h2⟩ := fitsL_cons h
  obtain ⟨n, rfl⟩ := fits_bool h1
  exact ⟨n, r, rfl, h2⟩
theorem fitsL_s {es : List DT} {cs : List SV} (h : FitsL (.str :: es) cs) : ∃ b r, cs = .str b :: r ∧ b.size ≤ maxLen ∧ FitsL es r := by
  obtain ⟨c, r, rfl, h1, h2⟩ := fitsL_cons h
  obtain ⟨n, rfl, h3⟩ := fits_str h1
  exact ⟨n, r, rfl, h3, h2⟩
theorem bbS_of : ∀ {L : List (List SV)}, (∀ q ∈ L, FitsL [.bool] q) → ∃ N, L = bbS N
  | [], _ => ⟨[], rfl⟩
  | c :: L, h => by
    obtain ⟨N, rfl⟩ := bbS_of (L := L) (fun q hq => h q (by simp [hq]))
    obtain ⟨n, r, rfl, h2⟩ := fitsL_b (h c (by simp))
    obtain rfl := fitsL_nil' h2
    exact ⟨n :: N, rfl⟩
abbrev bdD : Bool × List DT := (true, [.str, .lst [.int .i64], .lst [.bool], .lst [.bool], .int .i64, .int .i64])
theorem law6 (xs : List SV) (h : FitsAll [bdD, (false, [.str]), (false, [.int .i64]), (false, [.int .i64])] xs) : ∃ m, call1 T m (.fn 6) xs heap0 = some (.bool true, heap0) := by
  obtain ⟨x1, r1, rfl, h1, h⟩ := fitsAll_cons h
  obtain ⟨x2, r2, rfl, h2, h⟩ := fitsAll_cons h
  obtain ⟨x3, r3, rfl, h3, h⟩ := fitsAll_cons h
  obtain ⟨x4, r4, rfl, h4, h⟩ := fitsAll_cons h
  cases fitsAll_nil h
  obtain ⟨cs, rfl, g⟩ := fitsA_agg h1
  obtain ⟨i, r, rfl, _, g⟩ := fitsL_s g
  obtain ⟨L1, f1, r, rfl, _, q1, g⟩ := fitsL_l g
  obtain ⟨L2, f2, r, rfl, _, q2, g⟩ := fitsL_l g
  obtain ⟨L3, f3, r, rfl, _, q3, g⟩ := fitsL_l g
  obtain ⟨k, r, rfl, _, g⟩ := fitsL_i g
  obtain ⟨s, r, rfl, _, g⟩ := fitsL_i g
  obtain rfl := fitsL_nil' g
  obtain ⟨N, rfl⟩ := iS_of q1
  obtain ⟨D, rfl⟩ := bbS_of q2
  obtain ⟨W, rfl⟩ := bbS_of q3
  obtain ⟨x, rfl, _⟩ := fits_str (fitsA_one h2)
  obtain ⟨q, rfl, _⟩ := fits_int (fitsA_one h3)
  obtain ⟨t, rfl, _⟩ := fits_int (fitsA_one h4)
  exact ⟨41, s6 i 1 N f1 1 D f2 1 W f3 k s x q t (.inl rfl) (.inl rfl) (.inl rfl)⟩
end Go.Sh
namespace Go.Sh
set_option linter.unusedSectionVars false
set_option linter.unnecessarySimpa false
set_option linter.unusedVariables false
set_option linter.unusedSimpArgs false
set_option maxRecDepth 100000
set_option maxHeartbeats 4000000
/-- A device. -/
abbrev Dv := ByteArray × ByteArray × Bool × ByteArray × Int × Int
def dvT (d : Dv) : List SV := dv d.1 d.2.1 d.2.2.1 d.2.2.2.1 d.2.2.2.2.1 d.2.2.2.2.2
def dvOK (d : Dv) : Bool := dvB d.1 d.2.1 d.2.2.1 d.2.2.2.1 d.2.2.2.2.1 d.2.2.2.2.2
def compF (d : Dv) (i : ByteArray) : Dv := bif d.2.2.1 && !decide (d.2.2.2.1 = i) then (d.1, i, false, ⟨#[]⟩, 0, d.2.2.2.2.2) else (d.1, i, d.2.2.1, d.2.2.2.1, d.2.2.2.2.1, d.2.2.2.2.2)
abbrev Cmd := Int × Int × Int × ByteArray × List Int × Bool
def cmT (c : Cmd) : List SV := cm c.1 c.2.1 c.2.2.1 c.2.2.2.1 1 c.2.2.2.2.1 c.2.2.2.2.2
def cmOK (c : Cmd) : Bool := cmB c.1 c.2.1 c.2.2.1 c.2.2.2.1 c.2.2.2.2.1
/-- A valid device that takes a valid command, at a node and in a slot. -/
def takeF (d : Dv) (c : Cmd) (q t : Int) : Dv × Int := match d with
  | (r, co, a, x, s, k) =>
    bif decide (c.1 ≤ k) then (d, 23)
    else bif !decide (q ∈ c.2.2.2.2.1) then ((r, co, a, x, s, c.1), 0)
    else bif decide (c.2.1 = 2) then (bif a && decide (x = c.2.2.2.1) then ((r, co, false, ⟨#[]⟩, 0, c.1), 0) else ((r, co, a, x, s, c.1), 0))
    else bif !decide (co = c.2.2.2.1) then ((r, co, a, x, s, c.1), 7)
    else bif decide (c.2.2.1 ≤ t) then ((r, co, a, x, s, c.1), 15)
    else ((r, co, true, c.2.2.2.1, c.2.2.1, c.1), 0)
theorem take_eq {d : Dv} {c : Cmd} {q t : Int} (hd : dvOK d = true) (hc : cmOK c = true) (q0 : 0 ≤ q) (q1 : q < 32) (t0 : 0 ≤ t) (t1 : t ≤ 1073741824) :
    tkV d.1 d.2.1 d.2.2.1 d.2.2.2.1 d.2.2.2.2.1 d.2.2.2.2.2 c.1 c.2.1 c.2.2.1 c.2.2.2.1 c.2.2.2.2.1 q t = .tup [.agg (dvT (takeF d c q t).1), .int .i64 (takeF d c q t).2] := by
  obtain ⟨r, co, a, x, s, k⟩ := d
  unfold tkV
  rw [show dvB r co a x s k = true from hd, show cmB c.1 c.2.1 c.2.2.1 c.2.2.2.1 c.2.2.2.2.1 = true from hc, decide_eq_false (show ¬ q < 0 by omega), decide_eq_false (show ¬ 32 ≤ q by omega), decide_eq_false (show ¬ t < 0 by omega), decide_eq_false (show ¬ 1073741824 < t by omega)]
  simp only [takeF]
  cases decide (c.1 ≤ k)
  · cases decide (q ∈ c.2.2.2.2.1)
    · rfl
    · cases decide (c.2.1 = 2)
      · cases decide (co = c.2.2.2.1)
        · rfl
        · cases decide (c.2.2.1 ≤ t) <;> rfl
      · cases a
        · rfl
        · cases decide (x = c.2.2.2.1) <;> rfl
  · rfl
theorem dvB_num {r co : ByteArray} {a : Bool} {x : ByteArray} {s k k' : Int} (h : dvB r co a x s k = true) (h0 : 0 ≤ k') (h1 : k' ≤ 1048576) : dvB r co a x s k' = true := by
  unfold dvB at h ⊢
  rw [decide_eq_true h0, decide_eq_true h1]
  simp only [Bool.and_eq_true] at h ⊢
  exact ⟨⟨⟨h.1.1.1, trivial⟩, trivial⟩, h.2⟩
theorem dvB_em {r co : ByteArray} {a : Bool} {x : ByteArray} {s k : Int} (h : dvB r co a x s k = true) : emB r = true ∧ emB co = true ∧ 0 ≤ k ∧ k ≤ 1048576 := by
  unfold dvB at h
  simp only [Bool.and_eq_true, decide_eq_true_eq] at h
  exact ⟨h.1.1.1.1, h.1.1.1.2, h.1.1.2, h.1.2⟩
theorem dvB_dis {r co : ByteArray} {k : Int} (h1 : emB r = true) (h2 : emB co = true) (h3 : 0 ≤ k) (h4 : k ≤ 1048576) : dvB r co false ⟨#[]⟩ 0 k = true := by
  unfold dvB; rw [h1, h2, decide_eq_true h3, decide_eq_true h4]; rfl
theorem ne1_0 : (0 : Int) ≠ 1 := by decide
theorem ne1_7 : (7 : Int) ≠ 1 := by decide
theorem ne1_15 : (15 : Int) ≠ 1 := by decide
theorem ne1_23 : (23 : Int) ≠ 1 := by decide
theorem take_ok {d : Dv} {c : Cmd} {q t : Int} (hd : dvOK d = true) (hc : cmOK c = true) : dvOK (takeF d c q t).1 = true ∧ (takeF d c q t).1.1 = d.1 ∧ (takeF d c q t).1.2.1 = d.2.1 ∧ (takeF d c q t).2 ≠ 1 := by
  obtain ⟨r, co, a, x, s, k⟩ := d
  have hd' : dvB r co a x s k = true := hd
  obtain ⟨e1, e2, e3, e4⟩ := dvB_em hd'
  have hcc : cmB c.1 c.2.1 c.2.2.1 c.2.2.2.1 c.2.2.2.2.1 = true := hc
  unfold cmB at hcc
  simp only [Bool.and_eq_true, Bool.or_eq_true, decide_eq_true_eq] at hcc
  have c1 := hcc.1.1.1.1
  have c2 := hcc.1.1.1.2
  have hn := dvB_num hd' (show 0 ≤ c.1 by omega) c2
  simp only [takeF]
  cases decide (c.1 ≤ k)
  · cases decide (q ∈ c.2.2.2.2.1)
    · exact ⟨hn, rfl, rfl, by first | exact ne1_0 | exact ne1_7 | exact ne1_15 | exact ne1_23⟩
    · cases h2 : decide (c.2.1 = 2)
      · cases h3 : decide (co = c.2.2.2.1)
        · exact ⟨hn, rfl, rfl, by first | exact ne1_0 | exact ne1_7 | exact ne1_15 | exact ne1_23⟩
        · cases decide (c.2.2.1 ≤ t)
          · refine ⟨?_, rfl, rfl, by first | exact ne1_0 | exact ne1_7 | exact ne1_15 | exact ne1_23⟩
            simp only [decide_eq_true_eq, decide_eq_false_iff_not] at h2 h3
            have hs : 1 ≤ c.2.2.1 := by rcases hcc.2 with h | h <;> omega
            show dvB r co true c.2.2.2.1 c.2.2.1 c.1 = true
            unfold dvB
            rw [e1, e2, decide_eq_true (show 0 ≤ c.1 by omega), decide_eq_true c2, decide_eq_true h3.symm, decide_eq_true hs, decide_eq_true (show c.2.2.1 ≤ 1073741824 by rcases hcc.2 with h | h <;> omega), show idB c.2.2.2.1 = true from hcc.1.1.2]
            rfl
          · exact ⟨hn, rfl, rfl, by first | exact ne1_0 | exact ne1_7 | exact ne1_15 | exact ne1_23⟩
      · cases a && decide (x = c.2.2.2.1)
        · exact ⟨hn, rfl, rfl, by first | exact ne1_0 | exact ne1_7 | exact ne1_15 | exact ne1_23⟩
        · exact ⟨dvB_dis e1 e2 (show 0 ≤ c.1 by omega) c2, rfl, rfl, by first | exact ne1_0 | exact ne1_7 | exact ne1_15 | exact ne1_23⟩
  · exact ⟨hd, rfl, rfl, by first | exact ne1_0 | exact ne1_7 | exact ne1_15 | exact ne1_23⟩
theorem comp_ok {d : Dv} {i : ByteArray} (hd : dvOK d = true) (hi : idB i = true) : dvOK (compF d i) = true ∧ (compF d i).1 = d.1 ∧ (compF d i).2.1 = i ∧ cpV d.1 d.2.1 d.2.2.1 d.2.2.2.1 d.2.2.2.2.1 d.2.2.2.2.2 i = .tup [.agg (dvT (compF d i)), .int .i64 0] := by
  obtain ⟨r, co, a, x, s, k⟩ := d
  have hd' : dvB r co a x s k = true := hd
  obtain ⟨e1, e2, e3, e4⟩ := dvB_em hd'
  have ei : emB i = true := by unfold emB; rw [hi]; simp
  unfold cpV compF
  simp only [hd', hi]
  cases a with
  | false =>
    refine ⟨?_, rfl, rfl, rfl⟩
    show dvB r i false x s k = true
    unfold dvB at hd' ⊢
    rw [e1, ei, decide_eq_true e3, decide_eq_true e4]
    simp only [Bool.and_eq_true] at hd'
    exact hd'.2
  | true =>
    cases hx : decide (x = i) with
    | false => exact ⟨dvB_dis e1 ei e3 e4, rfl, rfl, rfl⟩
    | true =>
      simp only [decide_eq_true_eq] at hx
      subst hx
      refine ⟨?_, rfl, rfl, rfl⟩
      show dvB r x true x s k = true
      unfold dvB at hd' ⊢
      simp only [Bool.and_eq_true, decide_eq_true_eq, cond_true] at hd' ⊢
      exact ⟨⟨⟨⟨e1, ei⟩, e3⟩, e4⟩, ⟨⟨hd'.2.1.1.1, trivial⟩, hd'.2.1.2⟩, hd'.2.2⟩
/-- A valid device in a slot. -/
def stepF (d : Dv) (t : Int) : Dv × Bool := match d with
  | (r, co, a, x, s, k) => bif !a || decide (t < s) then (d, false) else ((bif decide (t = s) then x else r, co, false, ⟨#[]⟩, 0, k), decide (t = s))
theorem step_ok {d : Dv} {t : Int} (hd : dvOK d = true) (t0 : 0 ≤ t) (t1 : t ≤ 1073741824) : dvOK (stepF d t).1 = true ∧ ((stepF d t).1.1 = d.1 ∨ (stepF d t).1.1 = d.2.1) ∧ (stepF d t).1.2.1 = d.2.1 ∧ ((stepF d t).2 = true → d.2.2.1 = true) ∧
    stV d.1 d.2.1 d.2.2.1 d.2.2.2.1 d.2.2.2.2.1 d.2.2.2.2.2 t = .tup [.agg (dvT (stepF d t).1), .bool (stepF d t).2, .int .i64 0] := by
  obtain ⟨r, co, a, x, s, k⟩ := d
  have hd' : dvB r co a x s k = true := hd
  obtain ⟨e1, e2, e3, e4⟩ := dvB_em hd'
  unfold stV
  rw [show dvB r co a x s k = true from hd', decide_eq_false (show ¬ t < 0 by omega), decide_eq_false (show ¬ 1073741824 < t by omega)]
  simp only [stepF]
  cases a with
  | false => exact ⟨hd, .inl rfl, rfl, (fun h => by cases h), rfl⟩
  | true =>
    cases decide (t < s) with
    | true => exact ⟨hd, .inl rfl, rfl, (fun h => by cases h), rfl⟩
    | false =>
      have hx : x = co := by
        unfold dvB at hd'
        simp only [Bool.and_eq_true, decide_eq_true_eq, cond_true] at hd'
        exact hd'.2.1.1.2
      cases decide (t = s) with
      | true => exact ⟨by subst hx; exact dvB_dis e2 e2 e3 e4, .inr hx, rfl, (fun _ => rfl), rfl⟩
      | false => exact ⟨dvB_dis e1 e2 e3 e4, .inl rfl, rfl, (fun h => by cases h), rfl⟩
end Go.Sh
namespace Go.Sh
set_option linter.unusedSectionVars false
set_option linter.unnecessarySimpa false
set_option linter.unusedVariables false
set_option linter.unusedSimpArgs false
set_option maxRecDepth 100000
set_option maxHeartbeats 4000000
def idY : ByteArray := idOf ⟨#[121]⟩
theorem idB_Y : idB idY = true := by rfl
theorem s11y (n : Nat) (H : Heap) : call1 T (n + 2) (.fn 11) [.str ⟨#[121]⟩] H = some (.str idY, H) := s11 n H _ (by decide)
def idQ (b : Bool) : ByteArray := bif b then idY else idX
theorem idQ_ok (b : Bool) : idB (idQ b) = true := by cases b <;> rfl
/-- The map with these keys. -/
def mapS (K : List ByteArray) : List (SV × SV) := K.map fun k => (.str k, .bool true)
noncomputable def addK (K : List ByteArray) (i : ByteArray) : List ByteArray := bif @decide (i ∈ K) (Classical.propDecidable _) then K else K ++ [i]
theorem mem_addK {K : List ByteArray} {i : ByteArray} : i ∈ addK K i := by
  unfold addK; by_cases h : i ∈ K <;> simp [h]
theorem sub_addK {K : List ByteArray} {i j : ByteArray} (hj : j ∈ K) : j ∈ addK K i := by
  unfold addK; by_cases h : i ∈ K <;> simp [h, hj]
theorem mfind_mapS (k : ByteArray) : ∀ (K : List ByteArray) (i : Nat), (k ∈ K ∧ ∃ j, mfind .s (.str k) (mapS K) i = some (some (i + j, .bool true)) ∧ (mapS K)[j]? = some (.str k, .bool true)) ∨ (k ∉ K ∧ mfind .s (.str k) (mapS K) i = some none)
  | [], i => .inr ⟨by simp, rfl⟩
  | q :: K, i => by
    simp only [mapS, List.map_cons, mfind_cons, sameK_str, Option.bind_some]
    by_cases h : k = q
    · subst h
      exact .inl ⟨by simp, 0, by simp, by simp⟩
    · rw [decide_eq_false h]
      rcases mfind_mapS k K (i + 1) with ⟨h1, j, h2, h3⟩ | ⟨h1, h2⟩
      · refine .inl ⟨by simp [h1], j + 1, ?_, by simpa [mapS] using h3⟩
        rw [cond_false]
        rw [show i + (j + 1) = i + 1 + j by omega]
        exact h2
      · exact .inr ⟨by simp [h, h1], h2⟩
theorem look_mapS {k : ByteArray} {K : List ByteArray} (h : k ∈ K) : ∃ j, mfind .s (.str k) (mapS K) 0 = some (some (j, .bool true)) := by
  rcases mfind_mapS k K 0 with ⟨_, j, h2, _⟩ | ⟨h1, _⟩
  · exact ⟨_, h2⟩
  · exact absurd h h1
theorem put_mapS (k : ByteArray) (K : List ByteArray) : ∃ r, mfind .s (.str k) (mapS K) 0 = some r ∧ mput (.str k) (.bool true) (mapS K) r = mapS (addK K k) := by
  rcases mfind_mapS k K 0 with ⟨h1, j, h2, h3⟩ | ⟨h1, h2⟩
  · refine ⟨_, h2, ?_⟩
    unfold addK
    rw [@decide_eq_true _ (Classical.propDecidable _) h1, cond_true, mput_some, Nat.zero_add]
    obtain ⟨hj, hv⟩ := List.getElem?_eq_some_iff.1 h3
    rw [← hv]
    exact List.set_getElem_self hj
  · refine ⟨_, h2, ?_⟩
    unfold addK
    rw [@decide_eq_false _ (Classical.propDecidable _) h1, cond_false, mput_none]
    simp [mapS]
def cmS (M : List Cmd) : List (List SV) := M.map fun c => cm c.1 c.2.1 c.2.2.1 c.2.2.2.1 1 c.2.2.2.2.1 c.2.2.2.2.2
@[go_sem] theorem cmS_len {D : List Cmd} : (cmS D).length = D.length := by simp [cmS]
@[go_sem] theorem cmS_get (D : List Cmd) (i : Nat) : (cmS D)[i]? = (D[i]?).map (fun c => cm c.1 c.2.1 c.2.2.1 c.2.2.2.1 1 c.2.2.2.2.1 c.2.2.2.2.2) := by simp [cmS]
def tsS (M : List Int) : List (List SV) := M.map fun c => [.int .u8 c]
@[go_sem] theorem tsS_len {D : List Int} : (tsS D).length = D.length := by simp [tsS]
@[go_sem] theorem tsS_get (D : List Int) (i : Nat) : (tsS D)[i]? = (D[i]?).map (fun c => [.int .u8 c]) := by simp [tsS]
def nowS (o : Option Int) (n : Int) : Int := match o with | some u => n + u.tmod 8 | none => n
noncomputable def cplS (o : Option Bool) (p : Dv × List ByteArray) : Dv × List ByteArray := match o with | some b => (compF p.1 (idQ b), addK p.2 (idQ b)) | none => p
def tkS (o : Option Cmd) (d : Dv) (n : Int) : Dv := match o with
  | some c => bif (decide ((c.2.2.2.1.size : Int) ≤ 100) && decide ((c.2.2.2.2.1.length : Int) ≤ 40)) && cmOK c then (takeF d c 1 n).1 else d
  | none => d
/-- The device, the known images and the slot behind i rounds. -/
noncomputable def stZ (Cs : List Bool) (Ms : List Cmd) (Ts : List Int) : Nat → Dv × List ByteArray × Int
  | 0 => ((⟨#[]⟩, ⟨#[]⟩, false, ⟨#[]⟩, 0, 0), [⟨#[]⟩], 0)
  | i + 1 =>
    ((stepF (tkS Ms[i]? (cplS Cs[i]? ((stZ Cs Ms Ts i).1, (stZ Cs Ms Ts i).2.1)).1 (nowS Ts[i]? (stZ Cs Ms Ts i).2.2)) (nowS Ts[i]? (stZ Cs Ms Ts i).2.2)).1,
      (cplS Cs[i]? ((stZ Cs Ms Ts i).1, (stZ Cs Ms Ts i).2.1)).2, nowS Ts[i]? (stZ Cs Ms Ts i).2.2)
def okZ (p : Dv × List ByteArray × Int) (i : Nat) : Prop := dvOK p.1 = true ∧ p.1.1 ∈ p.2.1 ∧ p.1.2.1 ∈ p.2.1 ∧ 0 ≤ p.2.2 ∧ p.2.2 ≤ 8 * i
theorem nowS_ok {Ts : List Int} (hT : ∀ u ∈ Ts, 0 ≤ u ∧ u ≤ 255) {i : Nat} {n : Int} (h0 : 0 ≤ n) (h1 : n ≤ 8 * i) : 0 ≤ nowS Ts[i]? n ∧ nowS Ts[i]? n ≤ 8 * (i + 1 : Nat) := by
  cases h : Ts[i]? with
  | none => simp only [nowS]; omega
  | some u =>
    have hu := hT u (List.mem_of_getElem? h)
    have a := Int.tmod_nonneg (a := u) 8 hu.1
    have b := Int.tmod_lt_of_pos u (show (0 : Int) < 8 by decide)
    simp only [nowS]; omega
theorem cplS_ok (o : Option Bool) {d : Dv} {K : List ByteArray} (hd : dvOK d = true) (h1 : d.1 ∈ K) (h2 : d.2.1 ∈ K) : dvOK (cplS o (d, K)).1 = true ∧ (cplS o (d, K)).1.1 ∈ (cplS o (d, K)).2 ∧ (cplS o (d, K)).1.2.1 ∈ (cplS o (d, K)).2 := by
  cases o with
  | none => exact ⟨hd, h1, h2⟩
  | some b =>
    obtain ⟨a, e1, e2, _⟩ := comp_ok hd (idQ_ok b)
    exact ⟨a, by simp only [cplS]; rw [e1]; exact sub_addK h1, by simp only [cplS]; rw [e2]; exact mem_addK⟩
theorem tkS_ok (o : Option Cmd) {d : Dv} {n : Int} (hd : dvOK d = true) : dvOK (tkS o d n) = true ∧ (tkS o d n).1 = d.1 ∧ (tkS o d n).2.1 = d.2.1 := by
  cases o with
  | none => exact ⟨hd, rfl, rfl⟩
  | some c =>
    simp only [tkS]
    cases hc : (decide ((c.2.2.2.1.size : Int) ≤ 100) && decide ((c.2.2.2.2.1.length : Int) ≤ 40)) && cmOK c with
    | false => exact ⟨hd, rfl, rfl⟩
    | true =>
      rw [Bool.and_eq_true] at hc
      obtain ⟨a, b, e, _⟩ := take_ok (q := 1) (t := n) hd hc.2
      exact ⟨a, b, e⟩
theorem stZ_ok {Cs : List Bool} {Ms : List Cmd} {Ts : List Int} (hT : ∀ u ∈ Ts, 0 ≤ u ∧ u ≤ 255) : ∀ i, i ≤ 30 → okZ (stZ Cs Ms Ts i) i
  | 0, _ => ⟨dvB_zero, by simp [stZ], by simp [stZ], by simp [stZ], by simp [stZ]⟩
  | i + 1, h => by
    obtain ⟨a1, a2, a3, a4, a5⟩ := stZ_ok (Cs := Cs) (Ms := Ms) hT i (by omega)
    obtain ⟨b1, b2⟩ := nowS_ok (i := i) hT a4 a5
    obtain ⟨c1, c2, c3⟩ := cplS_ok Cs[i]? a1 a2 a3
    obtain ⟨d1, d2, d3⟩ := tkS_ok Ms[i]? (n := nowS Ts[i]? (stZ Cs Ms Ts i).2.2) c1
    obtain ⟨e1, e2, e3, _⟩ := step_ok d1 b1 (show nowS Ts[i]? (stZ Cs Ms Ts i).2.2 ≤ 1073741824 by omega)
    refine ⟨e1, ?_, ?_, b1, b2⟩
    · simp only [stZ]
      rcases e2 with e2 | e2 <;> rw [e2]
      · rw [d2]; exact c2
      · rw [d3]; exact c3
    · simp only [stZ]
      rw [e3, d3]; exact c3
end Go.Sh
namespace Go.Sh
set_option linter.unusedSectionVars false
set_option linter.unnecessarySimpa false
set_option linter.unusedVariables false
set_option linter.unusedSimpArgs false
set_option maxRecDepth 100000
set_option maxHeartbeats 4000000
@[go_sem] theorem refs_mpz (b : Nat) : (SV.mp b).refs = b + 1 := by rfl
theorem wrap8 {n : Int} (h0 : 0 ≤ n) (h1 : n ≤ 255) : IntKind.u8.wrap n = n := by
  have e : IntKind.u8.wrap n = n % 256 := by simp [IntKind.wrap, IntKind.bits, IntKind.signed]
  rw [e]; omega
theorem s3 (Cs : List Bool) (f1 : Bool) (Ms : List Cmd) (f2 : Bool) (Ts : List Int) (f3 : Bool) (hT : ∀ u ∈ Ts, 0 ≤ u ∧ u ≤ 255) :
    call1 T 41 (.fn 3) [.lst 1 (bbS Cs) f1, .lst 5 (cmS Ms) f2, .lst 1 (tsS Ts) f3] heap0 = some (.bool true, heap0) := by
  refine call_pure e3 (by rfl) ?_
  cases x1 : decide (30 < (Cs.length : Int)) with
  | true => simp only [c3, heap0, go_sem, Int.cast_ofNat_Int, Int.reduceToNat, Bool.true_xor, Bool.false_xor, Bool.xor_true, Bool.xor_false, Nat.reduceAdd, Nat.reduceBEq, Nat.reduceLeDiff, Nat.reduceLT, Nat.reduceMul, Nat.reduceSub, Int.reduceEq, Int.reduceLT, Int.reduceLE, Int.reduceNeg, s10, x1]
  | false =>
    cases x2 : decide (30 < (Ms.length : Int)) with
    | true => simp only [c3, heap0, go_sem, Int.cast_ofNat_Int, Int.reduceToNat, Bool.true_xor, Bool.false_xor, Bool.xor_true, Bool.xor_false, Nat.reduceAdd, Nat.reduceBEq, Nat.reduceLeDiff, Nat.reduceLT, Nat.reduceMul, Nat.reduceSub, Int.reduceEq, Int.reduceLT, Int.reduceLE, Int.reduceNeg, s10, x1, x2]
    | false =>
      cases x3 : decide (30 < (Ts.length : Int)) with
      | true => simp only [c3, heap0, go_sem, Int.cast_ofNat_Int, Int.reduceToNat, Bool.true_xor, Bool.false_xor, Bool.xor_true, Bool.xor_false, Nat.reduceAdd, Nat.reduceBEq, Nat.reduceLeDiff, Nat.reduceLT, Nat.reduceMul, Nat.reduceSub, Int.reduceEq, Int.reduceLT, Int.reduceLE, Int.reduceNeg, s10, x1, x2, x3]
      | false =>
        simp only [decide_eq_false_iff_not] at x1 x2 x3
        simp only [c3, heap0, go_sem, Int.cast_ofNat_Int, Int.reduceToNat, Bool.true_xor, Bool.false_xor, Bool.xor_true, Bool.xor_false, Nat.reduceAdd, Nat.reduceBEq, Nat.reduceLeDiff, Nat.reduceLT, Nat.reduceMul, Nat.reduceSub, Int.reduceEq, Int.reduceLT, Int.reduceLE, Int.reduceNeg, s10, x1, x2, x3]
        refine loop_rule (fun i => ([(0, .lst 1 (bbS Cs) f1), (1, .lst 5 (cmS Ms) f2), (2, .lst 1 (tsS Ts) f3), (7, .mp 0), (8, .ptr 1 0 0 0), (9, .int .i64 (stZ Cs Ms Ts i).2.2), (44, .int .i64 (max (Cs.length : Int) Ms.length)), (45, .int .i64 i)], ⟨[.map (mapS (stZ Cs Ms Ts i).2.1), .box (dvT (stZ Cs Ms Ts i).1)], [], 0⟩)) (fun _ => True) (max Cs.length Ms.length) ?_ trivial ?_
        · simp only [go_sem, Int.cast_ofNat_Int, Int.reduceToNat, Bool.true_xor, Bool.false_xor, Bool.xor_true, Bool.xor_false, Nat.reduceAdd, Nat.reduceBEq, Nat.reduceLeDiff, Nat.reduceLT, Nat.reduceMul, Nat.reduceSub, Int.reduceEq, Int.reduceLT, Int.reduceLE, Int.reduceNeg] <;> rfl
        · intro i hi _
          rcases Nat.lt_or_ge i (max Cs.length Ms.length) with hlt | hge
          · have h30 : i < 30 := by omega
            have hs : w64 ((i : Int) + 1) = i + 1 := w64_id (by omega) (by omega)
            have hx : decide ((i : Int) < max (Cs.length : Int) Ms.length) = true := decide_eq_true (by omega)
            obtain ⟨a1, a2, a3, a4, a5⟩ := stZ_ok (Cs := Cs) (Ms := Ms) hT i (by omega)
            obtain ⟨b1, b2⟩ := nowS_ok (i := i) hT a4 a5
            obtain ⟨c1, c2, c3⟩ := cplS_ok Cs[i]? a1 a2 a3
            obtain ⟨d1, d2, d3⟩ := tkS_ok Ms[i]? (n := nowS Ts[i]? (stZ Cs Ms Ts i).2.2) c1
            obtain ⟨e1, e2, e3, e4, e5⟩ := step_ok d1 b1 (show nowS Ts[i]? (stZ Cs Ms Ts i).2.2 ≤ 1073741824 by omega)
            have hst : stZ Cs Ms Ts (i + 1) = ((stepF (tkS Ms[i]? (cplS Cs[i]? ((stZ Cs Ms Ts i).1, (stZ Cs Ms Ts i).2.1)).1 (nowS Ts[i]? (stZ Cs Ms Ts i).2.2)) (nowS Ts[i]? (stZ Cs Ms Ts i).2.2)).1, (cplS Cs[i]? ((stZ Cs Ms Ts i).1, (stZ Cs Ms Ts i).2.1)).2, nowS Ts[i]? (stZ Cs Ms Ts i).2.2) := rfl
            have hki : (stepF (tkS Ms[i]? (cplS Cs[i]? ((stZ Cs Ms Ts i).1, (stZ Cs Ms Ts i).2.1)).1 (nowS Ts[i]? (stZ Cs Ms Ts i).2.2)) (nowS Ts[i]? (stZ Cs Ms Ts i).2.2)).1.1 ∈ (cplS Cs[i]? ((stZ Cs Ms Ts i).1, (stZ Cs Ms Ts i).2.1)).2 := by
              rcases e2 with e2 | e2 <;> rw [e2]
              · rw [d2]; exact c2
              · rw [d3]; exact c3
            obtain ⟨jk, hlk⟩ := look_mapS hki
            clear hki e2 e3 c2 c3 d2 d3 a2 a3
            generalize hp : stZ Cs Ms Ts i = p at *
            obtain ⟨d, K, nw⟩ := p
            simp only at a1 a4 a5 b1 b2 c1 d1 e1 e4 e5 hlk
            generalize hnow : nowS Ts[i]? nw = now at *
            generalize hcp : cplS Cs[i]? (d, K) = cp at *
            obtain ⟨dc, Kc⟩ := cp
            simp only at c1 d1 e1 e4 e5 hlk
            generalize htk : tkS Ms[i]? dc now = dt at *
            generalize hsp : stepF dt now = sp at *
            obtain ⟨ds, bs⟩ := sp
            simp only at e1 e4 e5 hlk hst
            obtain ⟨r, co, a, x, s, k⟩ := d
            obtain ⟨rc, coc, ac, xc, sc, kc⟩ := dc
            obtain ⟨rt, cot, at', xt, st, kt⟩ := dt
            obtain ⟨rs, cos, as', xs', ss, ks⟩ := ds
            have h15 : ∀ H, call1 T 40 (.fn 15) [.agg (dv rt cot at' xt st kt), .int .i64 now] H = some (.tup [.agg (dv rs cos as' xs' ss ks), .bool bs, .int .i64 0], H) := fun H => by
              rw [s15 36 H rt cot at' xt st kt now]; exact congrArg (fun v => some (v, H)) e5
            have h16 : ∀ H, call1 T 40 (.fn 16) [.agg (dv rs cos as' xs' ss ks)] H = some (.int .i64 0, H) := fun H => by
              rw [s16 37 H rs cos as' xs' ss ks, show dvB rs cos as' xs' ss ks = true from e1]; rfl
            have hbs : (bs && !at') = false := by
              cases bs with
              | false => rfl
              | true => rw [show at' = true from e4 rfl]; rfl
            cases bs with
            | false =>
              rcases Nat.lt_or_ge i Ts.length with l1 | l1
              · obtain ⟨u, hu⟩ := getS l1
                rw [hu] at hnow
                simp only [nowS] at hnow
                have hu2 := hT u (List.mem_of_getElem? hu)
                have t0 := Int.tmod_nonneg (a := u) 8 hu2.1
                have t1 := Int.tmod_lt_of_pos u (show (0 : Int) < 8 by decide)
                have hw8 : IntKind.u8.wrap (u.tmod 8) = u.tmod 8 := wrap8 t0 (by omega)
                have hwn : w64 (nw + u.tmod 8) = now := by rw [hnow]; exact w64_id (by omega) (by omega)
                have hwt : w64 (u.tmod 8) = u.tmod 8 := w64_id (by omega) (by omega)
                rcases Nat.lt_or_ge i Cs.length with l2 | l2
                · obtain ⟨b, hb⟩ := getS l2
                  rw [hb] at hcp
                  simp only [cplS] at hcp
                  obtain ⟨_, _, _, o12⟩ := comp_ok a1 (idQ_ok b)
                  obtain ⟨j, put1, put2⟩ := put_mapS (idQ b) K
                  injection hcp with g1 g2
                  rw [g1] at o12
                  rw [g2] at put2
                  have h12 : ∀ H, call1 T 40 (.fn 12) [.agg (dv r co a x s k), .str (idQ b)] H = some (.tup [.agg (dv rc coc ac xc sc kc), .int .i64 0], H) := fun H => by
                    rw [s12 36 H r co a x s k (idQ b)]; exact congrArg (fun v => some (v, H)) o12
                  clear g1 g2 o12
                  cases b <;> simp only [idQ, cond_true, cond_false] at put1 put2 h12
                  · rcases Nat.lt_or_ge i Ms.length with l3 | l3
                    · obtain ⟨⟨k', d', s', x', L', f'⟩, hc⟩ := getS l3
                      rw [hc] at htk
                      simp only [tkS] at htk
                      have h13 := fun H => s13 39 H k' d' s' x' 1 L' f'
                      cases hB : decide ((x'.size : Int) ≤ 100) && decide ((L'.length : Int) ≤ 40) with
                      | false =>
                        rw [hB] at h13 htk
                        simp only [Bool.false_and, cond_false] at htk
                        injection htk with g1 g2; injection g2 with g2 g3; injection g3 with g3 g4; injection g4 with g4 g5; injection g5 with g5 g6
                        subst g1 g2 g3 g4 g5 g6
                        simp only [go_sem, Int.cast_ofNat_Int, Int.reduceToNat, Bool.true_xor, Bool.false_xor, Bool.xor_true, Bool.xor_false, Nat.reduceAdd, Nat.reduceBEq, Nat.reduceLeDiff, Nat.reduceLT, Nat.reduceMul, Nat.reduceSub, Int.reduceEq, Int.reduceLT, Int.reduceLE, Int.reduceNeg, s11x, s11y, hx, hs, h15, h16, hlk, hbs, hst, dvT, l1, hu, hw8, hwt, hwn, l2, hb, h12, put1, put2, l3, hc, h13]
                        refine ⟨by first | trivial | omega, by first | trivial | rfl, trivial⟩
                      | true =>
                        rw [hB] at h13 htk
                        simp only [Bool.and_eq_true, decide_eq_true_eq] at hB
                        have h14 := fun H => s14 36 H rc coc ac xc sc kc k' d' s' x' 1 L' f' 1 now (.inl rfl) (Nat.le_trans (show L'.length ≤ 1000 by omega) (by decide))
                        cases hok : cmOK (k', d', s', x', L', f') with
                        | false =>
                          rw [hok] at htk
                          simp only [Bool.and_false, cond_false] at htk
                          have e14 : tkV rc coc ac xc sc kc k' d' s' x' L' 1 now = .tup [.agg dvZ, .int .i64 1] := by
                            unfold tkV; rw [show cmB k' d' s' x' L' = false from hok]; simp
                          rw [e14] at h14
                          injection htk with g1 g2; injection g2 with g2 g3; injection g3 with g3 g4; injection g4 with g4 g5; injection g5 with g5 g6
                          subst g1 g2 g3 g4 g5 g6
                          simp only [go_sem, Int.cast_ofNat_Int, Int.reduceToNat, Bool.true_xor, Bool.false_xor, Bool.xor_true, Bool.xor_false, Nat.reduceAdd, Nat.reduceBEq, Nat.reduceLeDiff, Nat.reduceLT, Nat.reduceMul, Nat.reduceSub, Int.reduceEq, Int.reduceLT, Int.reduceLE, Int.reduceNeg, s11x, s11y, hx, hs, h15, h16, hlk, hbs, hst, dvT, l1, hu, hw8, hwt, hwn, l2, hb, h12, put1, put2, l3, hc, h13, h14]
                          refine ⟨by first | trivial | omega, by first | trivial | rfl, trivial⟩
                        | true =>
                          have e14 := take_eq (q := 1) (t := now) c1 hok (by decide) (by decide) b1 (by omega)
                          have n14 := (take_ok (q := 1) (t := now) c1 hok).2.2.2
                          rw [hok] at htk
                          simp only [Bool.and_true, cond_true] at htk
                          generalize takeF (rc, coc, ac, xc, sc, kc) (k', d', s', x', L', f') 1 now = w at *
                          obtain ⟨w, q⟩ := w
                          simp only at htk n14 e14
                          subst htk
                          rw [e14] at h14
                          have n15 : decide (q = 1) = false := decide_eq_false n14
                          simp only [dvT] at h14
                          simp only [go_sem, Int.cast_ofNat_Int, Int.reduceToNat, Bool.true_xor, Bool.false_xor, Bool.xor_true, Bool.xor_false, Nat.reduceAdd, Nat.reduceBEq, Nat.reduceLeDiff, Nat.reduceLT, Nat.reduceMul, Nat.reduceSub, Int.reduceEq, Int.reduceLT, Int.reduceLE, Int.reduceNeg, s11x, s11y, hx, hs, h15, h16, hlk, hbs, hst, dvT, l1, hu, hw8, hwt, hwn, l2, hb, h12, put1, put2, l3, hc, h13, h14, n15]
                          refine ⟨by first | trivial | omega, by first | trivial | rfl, trivial⟩
                    · rw [List.getElem?_eq_none l3] at htk
                      simp only [tkS] at htk
                      injection htk with g1 g2; injection g2 with g2 g3; injection g3 with g3 g4; injection g4 with g4 g5; injection g5 with g5 g6
                      subst g1 g2 g3 g4 g5 g6
                      have l3' : decide (i < Ms.length) = false := decide_eq_false (by omega)
                      simp only [go_sem, Int.cast_ofNat_Int, Int.reduceToNat, Bool.true_xor, Bool.false_xor, Bool.xor_true, Bool.xor_false, Nat.reduceAdd, Nat.reduceBEq, Nat.reduceLeDiff, Nat.reduceLT, Nat.reduceMul, Nat.reduceSub, Int.reduceEq, Int.reduceLT, Int.reduceLE, Int.reduceNeg, s11x, s11y, hx, hs, h15, h16, hlk, hbs, hst, dvT, l1, hu, hw8, hwt, hwn, l2, hb, h12, put1, put2, l3']
                      refine ⟨by first | trivial | omega, by first | trivial | rfl, trivial⟩
                  · rcases Nat.lt_or_ge i Ms.length with l3 | l3
                    · obtain ⟨⟨k', d', s', x', L', f'⟩, hc⟩ := getS l3
                      rw [hc] at htk
                      simp only [tkS] at htk
                      have h13 := fun H => s13 39 H k' d' s' x' 1 L' f'
                      cases hB : decide ((x'.size : Int) ≤ 100) && decide ((L'.length : Int) ≤ 40) with
                      | false =>
                        rw [hB] at h13 htk
                        simp only [Bool.false_and, cond_false] at htk
                        injection htk with g1 g2; injection g2 with g2 g3; injection g3 with g3 g4; injection g4 with g4 g5; injection g5 with g5 g6
                        subst g1 g2 g3 g4 g5 g6
                        simp only [go_sem, Int.cast_ofNat_Int, Int.reduceToNat, Bool.true_xor, Bool.false_xor, Bool.xor_true, Bool.xor_false, Nat.reduceAdd, Nat.reduceBEq, Nat.reduceLeDiff, Nat.reduceLT, Nat.reduceMul, Nat.reduceSub, Int.reduceEq, Int.reduceLT, Int.reduceLE, Int.reduceNeg, s11x, s11y, hx, hs, h15, h16, hlk, hbs, hst, dvT, l1, hu, hw8, hwt, hwn, l2, hb, h12, put1, put2, l3, hc, h13]
                        refine ⟨by first | trivial | omega, by first | trivial | rfl, trivial⟩
                      | true =>
                        rw [hB] at h13 htk
                        simp only [Bool.and_eq_true, decide_eq_true_eq] at hB
                        have h14 := fun H => s14 36 H rc coc ac xc sc kc k' d' s' x' 1 L' f' 1 now (.inl rfl) (Nat.le_trans (show L'.length ≤ 1000 by omega) (by decide))
                        cases hok : cmOK (k', d', s', x', L', f') with
                        | false =>
                          rw [hok] at htk
                          simp only [Bool.and_false, cond_false] at htk
                          have e14 : tkV rc coc ac xc sc kc k' d' s' x' L' 1 now = .tup [.agg dvZ, .int .i64 1] := by
                            unfold tkV; rw [show cmB k' d' s' x' L' = false from hok]; simp
                          rw [e14] at h14
                          injection htk with g1 g2; injection g2 with g2 g3; injection g3 with g3 g4; injection g4 with g4 g5; injection g5 with g5 g6
                          subst g1 g2 g3 g4 g5 g6
                          simp only [go_sem, Int.cast_ofNat_Int, Int.reduceToNat, Bool.true_xor, Bool.false_xor, Bool.xor_true, Bool.xor_false, Nat.reduceAdd, Nat.reduceBEq, Nat.reduceLeDiff, Nat.reduceLT, Nat.reduceMul, Nat.reduceSub, Int.reduceEq, Int.reduceLT, Int.reduceLE, Int.reduceNeg, s11x, s11y, hx, hs, h15, h16, hlk, hbs, hst, dvT, l1, hu, hw8, hwt, hwn, l2, hb, h12, put1, put2, l3, hc, h13, h14]
                          refine ⟨by first | trivial | omega, by first | trivial | rfl, trivial⟩
                        | true =>
                          have e14 := take_eq (q := 1) (t := now) c1 hok (by decide) (by decide) b1 (by omega)
                          have n14 := (take_ok (q := 1) (t := now) c1 hok).2.2.2
                          rw [hok] at htk
                          simp only [Bool.and_true, cond_true] at htk
                          generalize takeF (rc, coc, ac, xc, sc, kc) (k', d', s', x', L', f') 1 now = w at *
                          obtain ⟨w, q⟩ := w
                          simp only at htk n14 e14
                          subst htk
                          rw [e14] at h14
                          have n15 : decide (q = 1) = false := decide_eq_false n14
                          simp only [dvT] at h14
                          simp only [go_sem, Int.cast_ofNat_Int, Int.reduceToNat, Bool.true_xor, Bool.false_xor, Bool.xor_true, Bool.xor_false, Nat.reduceAdd, Nat.reduceBEq, Nat.reduceLeDiff, Nat.reduceLT, Nat.reduceMul, Nat.reduceSub, Int.reduceEq, Int.reduceLT, Int.reduceLE, Int.reduceNeg, s11x, s11y, hx, hs, h15, h16, hlk, hbs, hst, dvT, l1, hu, hw8, hwt, hwn, l2, hb, h12, put1, put2, l3, hc, h13, h14, n15]
                          refine ⟨by first | trivial | omega, by first | trivial | rfl, trivial⟩
                    · rw [List.getElem?_eq_none l3] at htk
                      simp only [tkS] at htk
                      injection htk with g1 g2; injection g2 with g2 g3; injection g3 with g3 g4; injection g4 with g4 g5; injection g5 with g5 g6
                      subst g1 g2 g3 g4 g5 g6
                      have l3' : decide (i < Ms.length) = false := decide_eq_false (by omega)
                      simp only [go_sem, Int.cast_ofNat_Int, Int.reduceToNat, Bool.true_xor, Bool.false_xor, Bool.xor_true, Bool.xor_false, Nat.reduceAdd, Nat.reduceBEq, Nat.reduceLeDiff, Nat.reduceLT, Nat.reduceMul, Nat.reduceSub, Int.reduceEq, Int.reduceLT, Int.reduceLE, Int.reduceNeg, s11x, s11y, hx, hs, h15, h16, hlk, hbs, hst, dvT, l1, hu, hw8, hwt, hwn, l2, hb, h12, put1, put2, l3']
                      refine ⟨by first | trivial | omega, by first | trivial | rfl, trivial⟩
                · rw [List.getElem?_eq_none l2] at hcp
                  simp only [cplS] at hcp
                  injection hcp with g g0; injection g with g1 g2; injection g2 with g2 g3; injection g3 with g3 g4; injection g4 with g4 g5; injection g5 with g5 g6
                  subst g0 g1 g2 g3 g4 g5 g6
                  have l2' : decide (i < Cs.length) = false := decide_eq_false (by omega)
                  rcases Nat.lt_or_ge i Ms.length with l3 | l3
                  · obtain ⟨⟨k', d', s', x', L', f'⟩, hc⟩ := getS l3
                    rw [hc] at htk
                    simp only [tkS] at htk
                    have h13 := fun H => s13 39 H k' d' s' x' 1 L' f'
                    cases hB : decide ((x'.size : Int) ≤ 100) && decide ((L'.length : Int) ≤ 40) with
                    | false =>
                      rw [hB] at h13 htk
                      simp only [Bool.false_and, cond_false] at htk
                      injection htk with g1 g2; injection g2 with g2 g3; injection g3 with g3 g4; injection g4 with g4 g5; injection g5 with g5 g6
                      subst g1 g2 g3 g4 g5 g6
                      simp only [go_sem, Int.cast_ofNat_Int, Int.reduceToNat, Bool.true_xor, Bool.false_xor, Bool.xor_true, Bool.xor_false, Nat.reduceAdd, Nat.reduceBEq, Nat.reduceLeDiff, Nat.reduceLT, Nat.reduceMul, Nat.reduceSub, Int.reduceEq, Int.reduceLT, Int.reduceLE, Int.reduceNeg, s11x, s11y, hx, hs, h15, h16, hlk, hbs, hst, dvT, l1, hu, hw8, hwt, hwn, l2', l3, hc, h13]
                      refine ⟨by first | trivial | omega, by first | trivial | rfl, trivial⟩
                    | true =>
                      rw [hB] at h13 htk
                      simp only [Bool.and_eq_true, decide_eq_true_eq] at hB
                      have h14 := fun H => s14 36 H r co a x s k k' d' s' x' 1 L' f' 1 now (.inl rfl) (Nat.le_trans (show L'.length ≤ 1000 by omega) (by decide))
                      cases hok : cmOK (k', d', s', x', L', f') with
                      | false =>
                        rw [hok] at htk
                        simp only [Bool.and_false, cond_false] at htk
                        have e14 : tkV r co a x s k k' d' s' x' L' 1 now = .tup [.agg dvZ, .int .i64 1] := by
                          unfold tkV; rw [show cmB k' d' s' x' L' = false from hok]; simp
                        rw [e14] at h14
                        injection htk with g1 g2; injection g2 with g2 g3; injection g3 with g3 g4; injection g4 with g4 g5; injection g5 with g5 g6
                        subst g1 g2 g3 g4 g5 g6
                        simp only [go_sem, Int.cast_ofNat_Int, Int.reduceToNat, Bool.true_xor, Bool.false_xor, Bool.xor_true, Bool.xor_false, Nat.reduceAdd, Nat.reduceBEq, Nat.reduceLeDiff, Nat.reduceLT, Nat.reduceMul, Nat.reduceSub, Int.reduceEq, Int.reduceLT, Int.reduceLE, Int.reduceNeg, s11x, s11y, hx, hs, h15, h16, hlk, hbs, hst, dvT, l1, hu, hw8, hwt, hwn, l2', l3, hc, h13, h14]
                        refine ⟨by first | trivial | omega, by first | trivial | rfl, trivial⟩
                      | true =>
                        have e14 := take_eq (q := 1) (t := now) c1 hok (by decide) (by decide) b1 (by omega)
                        have n14 := (take_ok (q := 1) (t := now) c1 hok).2.2.2
                        rw [hok] at htk
                        simp only [Bool.and_true, cond_true] at htk
                        generalize takeF (r, co, a, x, s, k) (k', d', s', x', L', f') 1 now = w at *
                        obtain ⟨w, q⟩ := w
                        simp only at htk n14 e14
                        subst htk
                        rw [e14] at h14
                        have n15 : decide (q = 1) = false := decide_eq_false n14
                        simp only [dvT] at h14
                        simp only [go_sem, Int.cast_ofNat_Int, Int.reduceToNat, Bool.true_xor, Bool.false_xor, Bool.xor_true, Bool.xor_false, Nat.reduceAdd, Nat.reduceBEq, Nat.reduceLeDiff, Nat.reduceLT, Nat.reduceMul, Nat.reduceSub, Int.reduceEq, Int.reduceLT, Int.reduceLE, Int.reduceNeg, s11x, s11y, hx, hs, h15, h16, hlk, hbs, hst, dvT, l1, hu, hw8, hwt, hwn, l2', l3, hc, h13, h14, n15]
                        refine ⟨by first | trivial | omega, by first | trivial | rfl, trivial⟩
                  · rw [List.getElem?_eq_none l3] at htk
                    simp only [tkS] at htk
                    injection htk with g1 g2; injection g2 with g2 g3; injection g3 with g3 g4; injection g4 with g4 g5; injection g5 with g5 g6
                    subst g1 g2 g3 g4 g5 g6
                    have l3' : decide (i < Ms.length) = false := decide_eq_false (by omega)
                    simp only [go_sem, Int.cast_ofNat_Int, Int.reduceToNat, Bool.true_xor, Bool.false_xor, Bool.xor_true, Bool.xor_false, Nat.reduceAdd, Nat.reduceBEq, Nat.reduceLeDiff, Nat.reduceLT, Nat.reduceMul, Nat.reduceSub, Int.reduceEq, Int.reduceLT, Int.reduceLE, Int.reduceNeg, s11x, s11y, hx, hs, h15, h16, hlk, hbs, hst, dvT, l1, hu, hw8, hwt, hwn, l2', l3']
                    refine ⟨by first | trivial | omega, by first | trivial | rfl, trivial⟩
              · rw [List.getElem?_eq_none l1] at hnow
                simp only [nowS] at hnow
                subst hnow
                have l1' : decide (i < Ts.length) = false := decide_eq_false (by omega)
                rcases Nat.lt_or_ge i Cs.length with l2 | l2
                · obtain ⟨b, hb⟩ := getS l2
                  rw [hb] at hcp
                  simp only [cplS] at hcp
                  obtain ⟨_, _, _, o12⟩ := comp_ok a1 (idQ_ok b)
                  obtain ⟨j, put1, put2⟩ := put_mapS (idQ b) K
                  injection hcp with g1 g2
                  rw [g1] at o12
                  rw [g2] at put2
                  have h12 : ∀ H, call1 T 40 (.fn 12) [.agg (dv r co a x s k), .str (idQ b)] H = some (.tup [.agg (dv rc coc ac xc sc kc), .int .i64 0], H) := fun H => by
                    rw [s12 36 H r co a x s k (idQ b)]; exact congrArg (fun v => some (v, H)) o12
                  clear g1 g2 o12
                  cases b <;> simp only [idQ, cond_true, cond_false] at put1 put2 h12
                  · rcases Nat.lt_or_ge i Ms.length with l3 | l3
                    · obtain ⟨⟨k', d', s', x', L', f'⟩, hc⟩ := getS l3
                      rw [hc] at htk
                      simp only [tkS] at htk
                      have h13 := fun H => s13 39 H k' d' s' x' 1 L' f'
                      cases hB : decide ((x'.size : Int) ≤ 100) && decide ((L'.length : Int) ≤ 40) with
                      | false =>
                        rw [hB] at h13 htk
                        simp only [Bool.false_and, cond_false] at htk
                        injection htk with g1 g2; injection g2 with g2 g3; injection g3 with g3 g4; injection g4 with g4 g5; injection g5 with g5 g6
                        subst g1 g2 g3 g4 g5 g6
                        simp only [go_sem, Int.cast_ofNat_Int, Int.reduceToNat, Bool.true_xor, Bool.false_xor, Bool.xor_true, Bool.xor_false, Nat.reduceAdd, Nat.reduceBEq, Nat.reduceLeDiff, Nat.reduceLT, Nat.reduceMul, Nat.reduceSub, Int.reduceEq, Int.reduceLT, Int.reduceLE, Int.reduceNeg, s11x, s11y, hx, hs, h15, h16, hlk, hbs, hst, dvT, l1', l2, hb, h12, put1, put2, l3, hc, h13]
                        refine ⟨by first | trivial | omega, by first | trivial | rfl, trivial⟩
                      | true =>
                        rw [hB] at h13 htk
                        simp only [Bool.and_eq_true, decide_eq_true_eq] at hB
                        have h14 := fun H => s14 36 H rc coc ac xc sc kc k' d' s' x' 1 L' f' 1 nw (.inl rfl) (Nat.le_trans (show L'.length ≤ 1000 by omega) (by decide))
                        cases hok : cmOK (k', d', s', x', L', f') with
                        | false =>
                          rw [hok] at htk
                          simp only [Bool.and_false, cond_false] at htk
                          have e14 : tkV rc coc ac xc sc kc k' d' s' x' L' 1 nw = .tup [.agg dvZ, .int .i64 1] := by
                            unfold tkV; rw [show cmB k' d' s' x' L' = false from hok]; simp
                          rw [e14] at h14
                          injection htk with g1 g2; injection g2 with g2 g3; injection g3 with g3 g4; injection g4 with g4 g5; injection g5 with g5 g6
                          subst g1 g2 g3 g4 g5 g6
                          simp only [go_sem, Int.cast_ofNat_Int, Int.reduceToNat, Bool.true_xor, Bool.false_xor, Bool.xor_true, Bool.xor_false, Nat.reduceAdd, Nat.reduceBEq, Nat.reduceLeDiff, Nat.reduceLT, Nat.reduceMul, Nat.reduceSub, Int.reduceEq, Int.reduceLT, Int.reduceLE, Int.reduceNeg, s11x, s11y, hx, hs, h15, h16, hlk, hbs, hst, dvT, l1', l2, hb, h12, put1, put2, l3, hc, h13, h14]
                          refine ⟨by first | trivial | omega, by first | trivial | rfl, trivial⟩
                        | true =>
                          have e14 := take_eq (q := 1) (t := nw) c1 hok (by decide) (by decide) b1 (by omega)
                          have n14 := (take_ok (q := 1) (t := nw) c1 hok).2.2.2
                          rw [hok] at htk
                          simp only [Bool.and_true, cond_true] at htk
                          generalize takeF (rc, coc, ac, xc, sc, kc) (k', d', s', x', L', f') 1 nw = w at *
                          obtain ⟨w, q⟩ := w
                          simp only at htk n14 e14
                          subst htk
                          rw [e14] at h14
                          have n15 : decide (q = 1) = false := decide_eq_false n14
                          simp only [dvT] at h14
                          simp only [go_sem, Int.cast_ofNat_Int, Int.reduceToNat, Bool.true_xor, Bool.false_xor, Bool.xor_true, Bool.xor_false, Nat.reduceAdd, Nat.reduceBEq, Nat.reduceLeDiff, Nat.reduceLT, Nat.reduceMul, Nat.reduceSub, Int.reduceEq, Int.reduceLT, Int.reduceLE, Int.reduceNeg, s11x, s11y, hx, hs, h15, h16, hlk, hbs, hst, dvT, l1', l2, hb, h12, put1, put2, l3, hc, h13, h14, n15]
                          refine ⟨by first | trivial | omega, by first | trivial | rfl, trivial⟩
                    · rw [List.getElem?_eq_none l3] at htk
                      simp only [tkS] at htk
                      injection htk with g1 g2; injection g2 with g2 g3; injection g3 with g3 g4; injection g4 with g4 g5; injection g5 with g5 g6
                      subst g1 g2 g3 g4 g5 g6
                      have l3' : decide (i < Ms.length) = false := decide_eq_false (by omega)
                      simp only [go_sem, Int.cast_ofNat_Int, Int.reduceToNat, Bool.true_xor, Bool.false_xor, Bool.xor_true, Bool.xor_false, Nat.reduceAdd, Nat.reduceBEq, Nat.reduceLeDiff, Nat.reduceLT, Nat.reduceMul, Nat.reduceSub, Int.reduceEq, Int.reduceLT, Int.reduceLE, Int.reduceNeg, s11x, s11y, hx, hs, h15, h16, hlk, hbs, hst, dvT, l1', l2, hb, h12, put1, put2, l3']
                      refine ⟨by first | trivial | omega, by first | trivial | rfl, trivial⟩
                  · rcases Nat.lt_or_ge i Ms.length with l3 | l3
                    · obtain ⟨⟨k', d', s', x', L', f'⟩, hc⟩ := getS l3
                      rw [hc] at htk
                      simp only [tkS] at htk
                      have h13 := fun H => s13 39 H k' d' s' x' 1 L' f'
                      cases hB : decide ((x'.size : Int) ≤ 100) && decide ((L'.length : Int) ≤ 40) with
                      | false =>
                        rw [hB] at h13 htk
                        simp only [Bool.false_and, cond_false] at htk
                        injection htk with g1 g2; injection g2 with g2 g3; injection g3 with g3 g4; injection g4 with g4 g5; injection g5 with g5 g6
                        subst g1 g2 g3 g4 g5 g6
                        simp only [go_sem, Int.cast_ofNat_Int, Int.reduceToNat, Bool.true_xor, Bool.false_xor, Bool.xor_true, Bool.xor_false, Nat.reduceAdd, Nat.reduceBEq, Nat.reduceLeDiff, Nat.reduceLT, Nat.reduceMul, Nat.reduceSub, Int.reduceEq, Int.reduceLT, Int.reduceLE, Int.reduceNeg, s11x, s11y, hx, hs, h15, h16, hlk, hbs, hst, dvT, l1', l2, hb, h12, put1, put2, l3, hc, h13]
                        refine ⟨by first | trivial | omega, by first | trivial | rfl, trivial⟩
                      | true =>
                        rw [hB] at h13 htk
                        simp only [Bool.and_eq_true, decide_eq_true_eq] at hB
                        have h14 := fun H => s14 36 H rc coc ac xc sc kc k' d' s' x' 1 L' f' 1 nw (.inl rfl) (Nat.le_trans (show L'.length ≤ 1000 by omega) (by decide))
                        cases hok : cmOK (k', d', s', x', L', f') with
                        | false =>
                          rw [hok] at htk
                          simp only [Bool.and_false, cond_false] at htk
                          have e14 : tkV rc coc ac xc sc kc k' d' s' x' L' 1 nw = .tup [.agg dvZ, .int .i64 1] := by
                            unfold tkV; rw [show cmB k' d' s' x' L' = false from hok]; simp
                          rw [e14] at h14
                          injection htk with g1 g2; injection g2 with g2 g3; injection g3 with g3 g4; injection g4 with g4 g5; injection g5 with g5 g6
                          subst g1 g2 g3 g4 g5 g6
                          simp only [go_sem, Int.cast_ofNat_Int, Int.reduceToNat, Bool.true_xor, Bool.false_xor, Bool.xor_true, Bool.xor_false, Nat.reduceAdd, Nat.reduceBEq, Nat.reduceLeDiff, Nat.reduceLT, Nat.reduceMul, Nat.reduceSub, Int.reduceEq, Int.reduceLT, Int.reduceLE, Int.reduceNeg, s11x, s11y, hx, hs, h15, h16, hlk, hbs, hst, dvT, l1', l2, hb, h12, put1, put2, l3, hc, h13, h14]
                          refine ⟨by first | trivial | omega, by first | trivial | rfl, trivial⟩
                        | true =>
                          have e14 := take_eq (q := 1) (t := nw) c1 hok (by decide) (by decide) b1 (by omega)
                          have n14 := (take_ok (q := 1) (t := nw) c1 hok).2.2.2
                          rw [hok] at htk
                          simp only [Bool.and_true, cond_true] at htk
                          generalize takeF (rc, coc, ac, xc, sc, kc) (k', d', s', x', L', f') 1 nw = w at *
                          obtain ⟨w, q⟩ := w
                          simp only at htk n14 e14
                          subst htk
                          rw [e14] at h14
                          have n15 : decide (q = 1) = false := decide_eq_false n14
                          simp only [dvT] at h14
                          simp only [go_sem, Int.cast_ofNat_Int, Int.reduceToNat, Bool.true_xor, Bool.false_xor, Bool.xor_true, Bool.xor_false, Nat.reduceAdd, Nat.reduceBEq, Nat.reduceLeDiff, Nat.reduceLT, Nat.reduceMul, Nat.reduceSub, Int.reduceEq, Int.reduceLT, Int.reduceLE, Int.reduceNeg, s11x, s11y, hx, hs, h15, h16, hlk, hbs, hst, dvT, l1', l2, hb, h12, put1, put2, l3, hc, h13, h14, n15]
                          refine ⟨by first | trivial | omega, by first | trivial | rfl, trivial⟩
                    · rw [List.getElem?_eq_none l3] at htk
                      simp only [tkS] at htk
                      injection htk with g1 g2; injection g2 with g2 g3; injection g3 with g3 g4; injection g4 with g4 g5; injection g5 with g5 g6
                      subst g1 g2 g3 g4 g5 g6
                      have l3' : decide (i < Ms.length) = false := decide_eq_false (by omega)
                      simp only [go_sem, Int.cast_ofNat_Int, Int.reduceToNat, Bool.true_xor, Bool.false_xor, Bool.xor_true, Bool.xor_false, Nat.reduceAdd, Nat.reduceBEq, Nat.reduceLeDiff, Nat.reduceLT, Nat.reduceMul, Nat.reduceSub, Int.reduceEq, Int.reduceLT, Int.reduceLE, Int.reduceNeg, s11x, s11y, hx, hs, h15, h16, hlk, hbs, hst, dvT, l1', l2, hb, h12, put1, put2, l3']
                      refine ⟨by first | trivial | omega, by first | trivial | rfl, trivial⟩
                · rw [List.getElem?_eq_none l2] at hcp
                  simp only [cplS] at hcp
                  injection hcp with g g0; injection g with g1 g2; injection g2 with g2 g3; injection g3 with g3 g4; injection g4 with g4 g5; injection g5 with g5 g6
                  subst g0 g1 g2 g3 g4 g5 g6
                  have l2' : decide (i < Cs.length) = false := decide_eq_false (by omega)
                  rcases Nat.lt_or_ge i Ms.length with l3 | l3
                  · obtain ⟨⟨k', d', s', x', L', f'⟩, hc⟩ := getS l3
                    rw [hc] at htk
                    simp only [tkS] at htk
                    have h13 := fun H => s13 39 H k' d' s' x' 1 L' f'
                    cases hB : decide ((x'.size : Int) ≤ 100) && decide ((L'.length : Int) ≤ 40) with
                    | false =>
                      rw [hB] at h13 htk
                      simp only [Bool.false_and, cond_false] at htk
                      injection htk with g1 g2; injection g2 with g2 g3; injection g3 with g3 g4; injection g4 with g4 g5; injection g5 with g5 g6
                      subst g1 g2 g3 g4 g5 g6
                      simp only [go_sem, Int.cast_ofNat_Int, Int.reduceToNat, Bool.true_xor, Bool.false_xor, Bool.xor_true, Bool.xor_false, Nat.reduceAdd, Nat.reduceBEq, Nat.reduceLeDiff, Nat.reduceLT, Nat.reduceMul, Nat.reduceSub, Int.reduceEq, Int.reduceLT, Int.reduceLE, Int.reduceNeg, s11x, s11y, hx, hs, h15, h16, hlk, hbs, hst, dvT, l1', l2', l3, hc, h13]
                      refine ⟨by first | trivial | omega, by first | trivial | rfl, trivial⟩
                    | true =>
                      rw [hB] at h13 htk
                      simp only [Bool.and_eq_true, decide_eq_true_eq] at hB
                      have h14 := fun H => s14 36 H r co a x s k k' d' s' x' 1 L' f' 1 nw (.inl rfl) (Nat.le_trans (show L'.length ≤ 1000 by omega) (by decide))
                      cases hok : cmOK (k', d', s', x', L', f') with
                      | false =>
                        rw [hok] at htk
                        simp only [Bool.and_false, cond_false] at htk
                        have e14 : tkV r co a x s k k' d' s' x' L' 1 nw = .tup [.agg dvZ, .int .i64 1] := by
                          unfold tkV; rw [show cmB k' d' s' x' L' = false from hok]; simp
                        rw [e14] at h14
                        injection htk with g1 g2; injection g2 with g2 g3; injection g3 with g3 g4; injection g4 with g4 g5; injection g5 with g5 g6
                        subst g1 g2 g3 g4 g5 g6
                        simp only [go_sem, Int.cast_ofNat_Int, Int.reduceToNat, Bool.true_xor, Bool.false_xor, Bool.xor_true, Bool.xor_false, Nat.reduceAdd, Nat.reduceBEq, Nat.reduceLeDiff, Nat.reduceLT, Nat.reduceMul, Nat.reduceSub, Int.reduceEq, Int.reduceLT, Int.reduceLE, Int.reduceNeg, s11x, s11y, hx, hs, h15, h16, hlk, hbs, hst, dvT, l1', l2', l3, hc, h13, h14]
                        refine ⟨by first | trivial | omega, by first | trivial | rfl, trivial⟩
                      | true =>
                        have e14 := take_eq (q := 1) (t := nw) c1 hok (by decide) (by decide) b1 (by omega)
                        have n14 := (take_ok (q := 1) (t := nw) c1 hok).2.2.2
                        rw [hok] at htk
                        simp only [Bool.and_true, cond_true] at htk
                        generalize takeF (r, co, a, x, s, k) (k', d', s', x', L', f') 1 nw = w at *
                        obtain ⟨w, q⟩ := w
                        simp only at htk n14 e14
                        subst htk
                        rw [e14] at h14
                        have n15 : decide (q = 1) = false := decide_eq_false n14
                        simp only [dvT] at h14
                        simp only [go_sem, Int.cast_ofNat_Int, Int.reduceToNat, Bool.true_xor, Bool.false_xor, Bool.xor_true, Bool.xor_false, Nat.reduceAdd, Nat.reduceBEq, Nat.reduceLeDiff, Nat.reduceLT, Nat.reduceMul, Nat.reduceSub, Int.reduceEq, Int.reduceLT, Int.reduceLE, Int.reduceNeg, s11x, s11y, hx, hs, h15, h16, hlk, hbs, hst, dvT, l1', l2', l3, hc, h13, h14, n15]
                        refine ⟨by first | trivial | omega, by first | trivial | rfl, trivial⟩
                  · rw [List.getElem?_eq_none l3] at htk
                    simp only [tkS] at htk
                    injection htk with g1 g2; injection g2 with g2 g3; injection g3 with g3 g4; injection g4 with g4 g5; injection g5 with g5 g6
                    subst g1 g2 g3 g4 g5 g6
                    have l3' : decide (i < Ms.length) = false := decide_eq_false (by omega)
                    simp only [go_sem, Int.cast_ofNat_Int, Int.reduceToNat, Bool.true_xor, Bool.false_xor, Bool.xor_true, Bool.xor_false, Nat.reduceAdd, Nat.reduceBEq, Nat.reduceLeDiff, Nat.reduceLT, Nat.reduceMul, Nat.reduceSub, Int.reduceEq, Int.reduceLT, Int.reduceLE, Int.reduceNeg, s11x, s11y, hx, hs, h15, h16, hlk, hbs, hst, dvT, l1', l2', l3']
                    refine ⟨by first | trivial | omega, by first | trivial | rfl, trivial⟩
            | true =>
              obtain rfl : at' = true := e4 rfl
              rcases Nat.lt_or_ge i Ts.length with l1 | l1
              · obtain ⟨u, hu⟩ := getS l1
                rw [hu] at hnow
                simp only [nowS] at hnow
                have hu2 := hT u (List.mem_of_getElem? hu)
                have t0 := Int.tmod_nonneg (a := u) 8 hu2.1
                have t1 := Int.tmod_lt_of_pos u (show (0 : Int) < 8 by decide)
                have hw8 : IntKind.u8.wrap (u.tmod 8) = u.tmod 8 := wrap8 t0 (by omega)
                have hwn : w64 (nw + u.tmod 8) = now := by rw [hnow]; exact w64_id (by omega) (by omega)
                have hwt : w64 (u.tmod 8) = u.tmod 8 := w64_id (by omega) (by omega)
                rcases Nat.lt_or_ge i Cs.length with l2 | l2
                · obtain ⟨b, hb⟩ := getS l2
                  rw [hb] at hcp
                  simp only [cplS] at hcp
                  obtain ⟨_, _, _, o12⟩ := comp_ok a1 (idQ_ok b)
                  obtain ⟨j, put1, put2⟩ := put_mapS (idQ b) K
                  injection hcp with g1 g2
                  rw [g1] at o12
                  rw [g2] at put2
                  have h12 : ∀ H, call1 T 40 (.fn 12) [.agg (dv r co a x s k), .str (idQ b)] H = some (.tup [.agg (dv rc coc ac xc sc kc), .int .i64 0], H) := fun H => by
                    rw [s12 36 H r co a x s k (idQ b)]; exact congrArg (fun v => some (v, H)) o12
                  clear g1 g2 o12
                  cases b <;> simp only [idQ, cond_true, cond_false] at put1 put2 h12
                  · rcases Nat.lt_or_ge i Ms.length with l3 | l3
                    · obtain ⟨⟨k', d', s', x', L', f'⟩, hc⟩ := getS l3
                      rw [hc] at htk
                      simp only [tkS] at htk
                      have h13 := fun H => s13 39 H k' d' s' x' 1 L' f'
                      cases hB : decide ((x'.size : Int) ≤ 100) && decide ((L'.length : Int) ≤ 40) with
                      | false =>
                        rw [hB] at h13 htk
                        simp only [Bool.false_and, cond_false] at htk
                        injection htk with g1 g2; injection g2 with g2 g3; injection g3 with g3 g4; injection g4 with g4 g5; injection g5 with g5 g6
                        subst g1 g2 g3 g4 g5 g6
                        simp only [go_sem, Int.cast_ofNat_Int, Int.reduceToNat, Bool.true_xor, Bool.false_xor, Bool.xor_true, Bool.xor_false, Nat.reduceAdd, Nat.reduceBEq, Nat.reduceLeDiff, Nat.reduceLT, Nat.reduceMul, Nat.reduceSub, Int.reduceEq, Int.reduceLT, Int.reduceLE, Int.reduceNeg, s11x, s11y, hx, hs, h15, h16, hlk, hbs, hst, dvT, l1, hu, hw8, hwt, hwn, l2, hb, h12, put1, put2, l3, hc, h13]
                        refine ⟨by first | trivial | omega, by first | trivial | rfl, trivial⟩
                      | true =>
                        rw [hB] at h13 htk
                        simp only [Bool.and_eq_true, decide_eq_true_eq] at hB
                        have h14 := fun H => s14 36 H rc coc ac xc sc kc k' d' s' x' 1 L' f' 1 now (.inl rfl) (Nat.le_trans (show L'.length ≤ 1000 by omega) (by decide))
                        cases hok : cmOK (k', d', s', x', L', f') with
                        | false =>
                          rw [hok] at htk
                          simp only [Bool.and_false, cond_false] at htk
                          have e14 : tkV rc coc ac xc sc kc k' d' s' x' L' 1 now = .tup [.agg dvZ, .int .i64 1] := by
                            unfold tkV; rw [show cmB k' d' s' x' L' = false from hok]; simp
                          rw [e14] at h14
                          injection htk with g1 g2; injection g2 with g2 g3; injection g3 with g3 g4; injection g4 with g4 g5; injection g5 with g5 g6
                          subst g1 g2 g3 g4 g5 g6
                          simp only [go_sem, Int.cast_ofNat_Int, Int.reduceToNat, Bool.true_xor, Bool.false_xor, Bool.xor_true, Bool.xor_false, Nat.reduceAdd, Nat.reduceBEq, Nat.reduceLeDiff, Nat.reduceLT, Nat.reduceMul, Nat.reduceSub, Int.reduceEq, Int.reduceLT, Int.reduceLE, Int.reduceNeg, s11x, s11y, hx, hs, h15, h16, hlk, hbs, hst, dvT, l1, hu, hw8, hwt, hwn, l2, hb, h12, put1, put2, l3, hc, h13, h14]
                          refine ⟨by first | trivial | omega, by first | trivial | rfl, trivial⟩
                        | true =>
                          have e14 := take_eq (q := 1) (t := now) c1 hok (by decide) (by decide) b1 (by omega)
                          have n14 := (take_ok (q := 1) (t := now) c1 hok).2.2.2
                          rw [hok] at htk
                          simp only [Bool.and_true, cond_true] at htk
                          generalize takeF (rc, coc, ac, xc, sc, kc) (k', d', s', x', L', f') 1 now = w at *
                          obtain ⟨w, q⟩ := w
                          simp only at htk n14 e14
                          subst htk
                          rw [e14] at h14
                          have n15 : decide (q = 1) = false := decide_eq_false n14
                          simp only [dvT] at h14
                          simp only [go_sem, Int.cast_ofNat_Int, Int.reduceToNat, Bool.true_xor, Bool.false_xor, Bool.xor_true, Bool.xor_false, Nat.reduceAdd, Nat.reduceBEq, Nat.reduceLeDiff, Nat.reduceLT, Nat.reduceMul, Nat.reduceSub, Int.reduceEq, Int.reduceLT, Int.reduceLE, Int.reduceNeg, s11x, s11y, hx, hs, h15, h16, hlk, hbs, hst, dvT, l1, hu, hw8, hwt, hwn, l2, hb, h12, put1, put2, l3, hc, h13, h14, n15]
                          refine ⟨by first | trivial | omega, by first | trivial | rfl, trivial⟩
                    · rw [List.getElem?_eq_none l3] at htk
                      simp only [tkS] at htk
                      injection htk with g1 g2; injection g2 with g2 g3; injection g3 with g3 g4; injection g4 with g4 g5; injection g5 with g5 g6
                      subst g1 g2 g3 g4 g5 g6
                      have l3' : decide (i < Ms.length) = false := decide_eq_false (by omega)
                      simp only [go_sem, Int.cast_ofNat_Int, Int.reduceToNat, Bool.true_xor, Bool.false_xor, Bool.xor_true, Bool.xor_false, Nat.reduceAdd, Nat.reduceBEq, Nat.reduceLeDiff, Nat.reduceLT, Nat.reduceMul, Nat.reduceSub, Int.reduceEq, Int.reduceLT, Int.reduceLE, Int.reduceNeg, s11x, s11y, hx, hs, h15, h16, hlk, hbs, hst, dvT, l1, hu, hw8, hwt, hwn, l2, hb, h12, put1, put2, l3']
                      refine ⟨by first | trivial | omega, by first | trivial | rfl, trivial⟩
                  · rcases Nat.lt_or_ge i Ms.length with l3 | l3
                    · obtain ⟨⟨k', d', s', x', L', f'⟩, hc⟩ := getS l3
                      rw [hc] at htk
                      simp only [tkS] at htk
                      have h13 := fun H => s13 39 H k' d' s' x' 1 L' f'
                      cases hB : decide ((x'.size : Int) ≤ 100) && decide ((L'.length : Int) ≤ 40) with
                      | false =>
                        rw [hB] at h13 htk
                        simp only [Bool.false_and, cond_false] at htk
                        injection htk with g1 g2; injection g2 with g2 g3; injection g3 with g3 g4; injection g4 with g4 g5; injection g5 with g5 g6
                        subst g1 g2 g3 g4 g5 g6
                        simp only [go_sem, Int.cast_ofNat_Int, Int.reduceToNat, Bool.true_xor, Bool.false_xor, Bool.xor_true, Bool.xor_false, Nat.reduceAdd, Nat.reduceBEq, Nat.reduceLeDiff, Nat.reduceLT, Nat.reduceMul, Nat.reduceSub, Int.reduceEq, Int.reduceLT, Int.reduceLE, Int.reduceNeg, s11x, s11y, hx, hs, h15, h16, hlk, hbs, hst, dvT, l1, hu, hw8, hwt, hwn, l2, hb, h12, put1, put2, l3, hc, h13]
                        refine ⟨by first | trivial | omega, by first | trivial | rfl, trivial⟩
                      | true =>
                        rw [hB] at h13 htk
                        simp only [Bool.and_eq_true, decide_eq_true_eq] at hB
                        have h14 := fun H => s14 36 H rc coc ac xc sc kc k' d' s' x' 1 L' f' 1 now (.inl rfl) (Nat.le_trans (show L'.length ≤ 1000 by omega) (by decide))
                        cases hok : cmOK (k', d', s', x', L', f') with
                        | false =>
                          rw [hok] at htk
                          simp only [Bool.and_false, cond_false] at htk
                          have e14 : tkV rc coc ac xc sc kc k' d' s' x' L' 1 now = .tup [.agg dvZ, .int .i64 1] := by
                            unfold tkV; rw [show cmB k' d' s' x' L' = false from hok]; simp
                          rw [e14] at h14
                          injection htk with g1 g2; injection g2 with g2 g3; injection g3 with g3 g4; injection g4 with g4 g5; injection g5 with g5 g6
                          subst g1 g2 g3 g4 g5 g6
                          simp only [go_sem, Int.cast_ofNat_Int, Int.reduceToNat, Bool.true_xor, Bool.false_xor, Bool.xor_true, Bool.xor_false, Nat.reduceAdd, Nat.reduceBEq, Nat.reduceLeDiff, Nat.reduceLT, Nat.reduceMul, Nat.reduceSub, Int.reduceEq, Int.reduceLT, Int.reduceLE, Int.reduceNeg, s11x, s11y, hx, hs, h15, h16, hlk, hbs, hst, dvT, l1, hu, hw8, hwt, hwn, l2, hb, h12, put1, put2, l3, hc, h13, h14]
                          refine ⟨by first | trivial | omega, by first | trivial | rfl, trivial⟩
                        | true =>
                          have e14 := take_eq (q := 1) (t := now) c1 hok (by decide) (by decide) b1 (by omega)
                          have n14 := (take_ok (q := 1) (t := now) c1 hok).2.2.2
                          rw [hok] at htk
                          simp only [Bool.and_true, cond_true] at htk
                          generalize takeF (rc, coc, ac, xc, sc, kc) (k', d', s', x', L', f') 1 now = w at *
                          obtain ⟨w, q⟩ := w
                          simp only at htk n14 e14
                          subst htk
                          rw [e14] at h14
                          have n15 : decide (q = 1) = false := decide_eq_false n14
                          simp only [dvT] at h14
                          simp only [go_sem, Int.cast_ofNat_Int, Int.reduceToNat, Bool.true_xor, Bool.false_xor, Bool.xor_true, Bool.xor_false, Nat.reduceAdd, Nat.reduceBEq, Nat.reduceLeDiff, Nat.reduceLT, Nat.reduceMul, Nat.reduceSub, Int.reduceEq, Int.reduceLT, Int.reduceLE, Int.reduceNeg, s11x, s11y, hx, hs, h15, h16, hlk, hbs, hst, dvT, l1, hu, hw8, hwt, hwn, l2, hb, h12, put1, put2, l3, hc, h13, h14, n15]
                          refine ⟨by first | trivial | omega, by first | trivial | rfl, trivial⟩
                    · rw [List.getElem?_eq_none l3] at htk
                      simp only [tkS] at htk
                      injection htk with g1 g2; injection g2 with g2 g3; injection g3 with g3 g4; injection g4 with g4 g5; injection g5 with g5 g6
                      subst g1 g2 g3 g4 g5 g6
                      have l3' : decide (i < Ms.length) = false := decide_eq_false (by omega)
                      simp only [go_sem, Int.cast_ofNat_Int, Int.reduceToNat, Bool.true_xor, Bool.false_xor, Bool.xor_true, Bool.xor_false, Nat.reduceAdd, Nat.reduceBEq, Nat.reduceLeDiff, Nat.reduceLT, Nat.reduceMul, Nat.reduceSub, Int.reduceEq, Int.reduceLT, Int.reduceLE, Int.reduceNeg, s11x, s11y, hx, hs, h15, h16, hlk, hbs, hst, dvT, l1, hu, hw8, hwt, hwn, l2, hb, h12, put1, put2, l3']
                      refine ⟨by first | trivial | omega, by first | trivial | rfl, trivial⟩
                · rw [List.getElem?_eq_none l2] at hcp
                  simp only [cplS] at hcp
                  injection hcp with g g0; injection g with g1 g2; injection g2 with g2 g3; injection g3 with g3 g4; injection g4 with g4 g5; injection g5 with g5 g6
                  subst g0 g1 g2 g3 g4 g5 g6
                  have l2' : decide (i < Cs.length) = false := decide_eq_false (by omega)
                  rcases Nat.lt_or_ge i Ms.length with l3 | l3
                  · obtain ⟨⟨k', d', s', x', L', f'⟩, hc⟩ := getS l3
                    rw [hc] at htk
                    simp only [tkS] at htk
                    have h13 := fun H => s13 39 H k' d' s' x' 1 L' f'
                    cases hB : decide ((x'.size : Int) ≤ 100) && decide ((L'.length : Int) ≤ 40) with
                    | false =>
                      rw [hB] at h13 htk
                      simp only [Bool.false_and, cond_false] at htk
                      injection htk with g1 g2; injection g2 with g2 g3; injection g3 with g3 g4; injection g4 with g4 g5; injection g5 with g5 g6
                      subst g1 g2 g3 g4 g5 g6
                      simp only [go_sem, Int.cast_ofNat_Int, Int.reduceToNat, Bool.true_xor, Bool.false_xor, Bool.xor_true, Bool.xor_false, Nat.reduceAdd, Nat.reduceBEq, Nat.reduceLeDiff, Nat.reduceLT, Nat.reduceMul, Nat.reduceSub, Int.reduceEq, Int.reduceLT, Int.reduceLE, Int.reduceNeg, s11x, s11y, hx, hs, h15, h16, hlk, hbs, hst, dvT, l1, hu, hw8, hwt, hwn, l2', l3, hc, h13]
                      refine ⟨by first | trivial | omega, by first | trivial | rfl, trivial⟩
                    | true =>
                      rw [hB] at h13 htk
                      simp only [Bool.and_eq_true, decide_eq_true_eq] at hB
                      have h14 := fun H => s14 36 H r co a x s k k' d' s' x' 1 L' f' 1 now (.inl rfl) (Nat.le_trans (show L'.length ≤ 1000 by omega) (by decide))
                      cases hok : cmOK (k', d', s', x', L', f') with
                      | false =>
                        rw [hok] at htk
                        simp only [Bool.and_false, cond_false] at htk
                        have e14 : tkV r co a x s k k' d' s' x' L' 1 now = .tup [.agg dvZ, .int .i64 1] := by
                          unfold tkV; rw [show cmB k' d' s' x' L' = false from hok]; simp
                        rw [e14] at h14
                        injection htk with g1 g2; injection g2 with g2 g3; injection g3 with g3 g4; injection g4 with g4 g5; injection g5 with g5 g6
                        subst g1 g2 g3 g4 g5 g6
                        simp only [go_sem, Int.cast_ofNat_Int, Int.reduceToNat, Bool.true_xor, Bool.false_xor, Bool.xor_true, Bool.xor_false, Nat.reduceAdd, Nat.reduceBEq, Nat.reduceLeDiff, Nat.reduceLT, Nat.reduceMul, Nat.reduceSub, Int.reduceEq, Int.reduceLT, Int.reduceLE, Int.reduceNeg, s11x, s11y, hx, hs, h15, h16, hlk, hbs, hst, dvT, l1, hu, hw8, hwt, hwn, l2', l3, hc, h13, h14]
                        refine ⟨by first | trivial | omega, by first | trivial | rfl, trivial⟩
                      | true =>
                        have e14 := take_eq (q := 1) (t := now) c1 hok (by decide) (by decide) b1 (by omega)
                        have n14 := (take_ok (q := 1) (t := now) c1 hok).2.2.2
                        rw [hok] at htk
                        simp only [Bool.and_true, cond_true] at htk
                        generalize takeF (r, co, a, x, s, k) (k', d', s', x', L', f') 1 now = w at *
                        obtain ⟨w, q⟩ := w
                        simp only at htk n14 e14
                        subst htk
                        rw [e14] at h14
                        have n15 : decide (q = 1) = false := decide_eq_false n14
                        simp only [dvT] at h14
                        simp only [go_sem, Int.cast_ofNat_Int, Int.reduceToNat, Bool.true_xor, Bool.false_xor, Bool.xor_true, Bool.xor_false, Nat.reduceAdd, Nat.reduceBEq, Nat.reduceLeDiff, Nat.reduceLT, Nat.reduceMul, Nat.reduceSub, Int.reduceEq, Int.reduceLT, Int.reduceLE, Int.reduceNeg, s11x, s11y, hx, hs, h15, h16, hlk, hbs, hst, dvT, l1, hu, hw8, hwt, hwn, l2', l3, hc, h13, h14, n15]
                        refine ⟨by first | trivial | omega, by first | trivial | rfl, trivial⟩
                  · rw [List.getElem?_eq_none l3] at htk
                    simp only [tkS] at htk
                    injection htk with g1 g2; injection g2 with g2 g3; injection g3 with g3 g4; injection g4 with g4 g5; injection g5 with g5 g6
                    subst g1 g2 g3 g4 g5 g6
                    have l3' : decide (i < Ms.length) = false := decide_eq_false (by omega)
                    simp only [go_sem, Int.cast_ofNat_Int, Int.reduceToNat, Bool.true_xor, Bool.false_xor, Bool.xor_true, Bool.xor_false, Nat.reduceAdd, Nat.reduceBEq, Nat.reduceLeDiff, Nat.reduceLT, Nat.reduceMul, Nat.reduceSub, Int.reduceEq, Int.reduceLT, Int.reduceLE, Int.reduceNeg, s11x, s11y, hx, hs, h15, h16, hlk, hbs, hst, dvT, l1, hu, hw8, hwt, hwn, l2', l3']
                    refine ⟨by first | trivial | omega, by first | trivial | rfl, trivial⟩
              · rw [List.getElem?_eq_none l1] at hnow
                simp only [nowS] at hnow
                subst hnow
                have l1' : decide (i < Ts.length) = false := decide_eq_false (by omega)
                rcases Nat.lt_or_ge i Cs.length with l2 | l2
                · obtain ⟨b, hb⟩ := getS l2
                  rw [hb] at hcp
                  simp only [cplS] at hcp
                  obtain ⟨_, _, _, o12⟩ := comp_ok a1 (idQ_ok b)
                  obtain ⟨j, put1, put2⟩ := put_mapS (idQ b) K
                  injection hcp with g1 g2
                  rw [g1] at o12
                  rw [g2] at put2
                  have h12 : ∀ H, call1 T 40 (.fn 12) [.agg (dv r co a x s k), .str (idQ b)] H = some (.tup [.agg (dv rc coc ac xc sc kc), .int .i64 0], H) := fun H => by
                    rw [s12 36 H r co a x s k (idQ b)]; exact congrArg (fun v => some (v, H)) o12
                  clear g1 g2 o12
                  cases b <;> simp only [idQ, cond_true, cond_false] at put1 put2 h12
                  · rcases Nat.lt_or_ge i Ms.length with l3 | l3
                    · obtain ⟨⟨k', d', s', x', L', f'⟩, hc⟩ := getS l3
                      rw [hc] at htk
                      simp only [tkS] at htk
                      have h13 := fun H => s13 39 H k' d' s' x' 1 L' f'
                      cases hB : decide ((x'.size : Int) ≤ 100) && decide ((L'.length : Int) ≤ 40) with
                      | false =>
                        rw [hB] at h13 htk
                        simp only [Bool.false_and, cond_false] at htk
                        injection htk with g1 g2; injection g2 with g2 g3; injection g3 with g3 g4; injection g4 with g4 g5; injection g5 with g5 g6
                        subst g1 g2 g3 g4 g5 g6
                        simp only [go_sem, Int.cast_ofNat_Int, Int.reduceToNat, Bool.true_xor, Bool.false_xor, Bool.xor_true, Bool.xor_false, Nat.reduceAdd, Nat.reduceBEq, Nat.reduceLeDiff, Nat.reduceLT, Nat.reduceMul, Nat.reduceSub, Int.reduceEq, Int.reduceLT, Int.reduceLE, Int.reduceNeg, s11x, s11y, hx, hs, h15, h16, hlk, hbs, hst, dvT, l1', l2, hb, h12, put1, put2, l3, hc, h13]
                        refine ⟨by first | trivial | omega, by first | trivial | rfl, trivial⟩
                      | true =>
                        rw [hB] at h13 htk
                        simp only [Bool.and_eq_true, decide_eq_true_eq] at hB
                        have h14 := fun H => s14 36 H rc coc ac xc sc kc k' d' s' x' 1 L' f' 1 nw (.inl rfl) (Nat.le_trans (show L'.length ≤ 1000 by omega) (by decide))
                        cases hok : cmOK (k', d', s', x', L', f') with
                        | false =>
                          rw [hok] at htk
                          simp only [Bool.and_false, cond_false] at htk
                          have e14 : tkV rc coc ac xc sc kc k' d' s' x' L' 1 nw = .tup [.agg dvZ, .int .i64 1] := by
                            unfold tkV; rw [show cmB k' d' s' x' L' = false from hok]; simp
                          rw [e14] at h14
                          injection htk with g1 g2; injection g2 with g2 g3; injection g3 with g3 g4; injection g4 with g4 g5; injection g5 with g5 g6
                          subst g1 g2 g3 g4 g5 g6
                          simp only [go_sem, Int.cast_ofNat_Int, Int.reduceToNat, Bool.true_xor, Bool.false_xor, Bool.xor_true, Bool.xor_false, Nat.reduceAdd, Nat.reduceBEq, Nat.reduceLeDiff, Nat.reduceLT, Nat.reduceMul, Nat.reduceSub, Int.reduceEq, Int.reduceLT, Int.reduceLE, Int.reduceNeg, s11x, s11y, hx, hs, h15, h16, hlk, hbs, hst, dvT, l1', l2, hb, h12, put1, put2, l3, hc, h13, h14]
                          refine ⟨by first | trivial | omega, by first | trivial | rfl, trivial⟩
                        | true =>
                          have e14 := take_eq (q := 1) (t := nw) c1 hok (by decide) (by decide) b1 (by omega)
                          have n14 := (take_ok (q := 1) (t := nw) c1 hok).2.2.2
                          rw [hok] at htk
                          simp only [Bool.and_true, cond_true] at htk
                          generalize takeF (rc, coc, ac, xc, sc, kc) (k', d', s', x', L', f') 1 nw = w at *
                          obtain ⟨w, q⟩ := w
                          simp only at htk n14 e14
                          subst htk
                          rw [e14] at h14
                          have n15 : decide (q = 1) = false := decide_eq_false n14
                          simp only [dvT] at h14
                          simp only [go_sem, Int.cast_ofNat_Int, Int.reduceToNat, Bool.true_xor, Bool.false_xor, Bool.xor_true, Bool.xor_false, Nat.reduceAdd, Nat.reduceBEq, Nat.reduceLeDiff, Nat.reduceLT, Nat.reduceMul, Nat.reduceSub, Int.reduceEq, Int.reduceLT, Int.reduceLE, Int.reduceNeg, s11x, s11y, hx, hs, h15, h16, hlk, hbs, hst, dvT, l1', l2, hb, h12, put1, put2, l3, hc, h13, h14, n15]
                          refine ⟨by first | trivial | omega, by first | trivial | rfl, trivial⟩
                    · rw [List.getElem?_eq_none l3] at htk
                      simp only [tkS] at htk
                      injection htk with g1 g2; injection g2 with g2 g3; injection g3 with g3 g4; injection g4 with g4 g5; injection g5 with g5 g6
                      subst g1 g2 g3 g4 g5 g6
                      have l3' : decide (i < Ms.length) = false := decide_eq_false (by omega)
                      simp only [go_sem, Int.cast_ofNat_Int, Int.reduceToNat, Bool.true_xor, Bool.false_xor, Bool.xor_true, Bool.xor_false, Nat.reduceAdd, Nat.reduceBEq, Nat.reduceLeDiff, Nat.reduceLT, Nat.reduceMul, Nat.reduceSub, Int.reduceEq, Int.reduceLT, Int.reduceLE, Int.reduceNeg, s11x, s11y, hx, hs, h15, h16, hlk, hbs, hst, dvT, l1', l2, hb, h12, put1, put2, l3']
                      refine ⟨by first | trivial | omega, by first | trivial | rfl, trivial⟩
                  · rcases Nat.lt_or_ge i Ms.length with l3 | l3
                    · obtain ⟨⟨k', d', s', x', L', f'⟩, hc⟩ := getS l3
                      rw [hc] at htk
                      simp only [tkS] at htk
                      have h13 := fun H => s13 39 H k' d' s' x' 1 L' f'
                      cases hB : decide ((x'.size : Int) ≤ 100) && decide ((L'.length : Int) ≤ 40) with
                      | false =>
                        rw [hB] at h13 htk
                        simp only [Bool.false_and, cond_false] at htk
                        injection htk with g1 g2; injection g2 with g2 g3; injection g3 with g3 g4; injection g4 with g4 g5; injection g5 with g5 g6
                        subst g1 g2 g3 g4 g5 g6
                        simp only [go_sem, Int.cast_ofNat_Int, Int.reduceToNat, Bool.true_xor, Bool.false_xor, Bool.xor_true, Bool.xor_false, Nat.reduceAdd, Nat.reduceBEq, Nat.reduceLeDiff, Nat.reduceLT, Nat.reduceMul, Nat.reduceSub, Int.reduceEq, Int.reduceLT, Int.reduceLE, Int.reduceNeg, s11x, s11y, hx, hs, h15, h16, hlk, hbs, hst, dvT, l1', l2, hb, h12, put1, put2, l3, hc, h13]
                        refine ⟨by first | trivial | omega, by first | trivial | rfl, trivial⟩
                      | true =>
                        rw [hB] at h13 htk
                        simp only [Bool.and_eq_true, decide_eq_true_eq] at hB
                        have h14 := fun H => s14 36 H rc coc ac xc sc kc k' d' s' x' 1 L' f' 1 nw (.inl rfl) (Nat.le_trans (show L'.length ≤ 1000 by omega) (by decide))
                        cases hok : cmOK (k', d', s', x', L', f') with
                        | false =>
                          rw [hok] at htk
                          simp only [Bool.and_false, cond_false] at htk
                          have e14 : tkV rc coc ac xc sc kc k' d' s' x' L' 1 nw = .tup [.agg dvZ, .int .i64 1] := by
                            unfold tkV; rw [show cmB k' d' s' x' L' = false from hok]; simp
                          rw [e14] at h14
                          injection htk with g1 g2; injection g2 with g2 g3; injection g3 with g3 g4; injection g4 with g4 g5; injection g5 with g5 g6
                          subst g1 g2 g3 g4 g5 g6
                          simp only [go_sem, Int.cast_ofNat_Int, Int.reduceToNat, Bool.true_xor, Bool.false_xor, Bool.xor_true, Bool.xor_false, Nat.reduceAdd, Nat.reduceBEq, Nat.reduceLeDiff, Nat.reduceLT, Nat.reduceMul, Nat.reduceSub, Int.reduceEq, Int.reduceLT, Int.reduceLE, Int.reduceNeg, s11x, s11y, hx, hs, h15, h16, hlk, hbs, hst, dvT, l1', l2, hb, h12, put1, put2, l3, hc, h13, h14]
                          refine ⟨by first | trivial | omega, by first | trivial | rfl, trivial⟩
                        | true =>
                          have e14 := take_eq (q := 1) (t := nw) c1 hok (by decide) (by decide) b1 (by omega)
                          have n14 := (take_ok (q := 1) (t := nw) c1 hok).2.2.2
                          rw [hok] at htk
                          simp only [Bool.and_true, cond_true] at htk
                          generalize takeF (rc, coc, ac, xc, sc, kc) (k', d', s', x', L', f') 1 nw = w at *
                          obtain ⟨w, q⟩ := w
                          simp only at htk n14 e14
                          subst htk
                          rw [e14] at h14
                          have n15 : decide (q = 1) = false := decide_eq_false n14
                          simp only [dvT] at h14
                          simp only [go_sem, Int.cast_ofNat_Int, Int.reduceToNat, Bool.true_xor, Bool.false_xor, Bool.xor_true, Bool.xor_false, Nat.reduceAdd, Nat.reduceBEq, Nat.reduceLeDiff, Nat.reduceLT, Nat.reduceMul, Nat.reduceSub, Int.reduceEq, Int.reduceLT, Int.reduceLE, Int.reduceNeg, s11x, s11y, hx, hs, h15, h16, hlk, hbs, hst, dvT, l1', l2, hb, h12, put1, put2, l3, hc, h13, h14, n15]
                          refine ⟨by first | trivial | omega, by first | trivial | rfl, trivial⟩
                    · rw [List.getElem?_eq_none l3] at htk
                      simp only [tkS] at htk
                      injection htk with g1 g2; injection g2 with g2 g3; injection g3 with g3 g4; injection g4 with g4 g5; injection g5 with g5 g6
                      subst g1 g2 g3 g4 g5 g6
                      have l3' : decide (i < Ms.length) = false := decide_eq_false (by omega)
                      simp only [go_sem, Int.cast_ofNat_Int, Int.reduceToNat, Bool.true_xor, Bool.false_xor, Bool.xor_true, Bool.xor_false, Nat.reduceAdd, Nat.reduceBEq, Nat.reduceLeDiff, Nat.reduceLT, Nat.reduceMul, Nat.reduceSub, Int.reduceEq, Int.reduceLT, Int.reduceLE, Int.reduceNeg, s11x, s11y, hx, hs, h15, h16, hlk, hbs, hst, dvT, l1', l2, hb, h12, put1, put2, l3']
                      refine ⟨by first | trivial | omega, by first | trivial | rfl, trivial⟩
                · rw [List.getElem?_eq_none l2] at hcp
                  simp only [cplS] at hcp
                  injection hcp with g g0; injection g with g1 g2; injection g2 with g2 g3; injection g3 with g3 g4; injection g4 with g4 g5; injection g5 with g5 g6
                  subst g0 g1 g2 g3 g4 g5 g6
                  have l2' : decide (i < Cs.length) = false := decide_eq_false (by omega)
                  rcases Nat.lt_or_ge i Ms.length with l3 | l3
                  · obtain ⟨⟨k', d', s', x', L', f'⟩, hc⟩ := getS l3
                    rw [hc] at htk
                    simp only [tkS] at htk
                    have h13 := fun H => s13 39 H k' d' s' x' 1 L' f'
                    cases hB : decide ((x'.size : Int) ≤ 100) && decide ((L'.length : Int) ≤ 40) with
                    | false =>
                      rw [hB] at h13 htk
                      simp only [Bool.false_and, cond_false] at htk
                      injection htk with g1 g2; injection g2 with g2 g3; injection g3 with g3 g4; injection g4 with g4 g5; injection g5 with g5 g6
                      subst g1 g2 g3 g4 g5 g6
                      simp only [go_sem, Int.cast_ofNat_Int, Int.reduceToNat, Bool.true_xor, Bool.false_xor, Bool.xor_true, Bool.xor_false, Nat.reduceAdd, Nat.reduceBEq, Nat.reduceLeDiff, Nat.reduceLT, Nat.reduceMul, Nat.reduceSub, Int.reduceEq, Int.reduceLT, Int.reduceLE, Int.reduceNeg, s11x, s11y, hx, hs, h15, h16, hlk, hbs, hst, dvT, l1', l2', l3, hc, h13]
                      refine ⟨by first | trivial | omega, by first | trivial | rfl, trivial⟩
                    | true =>
                      rw [hB] at h13 htk
                      simp only [Bool.and_eq_true, decide_eq_true_eq] at hB
                      have h14 := fun H => s14 36 H r co a x s k k' d' s' x' 1 L' f' 1 nw (.inl rfl) (Nat.le_trans (show L'.length ≤ 1000 by omega) (by decide))
                      cases hok : cmOK (k', d', s', x', L', f') with
                      | false =>
                        rw [hok] at htk
                        simp only [Bool.and_false, cond_false] at htk
                        have e14 : tkV r co a x s k k' d' s' x' L' 1 nw = .tup [.agg dvZ, .int .i64 1] := by
                          unfold tkV; rw [show cmB k' d' s' x' L' = false from hok]; simp
                        rw [e14] at h14
                        injection htk with g1 g2; injection g2 with g2 g3; injection g3 with g3 g4; injection g4 with g4 g5; injection g5 with g5 g6
                        subst g1 g2 g3 g4 g5 g6
                        simp only [go_sem, Int.cast_ofNat_Int, Int.reduceToNat, Bool.true_xor, Bool.false_xor, Bool.xor_true, Bool.xor_false, Nat.reduceAdd, Nat.reduceBEq, Nat.reduceLeDiff, Nat.reduceLT, Nat.reduceMul, Nat.reduceSub, Int.reduceEq, Int.reduceLT, Int.reduceLE, Int.reduceNeg, s11x, s11y, hx, hs, h15, h16, hlk, hbs, hst, dvT, l1', l2', l3, hc, h13, h14]
                        refine ⟨by first | trivial | omega, by first | trivial | rfl, trivial⟩
                      | true =>
                        have e14 := take_eq (q := 1) (t := nw) c1 hok (by decide) (by decide) b1 (by omega)
                        have n14 := (take_ok (q := 1) (t := nw) c1 hok).2.2.2
                        rw [hok] at htk
                        simp only [Bool.and_true, cond_true] at htk
                        generalize takeF (r, co, a, x, s, k) (k', d', s', x', L', f') 1 nw = w at *
                        obtain ⟨w, q⟩ := w
                        simp only at htk n14 e14
                        subst htk
                        rw [e14] at h14
                        have n15 : decide (q = 1) = false := decide_eq_false n14
                        simp only [dvT] at h14
                        simp only [go_sem, Int.cast_ofNat_Int, Int.reduceToNat, Bool.true_xor, Bool.false_xor, Bool.xor_true, Bool.xor_false, Nat.reduceAdd, Nat.reduceBEq, Nat.reduceLeDiff, Nat.reduceLT, Nat.reduceMul, Nat.reduceSub, Int.reduceEq, Int.reduceLT, Int.reduceLE, Int.reduceNeg, s11x, s11y, hx, hs, h15, h16, hlk, hbs, hst, dvT, l1', l2', l3, hc, h13, h14, n15]
                        refine ⟨by first | trivial | omega, by first | trivial | rfl, trivial⟩
                  · rw [List.getElem?_eq_none l3] at htk
                    simp only [tkS] at htk
                    injection htk with g1 g2; injection g2 with g2 g3; injection g3 with g3 g4; injection g4 with g4 g5; injection g5 with g5 g6
                    subst g1 g2 g3 g4 g5 g6
                    have l3' : decide (i < Ms.length) = false := decide_eq_false (by omega)
                    simp only [go_sem, Int.cast_ofNat_Int, Int.reduceToNat, Bool.true_xor, Bool.false_xor, Bool.xor_true, Bool.xor_false, Nat.reduceAdd, Nat.reduceBEq, Nat.reduceLeDiff, Nat.reduceLT, Nat.reduceMul, Nat.reduceSub, Int.reduceEq, Int.reduceLT, Int.reduceLE, Int.reduceNeg, s11x, s11y, hx, hs, h15, h16, hlk, hbs, hst, dvT, l1', l2', l3']
                    refine ⟨by first | trivial | omega, by first | trivial | rfl, trivial⟩
          · have hx : decide ((i : Int) < max (Cs.length : Int) Ms.length) = false := decide_eq_false (by omega)
            simp only [go_sem, Int.cast_ofNat_Int, Int.reduceToNat, Bool.true_xor, Bool.false_xor, Bool.xor_true, Bool.xor_false, Nat.reduceAdd, Nat.reduceBEq, Nat.reduceLeDiff, Nat.reduceLT, Nat.reduceMul, Nat.reduceSub, Int.reduceEq, Int.reduceLT, Int.reduceLE, Int.reduceNeg, hx]
end Go.Sh
namespace Go.Sh
set_option linter.unusedSectionVars false
set_option linter.unnecessarySimpa false
set_option linter.unusedVariables false
set_option linter.unusedSimpArgs false
set_option maxRecDepth 100000
set_option maxHeartbeats 4000000
theorem cmS_of : ∀ {L : List (List SV)}, (∀ q ∈ L, FitsL [.int .i64, .int .i64, .int .i64, .str, .lst [.int .i64]] q) → ∃ M, L = cmS M
  | [], _ => ⟨[], rfl⟩
  | c :: L, h => by
    obtain ⟨M, rfl⟩ := cmS_of (L := L) (fun q hq => h q (by simp [hq]))
    obtain ⟨k, r, rfl, _, g⟩ := fitsL_i (h c (by simp))
    obtain ⟨d, r, rfl, _, g⟩ := fitsL_i g
    obtain ⟨s, r, rfl, _, g⟩ := fitsL_i g
    obtain ⟨x, r, rfl, _, g⟩ := fitsL_s g
    obtain ⟨L1, f, r, rfl, _, q1, g⟩ := fitsL_l g
    obtain rfl := fitsL_nil' g
    obtain ⟨N, rfl⟩ := iS_of q1
    exact ⟨(k, d, s, x, N, f) :: M, rfl⟩
theorem tsS_of : ∀ {L : List (List SV)}, (∀ q ∈ L, FitsL [.int .u8] q) → ∃ M, L = tsS M ∧ ∀ u ∈ M, 0 ≤ u ∧ u ≤ 255
  | [], _ => ⟨[], rfl, by simp⟩
  | c :: L, h => by
    obtain ⟨M, rfl, hM⟩ := tsS_of (L := L) (fun q hq => h q (by simp [hq]))
    obtain ⟨k, r, rfl, hk, g⟩ := fitsL_i (h c (by simp))
    obtain rfl := fitsL_nil' g
    refine ⟨k :: M, rfl, fun u hu => ?_⟩
    rcases List.mem_cons.1 hu with rfl | hu
    · exact u8_wf hk
    · exact hM u hu
theorem law3 (xs : List SV) (h : FitsAll [(false, [.lst [.bool]]), (false, [.lst [.int .i64, .int .i64, .int .i64, .str, .lst [.int .i64]]]), (false, [.lst [.int .u8]])] xs) : ∃ m, call1 T m (.fn 3) xs heap0 = some (.bool true, heap0) := by
  obtain ⟨x1, r1, rfl, h1, h⟩ := fitsAll_cons h
  obtain ⟨x2, r2, rfl, h2, h⟩ := fitsAll_cons h
  obtain ⟨x3, r3, rfl, h3, h⟩ := fitsAll_cons h
  cases fitsAll_nil h
  obtain ⟨L, f, rfl, hL, q⟩ := fits_lst (fitsA_one h1)
  obtain ⟨W, rfl⟩ := bbS_of q
  obtain ⟨L2, f2, rfl, hL2, q2⟩ := fits_lst (fitsA_one h2)
  obtain ⟨M, rfl⟩ := cmS_of q2
  obtain ⟨L3, f3, rfl, hL3, q3⟩ := fits_lst (fitsA_one h3)
  obtain ⟨N, rfl, hN⟩ := tsS_of q3
  exact ⟨41, s3 W f M f2 N f3 hN⟩
end Go.Sh
