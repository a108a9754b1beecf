

import Derived.Test.YtomapffoalmodaaC1
import Derived.Test.YtomapffoalmodaaB4
namespace Go.Sh
set_option linter.unusedSectionVars false
set_option linter.unnecessarySimpa false
set_option linter.unusedVariables false
set_option linter.unusedSimpArgs false
set_option maxRecDepth 100000
set_option maxHeartbeats 4000000
def idB (s : ByteArray) : Bool := decide ((s.size : Int) = 32)
theorem s42 (n : Nat) (H : Heap) (s : ByteArray) : call1 T (n + 1) (.fn 42) [.str s] H = some (.bool (idB s), H) := by
  refine call_pure e42 (by rfl) ?_
  simp only [c42, heap0, go_sem, Int.cast_ofNat_Int, Int.reduceToNat, Bool.true_xor, Bool.false_xor, Bool.xor_true, Bool.xor_false, Nat.reduceAdd, Nat.reduceBEq, Nat.reduceLeDiff, Nat.reduceLT, Nat.reduceMul, Nat.reduceSub, Int.reduceEq, Int.reduceLT, Int.reduceLE, Int.reduceNeg, idB]
theorem s56 (n : Nat) (H : Heap) (s : ByteArray) : call1 T (n + 1) (.fn 56) [.str s] H = some (.bool (idB s), H) := by
  refine call_pure e56 (by rfl) ?_
  simp only [c56, heap0, go_sem, Int.cast_ofNat_Int, Int.reduceToNat, Bool.true_xor, Bool.false_xor, Bool.xor_true, Bool.xor_false, Nat.reduceAdd, Nat.reduceBEq, Nat.reduceLeDiff, Nat.reduceLT, Nat.reduceMul, Nat.reduceSub, Int.reduceEq, Int.reduceLT, Int.reduceLE, Int.reduceNeg, idB]
/-- A device. -/
abbrev dv (r c : ByteArray) (a : Bool) (x : ByteArray) (s k : Int) : List SV := [.str r, .str c, .bool a, .str x, .int .i64 s, .int .i64 k]
theorem s43 (n : Nat) (H : Heap) (r c : ByteArray) (a : Bool) (x : ByteArray) (s k : Int) : call1 T (n + 1) (.fn 43) [.agg (dv r c a x s k)] H = some (.agg (dv r c false ⟨#[]⟩ 0 k), H) := by
  refine call_pure e43 (by rfl) ?_
  simp only [c43, heap0, go_sem, Int.cast_ofNat_Int, Int.reduceToNat, Bool.true_xor, Bool.false_xor, Bool.xor_true, Bool.xor_false, Nat.reduceAdd, Nat.reduceBEq, Nat.reduceLeDiff, Nat.reduceLT, Nat.reduceMul, Nat.reduceSub, Int.reduceEq, Int.reduceLT, Int.reduceLE, Int.reduceNeg, dv]
def emB (s : ByteArray) : Bool := decide (s = ⟨#[]⟩) || idB s
theorem s47 (n : Nat) (H : Heap) (s : ByteArray) : call1 T (n + 2) (.fn 47) [.str s] H = some (.bool (emB s), H) := by
  refine call_pure e47 (by rfl) ?_
  simp only [c47, heap0, go_sem, Int.cast_ofNat_Int, Int.reduceToNat, Bool.true_xor, Bool.false_xor, Bool.xor_true, Bool.xor_false, Nat.reduceAdd, Nat.reduceBEq, Nat.reduceLeDiff, Nat.reduceLT, Nat.reduceMul, Nat.reduceSub, Int.reduceEq, Int.reduceLT, Int.reduceLE, Int.reduceNeg, s42, emB]
  repeat' (with_reducible refine fork_split (fun _ => ?_) (fun _ => ?_) <;> simp only [*, go_sem, Int.cast_ofNat_Int, Int.reduceToNat, Bool.true_xor, Bool.false_xor, Bool.xor_true, Bool.xor_false, Nat.reduceAdd, Nat.reduceBEq, Nat.reduceLeDiff, Nat.reduceLT, Nat.reduceMul, Nat.reduceSub, Int.reduceEq, Int.reduceLT, Int.reduceLE, Int.reduceNeg, s42])
/-- Whether a device is right. -/
def dvB (r c : ByteArray) (a : Bool) (x : ByteArray) (s k : Int) : Bool :=
  emB r && emB c && decide (0 ≤ k) && decide (k ≤ 1048576) && bif a then idB x && decide (x = c) && decide (1 ≤ s) && decide (s ≤ 1073741824) else decide (x = ⟨#[]⟩) && decide (s = 0)
end Go.Sh
namespace Go.Sh
set_option linter.unusedSectionVars false
set_option linter.unnecessarySimpa false
set_option linter.unusedVariables false
set_option linter.unusedSimpArgs false
set_option maxRecDepth 100000
set_option maxHeartbeats 4000000
theorem s16 (n : Nat) (H : Heap) (r c : ByteArray) (a : Bool) (x : ByteArray) (s k : Int) : call1 T (n + 3) (.fn 16) [.agg (dv r c a x s k)] H = some (.int .i64 (bif dvB r c a x s k then 0 else 1), H) := by
  refine call_pure e16 (by rfl) ?_
  simp only [c16, heap0, go_sem, Int.cast_ofNat_Int, Int.reduceToNat, Bool.true_xor, Bool.false_xor, Bool.xor_true, Bool.xor_false, Nat.reduceAdd, Nat.reduceBEq, Nat.reduceLeDiff, Nat.reduceLT, Nat.reduceMul, Nat.reduceSub, Int.reduceEq, Int.reduceLT, Int.reduceLE, Int.reduceNeg, s42, s47, dv]
  cases hx : idB x <;> cases hr : emB r <;> cases hc : emB c <;> cases a <;> simp only [go_sem, Int.cast_ofNat_Int, Int.reduceToNat, Bool.true_xor, Bool.false_xor, Bool.xor_true, Bool.xor_false, Nat.reduceAdd, Nat.reduceBEq, Nat.reduceLeDiff, Nat.reduceLT, Nat.reduceMul, Nat.reduceSub, Int.reduceEq, Int.reduceLT, Int.reduceLE, Int.reduceNeg, s42, s47, hx, hr, hc, dvB]
  repeat' (with_reducible refine fork_split (fun _ => ?_) (fun _ => ?_) <;> simp only [*, go_sem, Int.cast_ofNat_Int, Int.reduceToNat, Bool.true_xor, Bool.false_xor, Bool.xor_true, Bool.xor_false, Nat.reduceAdd, Nat.reduceBEq, Nat.reduceLeDiff, Nat.reduceLT, Nat.reduceMul, Nat.reduceSub, Int.reduceEq, Int.reduceLT, Int.reduceLE, Int.reduceNeg, s42, s47])
  all_goals (refine congrArg some (congrArg (SV.int .i64) ?_); first | (simp_all; done) | (simp only [Bool.cond_eq_ite]; clear hr hc hx; grind))
end Go.Sh
namespace Go.Sh
set_option linter.unusedSectionVars false
set_option linter.unnecessarySimpa false
set_option linter.unusedVariables false
set_option linter.unusedSimpArgs false
set_option maxRecDepth 100000
set_option maxHeartbeats 4000000
/-- Whether a list of nodes is right. -/
def lsP (L : List Int) (i : Nat) : Prop := ∀ x, L[i]? = some x → 0 ≤ x ∧ x < 32 ∧ (0 < i → ∀ y, L[i - 1]? = some y → y < x)
instance (L : List Int) (i : Nat) : Decidable (lsP L i) := by
  unfold lsP
  cases L[i]? with
  | none => exact isTrue (by simp)
  | some x => exact decidable_of_iff (0 ≤ x ∧ x < 32 ∧ (0 < i → ∀ y, L[i - 1]? = some y → y < x)) (by simp)
def lsB (L : List Int) : Bool := decide (0 < L.length) && decide (∀ i, i < L.length → lsP L i)
theorem lsB_yes {L : List Int} (h : 0 < L.length) (h2 : ∀ i, i < L.length → lsP L i) : lsB L = true := by
  unfold lsB; rw [decide_eq_true h, decide_eq_true h2]; rfl
theorem lsB_no {L : List Int} {i : Nat} (h : i < L.length) (h2 : ¬ lsP L i) : lsB L = false := by
  have : decide (∀ i, i < L.length → lsP L i) = false := decide_eq_false (fun h3 => h2 (h3 i h))
  unfold lsB; rw [this]; simp
theorem lsB_nil : lsB [] = false := by simp [lsB]
theorem s54 (n : Nat) (H : Heap) (z : Nat) (L : List Int) (f : Bool) (hz : z = 1 ∨ L = []) (hL : L.length ≤ maxLen) : call1 T (n + 1) (.fn 54) [.lst z (iS L) f] H = some (.bool (lsB L), H) := by
  refine call_pure e54 (by rfl) ?_
  simp only [c54, heap0, go_sem, Int.cast_ofNat_Int, Int.reduceToNat, Bool.true_xor, Bool.false_xor, Bool.xor_true, Bool.xor_false, Nat.reduceAdd, Nat.reduceBEq, Nat.reduceLeDiff, Nat.reduceLT, Nat.reduceMul, Nat.reduceSub, Int.reduceEq, Int.reduceLT, Int.reduceLE, Int.reduceNeg]
  refine loop_rule (fun i => ([(0, .lst z (iS L) f), (5, .lst z (iS L) f), (6, .int .i64 L.length), (7, .int .i64 i)], ⟨[], [], 0⟩)) (fun i => ∀ j, j < i → lsP L j) L.length ?_ (fun j h => by omega) ?_
  · simp only [go_sem, Int.cast_ofNat_Int, Int.reduceToNat, Bool.true_xor, Bool.false_xor, Bool.xor_true, Bool.xor_false, Nat.reduceAdd, Nat.reduceBEq, Nat.reduceLeDiff, Nat.reduceLT, Nat.reduceMul, Nat.reduceSub, Int.reduceEq, Int.reduceLT, Int.reduceLE, Int.reduceNeg] <;> rfl
  · intro i hi hI
    rcases Nat.lt_or_ge i L.length with hlt | hge
    · obtain ⟨x, hx⟩ := getS hlt
      obtain rfl : z = 1 := hz.resolve_right (by rintro rfl; simp at hlt)
      have hs := w64_suc hlt hL
      have key : (0 ≤ x ∧ x < 32 ∧ (0 < i → ∀ y, L[i - 1]? = some y → y < x)) → lsP L i := fun h x' hx' => by rw [hx] at hx'; cases hx'; exact h
      have key2 : ¬ (0 ≤ x ∧ x < 32 ∧ (0 < i → ∀ y, L[i - 1]? = some y → y < x)) → ¬ lsP L i := fun h h2 => h (h2 x hx)
      simp only [go_sem, Int.cast_ofNat_Int, Int.reduceToNat, Bool.true_xor, Bool.false_xor, Bool.xor_true, Bool.xor_false, Nat.reduceAdd, Nat.reduceBEq, Nat.reduceLeDiff, Nat.reduceLT, Nat.reduceMul, Nat.reduceSub, Int.reduceEq, Int.reduceLT, Int.reduceLE, Int.reduceNeg, hlt, hx]
      with_reducible refine post_fork (fun h1 => ?_) (fun h1 => ?_) <;> simp only [go_sem, Int.cast_ofNat_Int, Int.reduceToNat, Bool.true_xor, Bool.false_xor, Bool.xor_true, Bool.xor_false, Nat.reduceAdd, Nat.reduceBEq, Nat.reduceLeDiff, Nat.reduceLT, Nat.reduceMul, Nat.reduceSub, Int.reduceEq, Int.reduceLT, Int.reduceLE, Int.reduceNeg, h1]
      · rw [lsB_no hlt (key2 (by rintro ⟨h, _⟩; simp at h1; omega))]
      with_reducible refine post_fork (fun h2 => ?_) (fun h2 => ?_) <;> simp only [go_sem, Int.cast_ofNat_Int, Int.reduceToNat, Bool.true_xor, Bool.false_xor, Bool.xor_true, Bool.xor_false, Nat.reduceAdd, Nat.reduceBEq, Nat.reduceLeDiff, Nat.reduceLT, Nat.reduceMul, Nat.reduceSub, Int.reduceEq, Int.reduceLT, Int.reduceLE, Int.reduceNeg, h2]
      · rw [lsB_no hlt (key2 (by rintro ⟨_, h, _⟩; simp at h2; omega))]
      cases i with
      | zero =>
        simp only [go_sem, Int.cast_ofNat_Int, Int.reduceToNat, Bool.true_xor, Bool.false_xor, Bool.xor_true, Bool.xor_false, Nat.reduceAdd, Nat.reduceBEq, Nat.reduceLeDiff, Nat.reduceLT, Nat.reduceMul, Nat.reduceSub, Int.reduceEq, Int.reduceLT, Int.reduceLE, Int.reduceNeg, hs]
        refine ⟨hlt, rfl, fun j hj => ?_⟩
        obtain rfl : j = 0 := by omega
        exact key ⟨by simpa using h1, by simpa using h2, fun h => by omega⟩
      | succ i =>
        have hlt' : i < L.length := by omega
        obtain ⟨y, hy⟩ := getS hlt'
        have h01 : decide ((0 : Int) < ((i + 1 : Nat) : Int)) = true := decide_eq_true (by omega)
        have hm : maxLen = 9223372036854775807 := rfl
        have hpr : w64 (((i + 1 : Nat) : Int) - 1) = (i : Nat) := by rw [w64_id (by omega) (by omega)]; omega
        simp only [go_sem, Int.cast_ofNat_Int, Int.reduceToNat, Bool.true_xor, Bool.false_xor, Bool.xor_true, Bool.xor_false, Nat.reduceAdd, Nat.reduceBEq, Nat.reduceLeDiff, Nat.reduceLT, Nat.reduceMul, Nat.reduceSub, Int.reduceEq, Int.reduceLT, Int.reduceLE, Int.reduceNeg, h01, hpr, hy, hlt', hlt]
        with_reducible refine post_fork (fun h3 => ?_) (fun h3 => ?_) <;> simp only [go_sem, Int.cast_ofNat_Int, Int.reduceToNat, Bool.true_xor, Bool.false_xor, Bool.xor_true, Bool.xor_false, Nat.reduceAdd, Nat.reduceBEq, Nat.reduceLeDiff, Nat.reduceLT, Nat.reduceMul, Nat.reduceSub, Int.reduceEq, Int.reduceLT, Int.reduceLE, Int.reduceNeg, h3]
        · rw [lsB_no hlt (key2 (by
            rintro ⟨_, _, h⟩
            have := h (by omega) y hy
            simp at h3; omega))]
        · simp only [hs]
          refine ⟨by omega, by first | trivial | rfl, fun j hj => ?_⟩
          rcases Nat.lt_or_ge j (i + 1) with h4 | h4
          · exact hI j h4
          · obtain rfl : j = i + 1 := by omega
            refine key ⟨by simpa using h1, by simpa using h2, fun _ y' hy' => ?_⟩
            simp only [Nat.add_sub_cancel] at hy'
            rw [hy] at hy'; cases hy'
            simpa using h3
    · obtain rfl : i = L.length := by omega
      have hd : decide (L.length < L.length) = false := decide_eq_false (by omega)
      simp only [go_sem, Int.cast_ofNat_Int, Int.reduceToNat, Bool.true_xor, Bool.false_xor, Bool.xor_true, Bool.xor_false, Nat.reduceAdd, Nat.reduceBEq, Nat.reduceLeDiff, Nat.reduceLT, Nat.reduceMul, Nat.reduceSub, Int.reduceEq, Int.reduceLT, Int.reduceLE, Int.reduceNeg, hd]
      refine congrArg some (congrArg SV.bool ?_)
      unfold lsB
      rw [decide_eq_true (p := ∀ i, i < L.length → lsP L i) hI]
      simp
end Go.Sh
namespace Go.Sh
set_option linter.unusedSectionVars false
set_option linter.unnecessarySimpa false
set_option linter.unusedVariables false
set_option linter.unusedSimpArgs false
set_option maxRecDepth 100000
set_option maxHeartbeats 4000000
theorem s57 (n : Nat) (H : Heap) (z : Nat) (L : List Int) (f : Bool) (hz : z = 1 ∨ L = []) (hL : L.length ≤ maxLen) : call1 T (n + 1) (.fn 57) [.lst z (iS L) f] H = some (.bool (lsB L), H) := by
  refine call_pure e57 (by rfl) ?_
  simp only [c57, heap0, go_sem, Int.cast_ofNat_Int, Int.reduceToNat, Bool.true_xor, Bool.false_xor, Bool.xor_true, Bool.xor_false, Nat.reduceAdd, Nat.reduceBEq, Nat.reduceLeDiff, Nat.reduceLT, Nat.reduceMul, Nat.reduceSub, Int.reduceEq, Int.reduceLT, Int.reduceLE, Int.reduceNeg]
  refine loop_rule (fun i => ([(0, .lst z (iS L) f), (3, .int .i64 i)], ⟨[], [], 0⟩)) (fun i => ∀ j, j < i → lsP L j) L.length ?_ (fun j h => by omega) ?_
  · simp only [go_sem, Int.cast_ofNat_Int, Int.reduceToNat, Bool.true_xor, Bool.false_xor, Bool.xor_true, Bool.xor_false, Nat.reduceAdd, Nat.reduceBEq, Nat.reduceLeDiff, Nat.reduceLT, Nat.reduceMul, Nat.reduceSub, Int.reduceEq, Int.reduceLT, Int.reduceLE, Int.reduceNeg] <;> rfl
  · intro i hi hI
    rcases Nat.lt_or_ge i L.length with hlt | hge
    · obtain ⟨x, hx⟩ := getS hlt
      obtain rfl : z = 1 := hz.resolve_right (by rintro rfl; simp at hlt)
      have hs := w64_suc hlt hL
      have key : (0 ≤ x ∧ x < 32 ∧ (0 < i → ∀ y, L[i - 1]? = some y → y < x)) → lsP L i := fun h x' hx' => by rw [hx] at hx'; cases hx'; exact h
      have key2 : ¬ (0 ≤ x ∧ x < 32 ∧ (0 < i → ∀ y, L[i - 1]? = some y → y < x)) → ¬ lsP L i := fun h h2 => h (h2 x hx)
      simp only [go_sem, Int.cast_ofNat_Int, Int.reduceToNat, Bool.true_xor, Bool.false_xor, Bool.xor_true, Bool.xor_false, Nat.reduceAdd, Nat.reduceBEq, Nat.reduceLeDiff, Nat.reduceLT, Nat.reduceMul, Nat.reduceSub, Int.reduceEq, Int.reduceLT, Int.reduceLE, Int.reduceNeg, hlt, hx]
      with_reducible refine post_fork (fun h1 => ?_) (fun h1 => ?_) <;> simp only [go_sem, Int.cast_ofNat_Int, Int.reduceToNat, Bool.true_xor, Bool.false_xor, Bool.xor_true, Bool.xor_false, Nat.reduceAdd, Nat.reduceBEq, Nat.reduceLeDiff, Nat.reduceLT, Nat.reduceMul, Nat.reduceSub, Int.reduceEq, Int.reduceLT, Int.reduceLE, Int.reduceNeg, h1]
      · rw [lsB_no hlt (key2 (by rintro ⟨h, _⟩; simp at h1; omega))]
      simp only [go_sem, Int.cast_ofNat_Int, Int.reduceToNat, Bool.true_xor, Bool.false_xor, Bool.xor_true, Bool.xor_false, Nat.reduceAdd, Nat.reduceBEq, Nat.reduceLeDiff, Nat.reduceLT, Nat.reduceMul, Nat.reduceSub, Int.reduceEq, Int.reduceLT, Int.reduceLE, Int.reduceNeg, hlt, hx]
      with_reducible refine post_fork (fun h2 => ?_) (fun h2 => ?_) <;> simp only [go_sem, Int.cast_ofNat_Int, Int.reduceToNat, Bool.true_xor, Bool.false_xor, Bool.xor_true, Bool.xor_false, Nat.reduceAdd, Nat.reduceBEq, Nat.reduceLeDiff, Nat.reduceLT, Nat.reduceMul, Nat.reduceSub, Int.reduceEq, Int.reduceLT, Int.reduceLE, Int.reduceNeg, h2]
      · rw [lsB_no hlt (key2 (by rintro ⟨_, h, _⟩; simp at h2; omega))]
      cases i with
      | zero =>
        simp only [go_sem, Int.cast_ofNat_Int, Int.reduceToNat, Bool.true_xor, Bool.false_xor, Bool.xor_true, Bool.xor_false, Nat.reduceAdd, Nat.reduceBEq, Nat.reduceLeDiff, Nat.reduceLT, Nat.reduceMul, Nat.reduceSub, Int.reduceEq, Int.reduceLT, Int.reduceLE, Int.reduceNeg, hs]
        refine ⟨hlt, rfl, fun j hj => ?_⟩
        obtain rfl : j = 0 := by omega
        exact key ⟨by simpa using h1, by simpa using h2, fun h => by omega⟩
      | succ i =>
        have hlt' : i < L.length := by omega
        obtain ⟨y, hy⟩ := getS hlt'
        have h01 : decide ((0 : Int) < ((i + 1 : Nat) : Int)) = true := decide_eq_true (by omega)
        have hm : maxLen = 9223372036854775807 := rfl
        have hpr : w64 (((i + 1 : Nat) : Int) - 1) = (i : Nat) := by rw [w64_id (by omega) (by omega)]; omega
        simp only [go_sem, Int.cast_ofNat_Int, Int.reduceToNat, Bool.true_xor, Bool.false_xor, Bool.xor_true, Bool.xor_false, Nat.reduceAdd, Nat.reduceBEq, Nat.reduceLeDiff, Nat.reduceLT, Nat.reduceMul, Nat.reduceSub, Int.reduceEq, Int.reduceLT, Int.reduceLE, Int.reduceNeg, h01, hpr, hy, hlt', hlt, hx]
        with_reducible refine post_fork (fun h3 => ?_) (fun h3 => ?_) <;> simp only [go_sem, Int.cast_ofNat_Int, Int.reduceToNat, Bool.true_xor, Bool.false_xor, Bool.xor_true, Bool.xor_false, Nat.reduceAdd, Nat.reduceBEq, Nat.reduceLeDiff, Nat.reduceLT, Nat.reduceMul, Nat.reduceSub, Int.reduceEq, Int.reduceLT, Int.reduceLE, Int.reduceNeg, h3]
        · rw [lsB_no hlt (key2 (by
            rintro ⟨_, _, h⟩
            have := h (by omega) y hy
            simp at h3; omega))]
        · simp only [hs]
          refine ⟨by omega, by first | trivial | rfl, fun j hj => ?_⟩
          rcases Nat.lt_or_ge j (i + 1) with h4 | h4
          · exact hI j h4
          · obtain rfl : j = i + 1 := by omega
            refine key ⟨by simpa using h1, by simpa using h2, fun _ y' hy' => ?_⟩
            simp only [Nat.add_sub_cancel] at hy'
            rw [hy] at hy'; cases hy'
            simpa using h3
    · obtain rfl : i = L.length := by omega
      have hd : decide (L.length < L.length) = false := decide_eq_false (by omega)
      simp only [go_sem, Int.cast_ofNat_Int, Int.reduceToNat, Bool.true_xor, Bool.false_xor, Bool.xor_true, Bool.xor_false, Nat.reduceAdd, Nat.reduceBEq, Nat.reduceLeDiff, Nat.reduceLT, Nat.reduceMul, Nat.reduceSub, Int.reduceEq, Int.reduceLT, Int.reduceLE, Int.reduceNeg, hd]
      refine congrArg some (congrArg SV.bool ?_)
      unfold lsB
      rw [decide_eq_true (p := ∀ i, i < L.length → lsP L i) hI]
      simp
/-- A command: number, kind, slot, identifier, nodes. -/
abbrev cm (k d s : Int) (x : ByteArray) (z : Nat) (L : List Int) (f : Bool) : List SV := [.int .i64 k, .int .i64 d, .int .i64 s, .str x, .lst z (iS L) f]
def cmB (k d s : Int) (x : ByteArray) (L : List Int) : Bool :=
  decide (1 ≤ k) && decide (k ≤ 1048576) && idB x && lsB L && (decide (d = 1) && decide (1 ≤ s) && decide (s ≤ 1073741824) || decide (d = 2) && decide (s = 0))
theorem s44 (n : Nat) (H : Heap) (k d s : Int) (x : ByteArray) (z : Nat) (L : List Int) (f : Bool) (hz : z = 1 ∨ L = []) (hL : L.length ≤ maxLen) : call1 T (n + 2) (.fn 44) [.agg (cm k d s x z L f)] H = some (.bool (cmB k d s x L), H) := by
  refine call_pure e44 (by rfl) ?_
  have h54 := fun H => s54 n H z L f hz hL
  simp only [c44, heap0, go_sem, Int.cast_ofNat_Int, Int.reduceToNat, Bool.true_xor, Bool.false_xor, Bool.xor_true, Bool.xor_false, Nat.reduceAdd, Nat.reduceBEq, Nat.reduceLeDiff, Nat.reduceLT, Nat.reduceMul, Nat.reduceSub, Int.reduceEq, Int.reduceLT, Int.reduceLE, Int.reduceNeg, s42, h54, cm]
  repeat' (with_reducible refine fork_split (fun _ => ?_) (fun _ => ?_) <;> simp only [*, go_sem, Int.cast_ofNat_Int, Int.reduceToNat, Bool.true_xor, Bool.false_xor, Bool.xor_true, Bool.xor_false, Nat.reduceAdd, Nat.reduceBEq, Nat.reduceLeDiff, Nat.reduceLT, Nat.reduceMul, Nat.reduceSub, Int.reduceEq, Int.reduceLT, Int.reduceLE, Int.reduceNeg, s42, h54])
  all_goals
    clear h54
    refine congrArg some (congrArg SV.bool ?_)
    simp only [cmB]
    generalize idB x = X at *
    generalize lsB L = Y at *
    clear hz hL
    grind
theorem s49 (n : Nat) (H : Heap) (k d s : Int) (x : ByteArray) (z : Nat) (L : List Int) (f : Bool) (hz : z = 1 ∨ L = []) (hL : L.length ≤ maxLen) : call1 T (n + 2) (.fn 49) [.agg (cm k d s x z L f)] H = some (.bool (cmB k d s x L), H) := by
  refine call_pure e49 (by rfl) ?_
  have h57 := fun H => s57 n H z L f hz hL
  simp only [c49, heap0, go_sem, Int.cast_ofNat_Int, Int.reduceToNat, Bool.true_xor, Bool.false_xor, Bool.xor_true, Bool.xor_false, Nat.reduceAdd, Nat.reduceBEq, Nat.reduceLeDiff, Nat.reduceLT, Nat.reduceMul, Nat.reduceSub, Int.reduceEq, Int.reduceLT, Int.reduceLE, Int.reduceNeg, s56, h57, cm]
  repeat' (with_reducible refine fork_split (fun _ => ?_) (fun _ => ?_) <;> simp only [*, go_sem, Int.cast_ofNat_Int, Int.reduceToNat, Bool.true_xor, Bool.false_xor, Bool.xor_true, Bool.xor_false, Nat.reduceAdd, Nat.reduceBEq, Nat.reduceLeDiff, Nat.reduceLT, Nat.reduceMul, Nat.reduceSub, Int.reduceEq, Int.reduceLT, Int.reduceLE, Int.reduceNeg, s56, h57])
  all_goals
    clear h57
    refine congrArg some (congrArg SV.bool ?_)
    simp only [cmB]
    generalize idB x = X at *
    generalize lsB L = Y at *
    clear hz hL
    grind
end Go.Sh
namespace Go.Sh
set_option linter.unusedSectionVars false
set_option linter.unnecessarySimpa false
set_option linter.unusedVariables false
set_option linter.unusedSimpArgs false
set_option maxRecDepth 100000
set_option maxHeartbeats 4000000
abbrev dvZ : List SV := dv ⟨#[]⟩ ⟨#[]⟩ false ⟨#[]⟩ 0 0
/-- What a device has once an image is complete on it. -/
def cpV (r c : ByteArray) (a : Bool) (x : ByteArray) (s k : Int) (i : ByteArray) : SV :=
  bif dvB r c a x s k && idB i then .tup [.agg (bif a && !decide (x = i) then dv r i false ⟨#[]⟩ 0 k else dv r i a x s k), .int .i64 0] else .tup [.agg dvZ, .int .i64 1]
theorem s12 (n : Nat) (H : Heap) (r c : ByteArray) (a : Bool) (x : ByteArray) (s k : Int) (i : ByteArray) : call1 T (n + 4) (.fn 12) [.agg (dv r c a x s k), .str i] H = some (cpV r c a x s k i, H) := by
  refine call_pure e12 (by rfl) ?_
  simp only [c12, heap0, go_sem, Int.cast_ofNat_Int, Int.reduceToNat, Bool.true_xor, Bool.false_xor, Bool.xor_true, Bool.xor_false, Nat.reduceAdd, Nat.reduceBEq, Nat.reduceLeDiff, Nat.reduceLT, Nat.reduceMul, Nat.reduceSub, Int.reduceEq, Int.reduceLT, Int.reduceLE, Int.reduceNeg, s16, s42]
  cases h : dvB r c a x s k <;> cases hi : idB i <;> cases a <;> simp only [go_sem, Int.cast_ofNat_Int, Int.reduceToNat, Bool.true_xor, Bool.false_xor, Bool.xor_true, Bool.xor_false, Nat.reduceAdd, Nat.reduceBEq, Nat.reduceLeDiff, Nat.reduceLT, Nat.reduceMul, Nat.reduceSub, Int.reduceEq, Int.reduceLT, Int.reduceLE, Int.reduceNeg, s42, hi, cpV, h]
  cases hx : decide (x = i) <;> simp only [go_sem, Int.cast_ofNat_Int, Int.reduceToNat, Bool.true_xor, Bool.false_xor, Bool.xor_true, Bool.xor_false, Nat.reduceAdd, Nat.reduceBEq, Nat.reduceLeDiff, Nat.reduceLT, Nat.reduceMul, Nat.reduceSub, Int.reduceEq, Int.reduceLT, Int.reduceLE, Int.reduceNeg, s43, hx]
theorem x45 : T 45 = some (stdCF 73) := e45
theorem x73 : T 73 = some (stdIdxF false 1) := e73
theorem s46 (n : Nat) (x0 x1 x3 : SBlk) (ro : Nat) (q y : Int) : call1 T (n + 1) (.fn 46) [.int .i64 y, .ptr 2 0 0 0] ⟨[x0, x1, .box [.int .i64 q], x3], [], ro⟩ = some (.bool (decide (y = q)), ⟨[x0, x1, .box [.int .i64 q], x3], [], ro⟩) := by
  refine call_in e46 (by rfl) ?_
  simp only [c46, go_sem, Int.cast_ofNat_Int, Int.reduceToNat, Bool.true_xor, Bool.false_xor, Bool.xor_true, Bool.xor_false, Nat.reduceAdd, Nat.reduceBEq, Nat.reduceLeDiff, Nat.reduceLT, Nat.reduceMul, Nat.reduceSub, Int.reduceEq, Int.reduceLT, Int.reduceLE, Int.reduceNeg]
theorem s45 (n : Nat) (x0 x1 x3 : SBlk) (es : List (Nat × Nat)) (ro : Nat) (q : Int) (z : Nat) (L : List Int) (f : Bool) (hz : z = 1 ∨ L = []) (hL : L.length ≤ maxLen) :
    call1 T (n + 3) (.fn 45) [.lst z (iS L) f, .fn 46 [.ptr 2 0 0 0]] ⟨[x0, x1, .box [.int .i64 q], x3], es, ro⟩ = some (.bool (decide (q ∈ L)), ⟨[x0, x1, .box [.int .i64 q], x3], es, ro⟩) := by
  have := stdCF_ok (T := T) (f := 45) (g := 73) (n := n + 1) (H := ⟨[x0, x1, .box [.int .i64 q], x3], es, ro⟩) (ag := false) (z := 1) (id := 46) (caps := [.ptr 2 0 0 0])
    (v := .lst z (iS L) f) (L := iS L) (p := fun r => match r with | [.int _ y] => decide (y = q) | _ => false) x45 x73 (.lst z f (hz.imp id (by rintro rfl; rfl))) (iS_row L) (fun _ => rfl)
    (by rw [iS_len]; exact hL)
    (fun r hr bl ro' hbl => by
      have hbl : bl = [x0, x1, .box [.int .i64 q], x3] := by
        rcases hbl with ⟨_, _, h2⟩ | h
        · simp [SV.refs.refsL, SV.refs] at h2
        · exact h
      subst hbl
      simp only [iS, List.mem_map] at hr
      obtain ⟨m, hm, rfl⟩ := hr
      exact s46 n x0 x1 x3 ro' q m)
    (by simp [SV.refs.refsL, SV.refs])
  rw [this]
  refine congrArg some (Prod.ext (congrArg SV.bool ?_) rfl)
  simp only [iS, List.any_map]
  rw [Bool.eq_iff_iff]
  simp [List.any_eq_true, Function.comp]
/-- What a device has that has taken a command. -/
def tkV (r c : ByteArray) (a : Bool) (x : ByteArray) (s k : Int) (k' d' s' : Int) (x' : ByteArray) (L : List Int) (q t : Int) : SV :=
  bif !dvB r c a x s k || !cmB k' d' s' x' L then .tup [.agg dvZ, .int .i64 1]
  else bif decide (q < 0) || decide (32 ≤ q) || decide (t < 0) || decide (1073741824 < t) then .tup [.agg dvZ, .int .i64 2]
  else bif decide (k' ≤ k) then .tup [.agg (dv r c a x s k), .int .i64 23]
  else bif !decide (q ∈ L) then .tup [.agg (dv r c a x s k'), .int .i64 0]
  else bif decide (d' = 2) then (bif a && decide (x = x') then .tup [.agg (dv r c false ⟨#[]⟩ 0 k'), .int .i64 0] else .tup [.agg (dv r c a x s k'), .int .i64 0])
  else bif !decide (c = x') then .tup [.agg (dv r c a x s k'), .int .i64 7]
  else bif decide (s' ≤ t) then .tup [.agg (dv r c a x s k'), .int .i64 15]
  else .tup [.agg (dv r c true x' s' k'), .int .i64 0]
theorem s14 (n : Nat) (H : Heap) (r c : ByteArray) (a : Bool) (x : ByteArray) (s k : Int) (k' d' s' : Int) (x' : ByteArray) (z : Nat) (L : List Int) (f : Bool) (q t : Int) (hz : z = 1 ∨ L = []) (hL : L.length ≤ maxLen) :
    call1 T (n + 4) (.fn 14) [.agg (dv r c a x s k), .agg (cm k' d' s' x' z L f), .int .i64 q, .int .i64 t] H = some (tkV r c a x s k k' d' s' x' L q t, H) := by
  refine call_pure e14 (by rfl) ?_
  have h44 := fun H => s44 (n + 1) H k' d' s' x' z L f hz hL
  have h45 := fun x0 x1 x3 es ro => s45 n x0 x1 x3 es ro q z L f hz hL
  simp only [c14, heap0, go_sem, Int.cast_ofNat_Int, Int.reduceToNat, Bool.true_xor, Bool.false_xor, Bool.xor_true, Bool.xor_false, Nat.reduceAdd, Nat.reduceBEq, Nat.reduceLeDiff, Nat.reduceLT, Nat.reduceMul, Nat.reduceSub, Int.reduceEq, Int.reduceLT, Int.reduceLE, Int.reduceNeg, s16, h44]
  cases h1 : dvB r c a x s k with
  | false => simp only [go_sem, Int.cast_ofNat_Int, Int.reduceToNat, Bool.true_xor, Bool.false_xor, Bool.xor_true, Bool.xor_false, Nat.reduceAdd, Nat.reduceBEq, Nat.reduceLeDiff, Nat.reduceLT, Nat.reduceMul, Nat.reduceSub, Int.reduceEq, Int.reduceLT, Int.reduceLE, Int.reduceNeg, tkV, h1]
  | true =>
    cases h2 : cmB k' d' s' x' L with
    | false => simp only [go_sem, Int.cast_ofNat_Int, Int.reduceToNat, Bool.true_xor, Bool.false_xor, Bool.xor_true, Bool.xor_false, Nat.reduceAdd, Nat.reduceBEq, Nat.reduceLeDiff, Nat.reduceLT, Nat.reduceMul, Nat.reduceSub, Int.reduceEq, Int.reduceLT, Int.reduceLE, Int.reduceNeg, h44, tkV, h1, h2]
    | true =>
      simp only [go_sem, Int.cast_ofNat_Int, Int.reduceToNat, Bool.true_xor, Bool.false_xor, Bool.xor_true, Bool.xor_false, Nat.reduceAdd, Nat.reduceBEq, Nat.reduceLeDiff, Nat.reduceLT, Nat.reduceMul, Nat.reduceSub, Int.reduceEq, Int.reduceLT, Int.reduceLE, Int.reduceNeg, h44, tkV, h1, h2]
      cases h3 : decide (q < 0) <;> simp only [go_sem, Int.cast_ofNat_Int, Int.reduceToNat, Bool.true_xor, Bool.false_xor, Bool.xor_true, Bool.xor_false, Nat.reduceAdd, Nat.reduceBEq, Nat.reduceLeDiff, Nat.reduceLT, Nat.reduceMul, Nat.reduceSub, Int.reduceEq, Int.reduceLT, Int.reduceLE, Int.reduceNeg, h3]
      cases h4 : decide (32 ≤ q) <;> simp only [go_sem, Int.cast_ofNat_Int, Int.reduceToNat, Bool.true_xor, Bool.false_xor, Bool.xor_true, Bool.xor_false, Nat.reduceAdd, Nat.reduceBEq, Nat.reduceLeDiff, Nat.reduceLT, Nat.reduceMul, Nat.reduceSub, Int.reduceEq, Int.reduceLT, Int.reduceLE, Int.reduceNeg, h3, h4]
      cases h5 : decide (t < 0) <;> simp only [go_sem, Int.cast_ofNat_Int, Int.reduceToNat, Bool.true_xor, Bool.false_xor, Bool.xor_true, Bool.xor_false, Nat.reduceAdd, Nat.reduceBEq, Nat.reduceLeDiff, Nat.reduceLT, Nat.reduceMul, Nat.reduceSub, Int.reduceEq, Int.reduceLT, Int.reduceLE, Int.reduceNeg, h3, h4, h5]
      cases h6 : decide (1073741824 < t) <;> simp only [go_sem, Int.cast_ofNat_Int, Int.reduceToNat, Bool.true_xor, Bool.false_xor, Bool.xor_true, Bool.xor_false, Nat.reduceAdd, Nat.reduceBEq, Nat.reduceLeDiff, Nat.reduceLT, Nat.reduceMul, Nat.reduceSub, Int.reduceEq, Int.reduceLT, Int.reduceLE, Int.reduceNeg, h3, h4, h5, h6]
      cases h7 : decide (k' ≤ k) <;> simp only [go_sem, Int.cast_ofNat_Int, Int.reduceToNat, Bool.true_xor, Bool.false_xor, Bool.xor_true, Bool.xor_false, Nat.reduceAdd, Nat.reduceBEq, Nat.reduceLeDiff, Nat.reduceLT, Nat.reduceMul, Nat.reduceSub, Int.reduceEq, Int.reduceLT, Int.reduceLE, Int.reduceNeg, h3, h4, h5, h6, h7, h45]
      cases h8 : decide (q ∈ L) <;> simp only [go_sem, Int.cast_ofNat_Int, Int.reduceToNat, Bool.true_xor, Bool.false_xor, Bool.xor_true, Bool.xor_false, Nat.reduceAdd, Nat.reduceBEq, Nat.reduceLeDiff, Nat.reduceLT, Nat.reduceMul, Nat.reduceSub, Int.reduceEq, Int.reduceLT, Int.reduceLE, Int.reduceNeg, h3, h4, h5, h6, h7, h8, h45]
      cases h9 : decide (d' = 2) <;> simp only [go_sem, Int.cast_ofNat_Int, Int.reduceToNat, Bool.true_xor, Bool.false_xor, Bool.xor_true, Bool.xor_false, Nat.reduceAdd, Nat.reduceBEq, Nat.reduceLeDiff, Nat.reduceLT, Nat.reduceMul, Nat.reduceSub, Int.reduceEq, Int.reduceLT, Int.reduceLE, Int.reduceNeg, h3, h4, h5, h6, h7, h8, h9]
      · cases hA : decide (c = x') <;> simp only [go_sem, Int.cast_ofNat_Int, Int.reduceToNat, Bool.true_xor, Bool.false_xor, Bool.xor_true, Bool.xor_false, Nat.reduceAdd, Nat.reduceBEq, Nat.reduceLeDiff, Nat.reduceLT, Nat.reduceMul, Nat.reduceSub, Int.reduceEq, Int.reduceLT, Int.reduceLE, Int.reduceNeg, h3, h4, h5, h6, h7, h8, h9, hA]
        cases hB : decide (s' ≤ t) <;> simp only [go_sem, Int.cast_ofNat_Int, Int.reduceToNat, Bool.true_xor, Bool.false_xor, Bool.xor_true, Bool.xor_false, Nat.reduceAdd, Nat.reduceBEq, Nat.reduceLeDiff, Nat.reduceLT, Nat.reduceMul, Nat.reduceSub, Int.reduceEq, Int.reduceLT, Int.reduceLE, Int.reduceNeg, h3, h4, h5, h6, h7, h8, h9, hA, hB]
      · cases a <;> simp only [go_sem, Int.cast_ofNat_Int, Int.reduceToNat, Bool.true_xor, Bool.false_xor, Bool.xor_true, Bool.xor_false, Nat.reduceAdd, Nat.reduceBEq, Nat.reduceLeDiff, Nat.reduceLT, Nat.reduceMul, Nat.reduceSub, Int.reduceEq, Int.reduceLT, Int.reduceLE, Int.reduceNeg, h3, h4, h5, h6, h7, h8, h9]
        cases hA : decide (x = x') <;> simp only [go_sem, Int.cast_ofNat_Int, Int.reduceToNat, Bool.true_xor, Bool.false_xor, Bool.xor_true, Bool.xor_false, Nat.reduceAdd, Nat.reduceBEq, Nat.reduceLeDiff, Nat.reduceLT, Nat.reduceMul, Nat.reduceSub, Int.reduceEq, Int.reduceLT, Int.reduceLE, Int.reduceNeg, s43, h3, h4, h5, h6, h7, h8, h9, hA]
/-- What a device does in a slot. -/
def stV (r c : ByteArray) (a : Bool) (x : ByteArray) (s k : Int) (t : Int) : SV :=
  bif !dvB r c a x s k then .tup [.agg dvZ, .bool false, .int .i64 1]
  else bif decide (t < 0) || decide (1073741824 < t) then .tup [.agg dvZ, .bool false, .int .i64 2]
  else bif !a || decide (t < s) then .tup [.agg (dv r c a x s k), .bool false, .int .i64 0]
  else .tup [.agg (dv (bif decide (t = s) then x else r) c false ⟨#[]⟩ 0 k), .bool (decide (t = s)), .int .i64 0]
theorem s15 (n : Nat) (H : Heap) (r c : ByteArray) (a : Bool) (x : ByteArray) (s k : Int) (t : Int) :
    call1 T (n + 4) (.fn 15) [.agg (dv r c a x s k), .int .i64 t] H = some (stV r c a x s k t, H) := by
  refine call_pure e15 (by rfl) ?_
  simp only [c15, heap0, go_sem, Int.cast_ofNat_Int, Int.reduceToNat, Bool.true_xor, Bool.false_xor, Bool.xor_true, Bool.xor_false, Nat.reduceAdd, Nat.reduceBEq, Nat.reduceLeDiff, Nat.reduceLT, Nat.reduceMul, Nat.reduceSub, Int.reduceEq, Int.reduceLT, Int.reduceLE, Int.reduceNeg, s16]
  cases h1 : dvB r c a x s k <;> simp only [go_sem, Int.cast_ofNat_Int, Int.reduceToNat, Bool.true_xor, Bool.false_xor, Bool.xor_true, Bool.xor_false, Nat.reduceAdd, Nat.reduceBEq, Nat.reduceLeDiff, Nat.reduceLT, Nat.reduceMul, Nat.reduceSub, Int.reduceEq, Int.reduceLT, Int.reduceLE, Int.reduceNeg, stV, h1]
  cases h3 : decide (t < 0) <;> simp only [go_sem, Int.cast_ofNat_Int, Int.reduceToNat, Bool.true_xor, Bool.false_xor, Bool.xor_true, Bool.xor_false, Nat.reduceAdd, Nat.reduceBEq, Nat.reduceLeDiff, Nat.reduceLT, Nat.reduceMul, Nat.reduceSub, Int.reduceEq, Int.reduceLT, Int.reduceLE, Int.reduceNeg, h3]
  cases h4 : decide (1073741824 < t) <;> simp only [go_sem, Int.cast_ofNat_Int, Int.reduceToNat, Bool.true_xor, Bool.false_xor, Bool.xor_true, Bool.xor_false, Nat.reduceAdd, Nat.reduceBEq, Nat.reduceLeDiff, Nat.reduceLT, Nat.reduceMul, Nat.reduceSub, Int.reduceEq, Int.reduceLT, Int.reduceLE, Int.reduceNeg, h3, h4]
  cases a <;> simp only [go_sem, Int.cast_ofNat_Int, Int.reduceToNat, Bool.true_xor, Bool.false_xor, Bool.xor_true, Bool.xor_false, Nat.reduceAdd, Nat.reduceBEq, Nat.reduceLeDiff, Nat.reduceLT, Nat.reduceMul, Nat.reduceSub, Int.reduceEq, Int.reduceLT, Int.reduceLE, Int.reduceNeg, h3, h4]
  cases h5 : decide (t < s) <;> simp only [go_sem, Int.cast_ofNat_Int, Int.reduceToNat, Bool.true_xor, Bool.false_xor, Bool.xor_true, Bool.xor_false, Nat.reduceAdd, Nat.reduceBEq, Nat.reduceLeDiff, Nat.reduceLT, Nat.reduceMul, Nat.reduceSub, Int.reduceEq, Int.reduceLT, Int.reduceLE, Int.reduceNeg, h3, h4, h5]
  cases h6 : decide (t = s) <;> simp only [go_sem, Int.cast_ofNat_Int, Int.reduceToNat, Bool.true_xor, Bool.false_xor, Bool.xor_true, Bool.xor_false, Nat.reduceAdd, Nat.reduceBEq, Nat.reduceLeDiff, Nat.reduceLT, Nat.reduceMul, Nat.reduceSub, Int.reduceEq, Int.reduceLT, Int.reduceLE, Int.reduceNeg, s43, h3, h4, h5, h6]
end Go.Sh
namespace Go.Sh
set_option linter.unusedSectionVars false
set_option linter.unnecessarySimpa false
set_option linter.unusedVariables false
set_option linter.unusedSimpArgs false
set_option maxRecDepth 100000
set_option maxHeartbeats 4000000
theorem dvB_zero : dvB ⟨#[]⟩ ⟨#[]⟩ false ⟨#[]⟩ 0 0 = true := by decide
theorem cpV_zero : cpV ⟨#[]⟩ ⟨#[]⟩ false ⟨#[]⟩ 0 0 idX = .tup [.agg (dv ⟨#[]⟩ idX false ⟨#[]⟩ 0 0), .int .i64 0] := by
  unfold cpV; rw [dvB_zero]; rfl
theorem idB_X : idB idX = true := by rfl
theorem emB_X : emB idX = true := by rfl
theorem emB_E : emB ⟨#[]⟩ = true := by rfl
theorem ls5 : lsB [5] = true := by decide
theorem dvB_idle {k : Int} (h0 : 0 ≤ k) (h1 : k ≤ 1048576) : dvB ⟨#[]⟩ idX false ⟨#[]⟩ 0 k = true := by
  unfold dvB; rw [emB_E, emB_X, decide_eq_true h0, decide_eq_true h1]; rfl
theorem dvB_arm {k s : Int} (h0 : 0 ≤ k) (h1 : k ≤ 1048576) (h2 : 1 ≤ s) (h3 : s ≤ 1073741824) : dvB ⟨#[]⟩ idX true idX s k = true := by
  unfold dvB; rw [emB_E, emB_X, idB_X, decide_eq_true h0, decide_eq_true h1, decide_eq_true h2, decide_eq_true h3]; simp
theorem cmB_act {k s : Int} {L : List Int} (h0 : 1 ≤ k) (h1 : k ≤ 1048576) (h2 : 1 ≤ s) (h3 : s ≤ 1073741824) (hL : lsB L = true) : cmB k 1 s idX L = true := by
  unfold cmB; rw [idB_X, hL, decide_eq_true h0, decide_eq_true h1, decide_eq_true h2, decide_eq_true h3]; rfl
theorem cmB_can {k : Int} {L : List Int} (h0 : 1 ≤ k) (h1 : k ≤ 1048576) (hL : lsB L = true) : cmB k 2 0 idX L = true := by
  unfold cmB; rw [idB_X, hL, decide_eq_true h0, decide_eq_true h1]; rfl
/-- A device that has the image and takes the command to start it. -/
theorem tk_act {k k' s : Int} {L : List Int} {q t : Int} (hd : dvB ⟨#[]⟩ idX false ⟨#[]⟩ 0 k = true) (hc : cmB k' 1 s idX L = true) (hk : k < k') (h0 : 0 ≤ q) (h1 : q < 32) (h2 : 0 ≤ t) (h3 : t < s) (h4 : s ≤ 1073741824) (hq : q ∈ L) :
    tkV ⟨#[]⟩ idX false ⟨#[]⟩ 0 k k' 1 s idX L q t = .tup [.agg (dv ⟨#[]⟩ idX true idX s k'), .int .i64 0] := by
  unfold tkV
  rw [hd, hc, decide_eq_false (show ¬ q < 0 by omega), decide_eq_false (show ¬ 32 ≤ q by omega), decide_eq_false (show ¬ t < 0 by omega), decide_eq_false (show ¬ 1073741824 < t by omega), decide_eq_false (show ¬ k' ≤ k by omega), decide_eq_true hq,
    decide_eq_true (show idX = idX from rfl), decide_eq_false (show ¬ s ≤ t by omega)]
  rfl
theorem s4 (a b s : Int) (ha : 0 ≤ a ∧ a ≤ 255) (hb : 0 ≤ b ∧ b ≤ 255) (hs : 0 ≤ s ∧ s ≤ 255) : call1 T 41 (.fn 4) [.int .u8 a, .int .u8 b, .int .u8 s] heap0 = some (.bool true, heap0) := by
  refine call_pure e4 (by rfl) ?_
  have wa : w64 a = a := w64_id (by omega) (by omega)
  have wb : w64 b = b := w64_id (by omega) (by omega)
  have ws : w64 s = s := w64_id (by omega) (by omega)
  have wa1 : w64 (1 + a) = 1 + a := w64_id (by omega) (by omega)
  have wb1 : w64 (1 + b) = 1 + b := w64_id (by omega) (by omega)
  have h14 := fun n H r c a x s k k' d' s' x' f q t => s14 n H r c a x s k k' d' s' x' 1 [5] f q t (.inl rfl) (by decide)
  simp only [cm, iS, List.map_cons, List.map_nil] at h14
  simp only [c4, heap0, go_sem, Int.cast_ofNat_Int, Int.reduceToNat, Bool.true_xor, Bool.false_xor, Bool.xor_true, Bool.xor_false, Nat.reduceAdd, Nat.reduceBEq, Nat.reduceLeDiff, Nat.reduceLT, Nat.reduceMul, Nat.reduceSub, Int.reduceEq, Int.reduceLT, Int.reduceLE, Int.reduceNeg, s10]
  cases h1 : decide (s < 3) <;> simp only [go_sem, Int.cast_ofNat_Int, Int.reduceToNat, Bool.true_xor, Bool.false_xor, Bool.xor_true, Bool.xor_false, Nat.reduceAdd, Nat.reduceBEq, Nat.reduceLeDiff, Nat.reduceLT, Nat.reduceMul, Nat.reduceSub, Int.reduceEq, Int.reduceLT, Int.reduceLE, Int.reduceNeg, s10, h1]
  simp only [decide_eq_false_iff_not] at h1
  have t1 := tk_act (k := 0) (k' := 1 + a) (s := s) (L := [5]) (q := 5) (t := 0) (dvB_idle (by omega) (by omega)) (cmB_act (by omega) (by omega) (by omega) (by omega) ls5) (by omega) (by omega) (by omega) (by omega) (by omega) (by omega) (by simp)
  have t2 : tkV ⟨#[]⟩ idX true idX s (1 + a) (1 + b) 2 0 idX [5] 5 1 = bif decide (1 + b ≤ 1 + a) then .tup [.agg (dv ⟨#[]⟩ idX true idX s (1 + a)), .int .i64 23] else .tup [.agg (dv ⟨#[]⟩ idX false ⟨#[]⟩ 0 (1 + b)), .int .i64 0] := by
    unfold tkV
    rw [dvB_arm (by omega) (by omega) (by omega) (by omega), cmB_can (by omega) (by omega) ls5, decide_eq_true (show idX = idX from rfl)]
    rfl
  simp only [go_sem, Int.cast_ofNat_Int, Int.reduceToNat, Bool.true_xor, Bool.false_xor, Bool.xor_true, Bool.xor_false, Nat.reduceAdd, Nat.reduceBEq, Nat.reduceLeDiff, Nat.reduceLT, Nat.reduceMul, Nat.reduceSub, Int.reduceEq, Int.reduceLT, Int.reduceLE, Int.reduceNeg, s11x, s12, cpV_zero, wa, wb, ws, wa1, wb1, h14, t1, t2]
  cases h2 : decide (1 + b ≤ 1 + a) with
  | true =>
    have t3 : stV ⟨#[]⟩ idX true idX s (1 + a) s = .tup [.agg (dv idX idX false ⟨#[]⟩ 0 (1 + a)), .bool true, .int .i64 0] := by
      unfold stV
      rw [dvB_arm (by omega) (by omega) (by omega) (by omega), decide_eq_false (show ¬ s < 0 by omega), decide_eq_false (show ¬ 1073741824 < s by omega), decide_eq_false (show ¬ s < s by omega), decide_eq_true (show s = s from rfl)]
      rfl
    have h3 : decide (a < b) = false := by simp only [decide_eq_true_eq, decide_eq_false_iff_not] at h2 ⊢; omega
    simp only [go_sem, Int.cast_ofNat_Int, Int.reduceToNat, Bool.true_xor, Bool.false_xor, Bool.xor_true, Bool.xor_false, Nat.reduceAdd, Nat.reduceBEq, Nat.reduceLeDiff, Nat.reduceLT, Nat.reduceMul, Nat.reduceSub, Int.reduceEq, Int.reduceLT, Int.reduceLE, Int.reduceNeg, s15, t3, ws, h2, h3]
  | false =>
    have t3 : stV ⟨#[]⟩ idX false ⟨#[]⟩ 0 (1 + b) s = .tup [.agg (dv ⟨#[]⟩ idX false ⟨#[]⟩ 0 (1 + b)), .bool false, .int .i64 0] := by
      unfold stV
      rw [dvB_idle (by omega) (by omega), decide_eq_false (show ¬ s < 0 by omega), decide_eq_false (show ¬ 1073741824 < s by omega)]
      rfl
    have h3 : decide (a < b) = true := by simp only [decide_eq_true_eq, decide_eq_false_iff_not] at h2 ⊢; omega
    simp only [go_sem, Int.cast_ofNat_Int, Int.reduceToNat, Bool.true_xor, Bool.false_xor, Bool.xor_true, Bool.xor_false, Nat.reduceAdd, Nat.reduceBEq, Nat.reduceLeDiff, Nat.reduceLT, Nat.reduceMul, Nat.reduceSub, Int.reduceEq, Int.reduceLT, Int.reduceLE, Int.reduceNeg, s15, t3, ws, h2, h3]
theorem u8_wf {n : Int} (h : (Lit.int .u8 n).wf = true) : 0 ≤ n ∧ n ≤ 255 := by
  have h1 : IntKind.u8.min = 0 := rfl
  have h2 : IntKind.u8.max = 255 := rfl
  simp [Lit.wf, h1, h2] at h
  omega
theorem law4 (xs : List SV) (h : FitsAll [(false, [.int .u8]), (false, [.int .u8]), (false, [.int .u8])] xs) : ∃ m, call1 T m (.fn 4) xs heap0 = some (.bool true, heap0) := by
  obtain ⟨x1, r1, rfl, h1, h⟩ := fitsAll_cons h
  obtain ⟨x2, r2, rfl, h2, h⟩ := fitsAll_cons h
  obtain ⟨x3, r3, rfl, h3, h⟩ := fitsAll_cons h
  cases fitsAll_nil h
  obtain ⟨a, rfl, ha⟩ := fits_int (fitsA_one h1)
  obtain ⟨b, rfl, hb⟩ := fits_int (fitsA_one h2)
  obtain ⟨s, rfl, hs⟩ := fits_int (fitsA_one h3)
  exact ⟨41, s4 a b s (u8_wf ha) (u8_wf hb) (u8_wf hs)⟩
end Go.Sh
namespace Go.Sh
set_option linter.unusedSectionVars false
set_option linter.unnecessarySimpa false
set_option linter.unusedVariables false
set_option linter.unusedSimpArgs false
set_option maxRecDepth 100000
set_option maxHeartbeats 4000000
def bbS (D : List Bool) : List (List SV) := D.map fun b => [.bool b]
@[go_sem] theorem bbS_len {D : List Bool} : (bbS D).length = D.length := by simp [bbS]
@[go_sem] theorem bbS_get (D : List Bool) (i : Nat) : (bbS D)[i]? = (D[i]?).map (fun p => [.bool p]) := by simp [bbS]
/-- slices.Index of bools. -/
theorem s74 (n : Nat) (H : Heap) (z : Nat) (D : List Bool) (f b : Bool) (hz : z = 1 ∨ D = []) (hL : D.length ≤ maxLen) : call1 T (n + 1) (.fn 74) [.lst z (bbS D) f, .bool b] H = some (.int .i64 (idx1 (fun y => b == y) D), H) := by
  refine call_pure e74 (by rfl) ?_
  simp only [c74, heap0, go_sem, Int.cast_ofNat_Int, Int.reduceToNat, Bool.true_xor, Bool.false_xor, Bool.xor_true, Bool.xor_false, Nat.reduceAdd, Nat.reduceBEq, Nat.reduceLeDiff, Nat.reduceLT, Nat.reduceMul, Nat.reduceSub, Int.reduceEq, Int.reduceLT, Int.reduceLE, Int.reduceNeg]
  refine loop_rule (fun i => ([(0, .lst z (bbS D) f), (1, .bool b), (7, .int .i64 D.length), (8, .int .i64 i)], ⟨[], [], 0⟩)) (fun i => ∀ (j : Nat) y, j < i → D[j]? = some y → (b == y) = false) D.length ?_ (fun j r h => by omega) ?_
  · simp only [go_sem, Int.cast_ofNat_Int, Int.reduceToNat, Bool.true_xor, Bool.false_xor, Bool.xor_true, Bool.xor_false, Nat.reduceAdd, Nat.reduceBEq, Nat.reduceLeDiff, Nat.reduceLT, Nat.reduceMul, Nat.reduceSub, Int.reduceEq, Int.reduceLT, Int.reduceLE, Int.reduceNeg] <;> rfl
  · intro i hi hP
    rcases Nat.lt_or_ge i D.length with hlt | hge
    · obtain ⟨y, hy⟩ := getS hlt
      obtain rfl : z = 1 := hz.resolve_right (by rintro rfl; simp at hlt)
      have hw := w64_suc hlt hL
      cases hp : (b == y) with
      | true =>
        have hx := idx1_at hy hp hP
        simp only [go_sem, Int.cast_ofNat_Int, Int.reduceToNat, Bool.true_xor, Bool.false_xor, Bool.xor_true, Bool.xor_false, Nat.reduceAdd, Nat.reduceBEq, Nat.reduceLeDiff, Nat.reduceLT, Nat.reduceMul, Nat.reduceSub, Int.reduceEq, Int.reduceLT, Int.reduceLE, Int.reduceNeg, hlt, hy, hp, hx]
      | false =>
        simp only [go_sem, Int.cast_ofNat_Int, Int.reduceToNat, Bool.true_xor, Bool.false_xor, Bool.xor_true, Bool.xor_false, Nat.reduceAdd, Nat.reduceBEq, Nat.reduceLeDiff, Nat.reduceLT, Nat.reduceMul, Nat.reduceSub, Int.reduceEq, Int.reduceLT, Int.reduceLE, Int.reduceNeg, hlt, hy, hp, hw]
        refine ⟨by first | trivial | omega, by first | trivial | rfl, fun j r' hj hr2 => ?_⟩
        rcases Nat.lt_or_ge j i with hlt2 | hge2
        · exact hP j r' hlt2 hr2
        · have : j = i := by omega
          subst this
          rw [hy] at hr2
          cases hr2
          exact hp
    · have hlt : ¬ i < D.length := by omega
      have hx : idx1 (fun y => b == y) D = -1 := idx1_none (fun j a hj => hP j a (by have := (List.getElem?_eq_some_iff.1 hj).1; omega) hj)
      simp only [go_sem, Int.cast_ofNat_Int, Int.reduceToNat, Bool.true_xor, Bool.false_xor, Bool.xor_true, Bool.xor_false, Nat.reduceAdd, Nat.reduceBEq, Nat.reduceLeDiff, Nat.reduceLT, Nat.reduceMul, Nat.reduceSub, Int.reduceEq, Int.reduceLT, Int.reduceLE, Int.reduceNeg, hlt, hx]
def hasB (b : Bool) (D : List Bool) : Bool := D.any fun y => b == y
theorem s58 (n : Nat) (H : Heap) (z : Nat) (D : List Bool) (f b : Bool) (hz : z = 1 ∨ D = []) (hL : D.length ≤ maxLen) : call1 T (n + 2) (.fn 58) [.lst z (bbS D) f, .bool b] H = some (.bool (hasB b D), H) := by
  have h74 := fun H => s74 n H z D f b hz hL
  refine call_pure e58 (by rfl) ?_
  simp only [c58, heap0, go_sem, Int.cast_ofNat_Int, Int.reduceToNat, Bool.true_xor, Bool.false_xor, Bool.xor_true, Bool.xor_false, Nat.reduceAdd, Nat.reduceBEq, Nat.reduceLeDiff, Nat.reduceLT, Nat.reduceMul, Nat.reduceSub, Int.reduceEq, Int.reduceLT, Int.reduceLE, Int.reduceNeg, h74, idx1_any, hasB]
/-- A board: identifier, nodes, done, told, number, slot. -/
abbrev bd (i : ByteArray) (z1 : Nat) (N : List Int) (f1 : Bool) (z2 : Nat) (D : List Bool) (f2 : Bool) (z3 : Nat) (W : List Bool) (f3 : Bool) (k s : Int) : List SV :=
  [.str i, .lst z1 (iS N) f1, .lst z2 (bbS D) f2, .lst z3 (bbS W) f3, .int .i64 k, .int .i64 s]
def bdB (i : ByteArray) (N : List Int) (D W : List Bool) (k s : Int) : Bool :=
  idB i && lsB N && decide ((D.length : Int) = N.length) && decide ((W.length : Int) = N.length) && decide (0 ≤ k) && decide (k ≤ 1048576) && decide (0 ≤ s) && decide (s ≤ 1073741824) && !(decide (k = 0) && (!decide (s = 0) || hasB true W))
theorem s26 (n : Nat) (H : Heap) (i : ByteArray) (z1 : Nat) (N : List Int) (f1 : Bool) (z2 : Nat) (D : List Bool) (f2 : Bool) (z3 : Nat) (W : List Bool) (f3 : Bool) (k s : Int) (h1 : z1 = 1 ∨ N = []) (h2 : z2 = 1 ∨ D = []) (h3 : z3 = 1 ∨ W = [])
    (hN : N.length ≤ maxLen) (hD : D.length ≤ maxLen) (hW : W.length ≤ maxLen) : call1 T (n + 3) (.fn 26) [.agg (bd i z1 N f1 z2 D f2 z3 W f3 k s)] H = some (.int .i64 (bif bdB i N D W k s then 0 else 1), H) := by
  refine call_pure e26 (by rfl) ?_
  have h54 := fun H => s54 (n + 1) H z1 N f1 h1 hN
  have h58 := fun H => s58 n H z3 W f3 true h3 hW
  simp only [c26, heap0, go_sem, Int.cast_ofNat_Int, Int.reduceToNat, Bool.true_xor, Bool.false_xor, Bool.xor_true, Bool.xor_false, Nat.reduceAdd, Nat.reduceBEq, Nat.reduceLeDiff, Nat.reduceLT, Nat.reduceMul, Nat.reduceSub, Int.reduceEq, Int.reduceLT, Int.reduceLE, Int.reduceNeg, s42, h54, h58]
  repeat' (with_reducible refine fork_split (fun _ => ?_) (fun _ => ?_) <;> simp only [*, go_sem, Int.cast_ofNat_Int, Int.reduceToNat, Bool.true_xor, Bool.false_xor, Bool.xor_true, Bool.xor_false, Nat.reduceAdd, Nat.reduceBEq, Nat.reduceLeDiff, Nat.reduceLT, Nat.reduceMul, Nat.reduceSub, Int.reduceEq, Int.reduceLT, Int.reduceLE, Int.reduceNeg, s42, h54, h58])
  all_goals
    clear h54 h58
    refine congrArg some (congrArg (SV.int .i64) ?_)
    generalize hq : bdB i N D W k s = q
    simp only [bdB] at hq
    generalize idB i = X at *
    generalize lsB N = Y at *
    generalize hasB true W = Z at *
    clear h1 h2 h3 hN hD hW
    cases q <;> simp only [cond_true, cond_false] <;> grind
end Go.Sh
namespace Go.Sh
set_option linter.unusedSectionVars false
set_option linter.unnecessarySimpa false
set_option linter.unusedVariables false
set_option linter.unusedSimpArgs false
set_option maxRecDepth 100000
set_option maxHeartbeats 4000000
def tlB (k : Int) (W : List Bool) (i : Nat) : Bool := (W.take i).all fun w => !w || decide (0 < k)
theorem tlB_zero (k W) : tlB k W 0 = true := by simp [tlB]
theorem tlB_suc {k W i w} (h : W[i]? = some w) : tlB k W (i + 1) = (tlB k W i && (!w || decide (0 < k))) := by
  have : W.take (i + 1) = W.take i ++ [w] := by rw [List.take_add_one, h]; rfl
  simp [tlB, this]
theorem bdB_tl (i : ByteArray) (N : List Int) (D W : List Bool) (k s : Int) (q : Bool) (hq : q = (idB i && lsB N && decide ((D.length : Int) = N.length) && decide ((W.length : Int) = N.length) && decide (0 ≤ k) && decide (k ≤ 1048576) && decide (0 ≤ s) && decide (s ≤ 1073741824))) :
    bdB i N D W k s = (q && tlB k W W.length && !(decide (k = 0) && !decide (s = 0))) := by
  have h1 : tlB k W W.length = (decide (0 < k) || !hasB true W) := by
    unfold tlB hasB
    rw [List.take_length]
    cases h : decide (0 < k) with
    | true => simp
    | false => simp [List.not_any_eq_all_not]
  rw [h1]
  unfold bdB
  rw [← hq]
  generalize hasB true W = Z
  have hk : q = true → 0 ≤ k := by
    intro h
    rw [h] at hq
    simp only [Bool.true_eq, Bool.and_eq_true, decide_eq_true_eq] at hq
    exact hq.1.1.1.2
  cases q with
  | false => simp
  | true =>
    have := hk rfl
    rw [Bool.eq_iff_iff]
    cases Z <;> simp <;> omega
theorem s27 (n : Nat) (H : Heap) (i : ByteArray) (z1 : Nat) (N : List Int) (f1 : Bool) (z2 : Nat) (D : List Bool) (f2 : Bool) (z3 : Nat) (W : List Bool) (f3 : Bool) (k s : Int) (h1 : z1 = 1 ∨ N = []) (h2 : z2 = 1 ∨ D = []) (h3 : z3 = 1 ∨ W = [])
    (hN : N.length ≤ maxLen) (hD : D.length ≤ maxLen) (hW : W.length ≤ maxLen) : call1 T (n + 3) (.fn 27) [.agg (bd i z1 N f1 z2 D f2 z3 W f3 k s)] H = some (.int .i64 (bif bdB i N D W k s then 0 else 1), H) := by
  refine call_pure e27 (by rfl) ?_
  have h57 := fun H => s57 (n + 1) H z1 N f1 h1 hN
  simp only [c27, heap0, go_sem, Int.cast_ofNat_Int, Int.reduceToNat, Bool.true_xor, Bool.false_xor, Bool.xor_true, Bool.xor_false, Nat.reduceAdd, Nat.reduceBEq, Nat.reduceLeDiff, Nat.reduceLT, Nat.reduceMul, Nat.reduceSub, Int.reduceEq, Int.reduceLT, Int.reduceLE, Int.reduceNeg, s56, h57]
  repeat' (with_reducible refine fork_split (fun _ => ?_) (fun _ => ?_) <;> simp only [*, go_sem, Int.cast_ofNat_Int, Int.reduceToNat, Bool.true_xor, Bool.false_xor, Bool.xor_true, Bool.xor_false, Nat.reduceAdd, Nat.reduceBEq, Nat.reduceLeDiff, Nat.reduceLT, Nat.reduceMul, Nat.reduceSub, Int.reduceEq, Int.reduceLT, Int.reduceLE, Int.reduceNeg, s56, h57])
  all_goals
    obtain ⟨q, hq⟩ : ∃ q, q = (idB i && lsB N && decide ((D.length : Int) = N.length) && decide ((W.length : Int) = N.length) && decide (0 ≤ k) && decide (k ≤ 1048576) && decide (0 ≤ s) && decide (s ≤ 1073741824)) := ⟨_, rfl⟩
    rw [bdB_tl i N D W k s q hq]
    refine loop_rule (fun j => ([(1, .ptr 0 0 0 0), (3, .bool (q && tlB k W j)), (4, .int .i64 j)], ⟨[.box (bd i z1 N f1 z2 D f2 z3 W f3 k s)], [], 0⟩)) (fun _ => True) W.length ?_ trivial ?_
    · simp only [go_sem, Int.cast_ofNat_Int, Int.reduceToNat, Bool.true_xor, Bool.false_xor, Bool.xor_true, Bool.xor_false, Nat.reduceAdd, Nat.reduceBEq, Nat.reduceLeDiff, Nat.reduceLT, Nat.reduceMul, Nat.reduceSub, Int.reduceEq, Int.reduceLT, Int.reduceLE, Int.reduceNeg, tlB_zero, hq, *] <;> first | done | rfl
    · intro j hj _
      rcases Nat.lt_or_ge j W.length with hlt | hge
      · obtain ⟨w, hw⟩ := getS hlt
        obtain rfl : z3 = 1 := h3.resolve_right (by rintro rfl; simp at hlt)
        have hs := w64_suc hlt hW
        have hB : (q && tlB k W (j + 1)) = ((q && tlB k W j) && (!w || decide (0 < k))) := by rw [tlB_suc hw, Bool.and_assoc]
        clear hq h57
        cases hA : (q && tlB k W j) with
        | false =>
          rw [hA, Bool.false_and] at hB
          simp only [go_sem, Int.cast_ofNat_Int, Int.reduceToNat, Bool.true_xor, Bool.false_xor, Bool.xor_true, Bool.xor_false, Nat.reduceAdd, Nat.reduceBEq, Nat.reduceLeDiff, Nat.reduceLT, Nat.reduceMul, Nat.reduceSub, Int.reduceEq, Int.reduceLT, Int.reduceLE, Int.reduceNeg, hlt, hA, hs, hB]
          refine ⟨by first | trivial | omega, by first | trivial | rfl, trivial⟩
        | true =>
          rw [hA, Bool.true_and] at hB
          cases w <;> simp only [Bool.not_true, Bool.not_false, Bool.true_or, Bool.false_or] at hB <;> simp only [go_sem, Int.cast_ofNat_Int, Int.reduceToNat, Bool.true_xor, Bool.false_xor, Bool.xor_true, Bool.xor_false, Nat.reduceAdd, Nat.reduceBEq, Nat.reduceLeDiff, Nat.reduceLT, Nat.reduceMul, Nat.reduceSub, Int.reduceEq, Int.reduceLT, Int.reduceLE, Int.reduceNeg, hlt, hA, hw, hs, hB] <;> refine ⟨by first | trivial | omega, by first | trivial | rfl, trivial⟩
      · obtain rfl : j = W.length := by omega
        have hd : decide (W.length < W.length) = false := decide_eq_false (by omega)
        clear hq h57
        simp only [go_sem, Int.cast_ofNat_Int, Int.reduceToNat, Bool.true_xor, Bool.false_xor, Bool.xor_true, Bool.xor_false, Nat.reduceAdd, Nat.reduceBEq, Nat.reduceLeDiff, Nat.reduceLT, Nat.reduceMul, Nat.reduceSub, Int.reduceEq, Int.reduceLT, Int.reduceLE, Int.reduceNeg, hd]
        cases hA : (q && tlB k W W.length) with
        | false => simp only [go_sem, Int.cast_ofNat_Int, Int.reduceToNat, Bool.true_xor, Bool.false_xor, Bool.xor_true, Bool.xor_false, Nat.reduceAdd, Nat.reduceBEq, Nat.reduceLeDiff, Nat.reduceLT, Nat.reduceMul, Nat.reduceSub, Int.reduceEq, Int.reduceLT, Int.reduceLE, Int.reduceNeg, hA]
        | true =>
          simp only [go_sem, Int.cast_ofNat_Int, Int.reduceToNat, Bool.true_xor, Bool.false_xor, Bool.xor_true, Bool.xor_false, Nat.reduceAdd, Nat.reduceBEq, Nat.reduceLeDiff, Nat.reduceLT, Nat.reduceMul, Nat.reduceSub, Int.reduceEq, Int.reduceLT, Int.reduceLE, Int.reduceNeg, hA]
          cases hk : decide (k = 0) <;> simp only [go_sem, Int.cast_ofNat_Int, Int.reduceToNat, Bool.true_xor, Bool.false_xor, Bool.xor_true, Bool.xor_false, Nat.reduceAdd, Nat.reduceBEq, Nat.reduceLeDiff, Nat.reduceLT, Nat.reduceMul, Nat.reduceSub, Int.reduceEq, Int.reduceLT, Int.reduceLE, Int.reduceNeg, hA, hk]
          cases hz : decide (s = 0) <;> simp only [go_sem, Int.cast_ofNat_Int, Int.reduceToNat, Bool.true_xor, Bool.false_xor, Bool.xor_true, Bool.xor_false, Nat.reduceAdd, Nat.reduceBEq, Nat.reduceLeDiff, Nat.reduceLT, Nat.reduceMul, Nat.reduceSub, Int.reduceEq, Int.reduceLT, Int.reduceLE, Int.reduceNeg, hA, hk, hz]
end Go.Sh
namespace Go.Sh
set_option linter.unusedSectionVars false
set_option linter.unnecessarySimpa false
set_option linter.unusedVariables false
set_option linter.unusedSimpArgs false
set_option maxRecDepth 100000
set_option maxHeartbeats 4000000
def tdB (D : List Bool) (i : Nat) : Bool := (D.take i).all id
theorem tdB_zero (D) : tdB D 0 = true := by simp [tdB]
theorem tdB_suc {D : List Bool} {i : Nat} {w : Bool} (h : D[i]? = some w) : tdB D (i + 1) = (tdB D i && w) := by
  have : D.take (i + 1) = D.take i ++ [w] := by rw [List.take_add_one, h]; rfl
  simp [tdB, this]
theorem tdB_all (D : List Bool) : tdB D D.length = !hasB false D := by
  unfold tdB hasB
  rw [List.take_length, List.not_any_eq_all_not]
  congr 1
  funext y
  cases y <;> rfl
theorem tdB_no {D : List Bool} {i : Nat} (h : tdB D i = false) : hasB false D = true := by
  cases hh : hasB false D with
  | true => rfl
  | false =>
    have h1 : tdB D D.length = true := by rw [tdB_all, hh]; rfl
    unfold tdB at h h1
    rw [List.take_length] at h1
    have : (D.take i).all id = true := by
      rw [List.all_eq_true] at h1 ⊢
      exact fun x hx => h1 x (List.mem_of_mem_take hx)
    rw [this] at h; cases h
variable (i : ByteArray) (z1 : Nat) (N : List Int) (f1 : Bool) (z2 : Nat) (D : List Bool) (f2 : Bool) (z3 : Nat) (W : List Bool) (f3 : Bool) (k s : Int)
structure BdOk : Prop where
  h1 : z1 = 1 ∨ N = []
  h2 : z2 = 1 ∨ D = []
  h3 : z3 = 1 ∨ W = []
  hN : N.length ≤ 1000
  hD : D.length ≤ 1000
  hW : W.length ≤ 1000
theorem mx : 1000 ≤ maxLen := by decide
variable {i z1 N f1 z2 D f2 z3 W f3 k s}
theorem s26' (ok : BdOk z1 N z2 D z3 W) (n : Nat) (H : Heap) : call1 T (n + 3) (.fn 26) [.agg (bd i z1 N f1 z2 D f2 z3 W f3 k s)] H = some (.int .i64 (bif bdB i N D W k s then 0 else 1), H) :=
  s26 n H i z1 N f1 z2 D f2 z3 W f3 k s ok.h1 ok.h2 ok.h3 (Nat.le_trans ok.hN mx) (Nat.le_trans ok.hD mx) (Nat.le_trans ok.hW mx)
theorem s27' (ok : BdOk z1 N z2 D z3 W) (n : Nat) (H : Heap) : call1 T (n + 3) (.fn 27) [.agg (bd i z1 N f1 z2 D f2 z3 W f3 k s)] H = some (.int .i64 (bif bdB i N D W k s then 0 else 1), H) :=
  s27 n H i z1 N f1 z2 D f2 z3 W f3 k s ok.h1 ok.h2 ok.h3 (Nat.le_trans ok.hN mx) (Nat.le_trans ok.hD mx) (Nat.le_trans ok.hW mx)
theorem s28 (ok : BdOk z1 N z2 D z3 W) (n : Nat) (H : Heap) : call1 T (n + 4) (.fn 28) [.agg (bd i z1 N f1 z2 D f2 z3 W f3 k s)] H = some (.bool (bdB i N D W k s && !hasB false D), H) := by
  refine call_pure e28 (by rfl) ?_
  have h26 := fun H => s26' (i := i) (f1 := f1) (f2 := f2) (f3 := f3) (k := k) (s := s) ok n H
  have h58 := fun H => s58 (n + 1) H z2 D f2 false ok.h2 (Nat.le_trans ok.hD mx)
  simp only [c28, heap0, go_sem, Int.cast_ofNat_Int, Int.reduceToNat, Bool.true_xor, Bool.false_xor, Bool.xor_true, Bool.xor_false, Nat.reduceAdd, Nat.reduceBEq, Nat.reduceLeDiff, Nat.reduceLT, Nat.reduceMul, Nat.reduceSub, Int.reduceEq, Int.reduceLT, Int.reduceLE, Int.reduceNeg, h26]
  cases h : bdB i N D W k s <;> simp only [go_sem, Int.cast_ofNat_Int, Int.reduceToNat, Bool.true_xor, Bool.false_xor, Bool.xor_true, Bool.xor_false, Nat.reduceAdd, Nat.reduceBEq, Nat.reduceLeDiff, Nat.reduceLT, Nat.reduceMul, Nat.reduceSub, Int.reduceEq, Int.reduceLT, Int.reduceLE, Int.reduceNeg, h58]
theorem s30 (ok : BdOk z1 N z2 D z3 W) (n : Nat) (H : Heap) : call1 T (n + 4) (.fn 30) [.agg (bd i z1 N f1 z2 D f2 z3 W f3 k s)] H = some (.bool (bdB i N D W k s && !decide (s = 0) && !hasB false W), H) := by
  refine call_pure e30 (by rfl) ?_
  have h26 := fun H => s26' (i := i) (f1 := f1) (f2 := f2) (f3 := f3) (k := k) (s := s) ok n H
  have h58 := fun H => s58 (n + 1) H z3 W f3 false ok.h3 (Nat.le_trans ok.hW mx)
  simp only [c30, heap0, go_sem, Int.cast_ofNat_Int, Int.reduceToNat, Bool.true_xor, Bool.false_xor, Bool.xor_true, Bool.xor_false, Nat.reduceAdd, Nat.reduceBEq, Nat.reduceLeDiff, Nat.reduceLT, Nat.reduceMul, Nat.reduceSub, Int.reduceEq, Int.reduceLT, Int.reduceLE, Int.reduceNeg, h26]
  cases h : bdB i N D W k s <;> simp only [go_sem, Int.cast_ofNat_Int, Int.reduceToNat, Bool.true_xor, Bool.false_xor, Bool.xor_true, Bool.xor_false, Nat.reduceAdd, Nat.reduceBEq, Nat.reduceLeDiff, Nat.reduceLT, Nat.reduceMul, Nat.reduceSub, Int.reduceEq, Int.reduceLT, Int.reduceLE, Int.reduceNeg, h58]
  cases h2 : decide (s = 0) <;> simp only [go_sem, Int.cast_ofNat_Int, Int.reduceToNat, Bool.true_xor, Bool.false_xor, Bool.xor_true, Bool.xor_false, Nat.reduceAdd, Nat.reduceBEq, Nat.reduceLeDiff, Nat.reduceLT, Nat.reduceMul, Nat.reduceSub, Int.reduceEq, Int.reduceLT, Int.reduceLE, Int.reduceNeg, h58, h2]
theorem s29 (ok : BdOk z1 N z2 D z3 W) (n : Nat) (H : Heap) : call1 T (n + 4) (.fn 29) [.agg (bd i z1 N f1 z2 D f2 z3 W f3 k s)] H = some (.bool (bdB i N D W k s && !hasB false D), H) := by
  refine call_pure e29 (by rfl) ?_
  have h27 := fun H => s27' (i := i) (f1 := f1) (f2 := f2) (f3 := f3) (k := k) (s := s) ok n H
  have hz := ok.h2
  have hD := Nat.le_trans ok.hD mx
  simp only [c29, heap0, go_sem, Int.cast_ofNat_Int, Int.reduceToNat, Bool.true_xor, Bool.false_xor, Bool.xor_true, Bool.xor_false, Nat.reduceAdd, Nat.reduceBEq, Nat.reduceLeDiff, Nat.reduceLT, Nat.reduceMul, Nat.reduceSub, Int.reduceEq, Int.reduceLT, Int.reduceLE, Int.reduceNeg, h27]
  clear h27
  generalize hq : bdB i N D W k s = q
  have hq0 : decide ((bif q then (0 : Int) else 1) = 0) = q := by cases q <;> rfl
  simp only [go_sem, Int.cast_ofNat_Int, Int.reduceToNat, Bool.true_xor, Bool.false_xor, Bool.xor_true, Bool.xor_false, Nat.reduceAdd, Nat.reduceBEq, Nat.reduceLeDiff, Nat.reduceLT, Nat.reduceMul, Nat.reduceSub, Int.reduceEq, Int.reduceLT, Int.reduceLE, Int.reduceNeg, hq0]
  refine loop_rule (fun j => ([(1, .ptr 0 0 0 0), (3, .bool (q && tdB D j)), (4, .int .i64 j)], ⟨[.box (bd i z1 N f1 z2 D f2 z3 W f3 k s)], [], 0⟩)) (fun _ => True) D.length ?_ trivial ?_
  · simp only [go_sem, Int.cast_ofNat_Int, Int.reduceToNat, Bool.true_xor, Bool.false_xor, Bool.xor_true, Bool.xor_false, Nat.reduceAdd, Nat.reduceBEq, Nat.reduceLeDiff, Nat.reduceLT, Nat.reduceMul, Nat.reduceSub, Int.reduceEq, Int.reduceLT, Int.reduceLE, Int.reduceNeg, tdB_zero] <;> first | done | rfl
  · intro j hj _
    cases hA : (q && tdB D j) with
    | false =>
      have hr : (q && !hasB false D) = false := by
        cases q with
        | false => rfl
        | true => rw [Bool.true_and] at hA; rw [tdB_no hA]; rfl
      simp only [go_sem, Int.cast_ofNat_Int, Int.reduceToNat, Bool.true_xor, Bool.false_xor, Bool.xor_true, Bool.xor_false, Nat.reduceAdd, Nat.reduceBEq, Nat.reduceLeDiff, Nat.reduceLT, Nat.reduceMul, Nat.reduceSub, Int.reduceEq, Int.reduceLT, Int.reduceLE, Int.reduceNeg, hA, hr]
    | true =>
      rcases Nat.lt_or_ge j D.length with hlt | hge
      · obtain ⟨w, hw⟩ := getS hlt
        obtain rfl : z2 = 1 := hz.resolve_right (by rintro rfl; simp at hlt)
        have hs := w64_suc hlt hD
        have hB : (q && tdB D (j + 1)) = w := by rw [tdB_suc hw, ← Bool.and_assoc, hA, Bool.true_and]
        simp only [go_sem, Int.cast_ofNat_Int, Int.reduceToNat, Bool.true_xor, Bool.false_xor, Bool.xor_true, Bool.xor_false, Nat.reduceAdd, Nat.reduceBEq, Nat.reduceLeDiff, Nat.reduceLT, Nat.reduceMul, Nat.reduceSub, Int.reduceEq, Int.reduceLT, Int.reduceLE, Int.reduceNeg, hA, hlt, hw, hs, hB]
        refine ⟨by first | trivial | omega, by first | trivial | rfl, trivial⟩
      · obtain rfl : j = D.length := by omega
        have hd : decide (D.length < D.length) = false := decide_eq_false (by omega)
        have hr : (q && !hasB false D) = true := by rw [← tdB_all]; exact hA
        simp only [go_sem, Int.cast_ofNat_Int, Int.reduceToNat, Bool.true_xor, Bool.false_xor, Bool.xor_true, Bool.xor_false, Nat.reduceAdd, Nat.reduceBEq, Nat.reduceLeDiff, Nat.reduceLT, Nat.reduceMul, Nat.reduceSub, Int.reduceEq, Int.reduceLT, Int.reduceLE, Int.reduceNeg, hA, hd, hr]
theorem s31 (ok : BdOk z1 N z2 D z3 W) (n : Nat) (H : Heap) : call1 T (n + 4) (.fn 31) [.agg (bd i z1 N f1 z2 D f2 z3 W f3 k s)] H = some (.bool (bdB i N D W k s && !decide (s = 0) && !hasB false W), H) := by
  refine call_pure e31 (by rfl) ?_
  have h27 := fun H => s27' (i := i) (f1 := f1) (f2 := f2) (f3 := f3) (k := k) (s := s) ok n H
  have hz := ok.h3
  have hD := Nat.le_trans ok.hW mx
  obtain ⟨q, hq⟩ : ∃ q, q = (bdB i N D W k s && decide (0 < s)) := ⟨_, rfl⟩
  have hq2 : (bdB i N D W k s && !decide (s = 0) && !hasB false W) = (q && !hasB false W) := by
    rw [hq]
    cases h : bdB i N D W k s with
    | false => rfl
    | true =>
      have : 0 ≤ s := by
        unfold bdB at h
        simp only [Bool.and_eq_true, decide_eq_true_eq] at h
        exact h.1.1.2
      congr 1
      rw [Bool.eq_iff_iff]
      simp
      omega
  rw [hq2]
  simp only [c31, heap0, go_sem, Int.cast_ofNat_Int, Int.reduceToNat, Bool.true_xor, Bool.false_xor, Bool.xor_true, Bool.xor_false, Nat.reduceAdd, Nat.reduceBEq, Nat.reduceLeDiff, Nat.reduceLT, Nat.reduceMul, Nat.reduceSub, Int.reduceEq, Int.reduceLT, Int.reduceLE, Int.reduceNeg, h27]
  clear h27
  cases h : bdB i N D W k s <;> simp only [go_sem, Int.cast_ofNat_Int, Int.reduceToNat, Bool.true_xor, Bool.false_xor, Bool.xor_true, Bool.xor_false, Nat.reduceAdd, Nat.reduceBEq, Nat.reduceLeDiff, Nat.reduceLT, Nat.reduceMul, Nat.reduceSub, Int.reduceEq, Int.reduceLT, Int.reduceLE, Int.reduceNeg]
  all_goals
    refine loop_rule (fun j => ([(1, .ptr 0 0 0 0), (3, .bool (q && tdB W j)), (4, .int .i64 j)], ⟨[.box (bd i z1 N f1 z2 D f2 z3 W f3 k s)], [], 0⟩)) (fun _ => True) W.length ?_ trivial ?_
    · rw [h] at hq
      simp only [Bool.true_and, Bool.false_and] at hq
      simp only [go_sem, Int.cast_ofNat_Int, Int.reduceToNat, Bool.true_xor, Bool.false_xor, Bool.xor_true, Bool.xor_false, Nat.reduceAdd, Nat.reduceBEq, Nat.reduceLeDiff, Nat.reduceLT, Nat.reduceMul, Nat.reduceSub, Int.reduceEq, Int.reduceLT, Int.reduceLE, Int.reduceNeg, tdB_zero, hq] <;> first | done | rfl
    · intro j hj _
      clear hq hq2
      cases hA : (q && tdB W j) with
      | false =>
        have hr : (q && !hasB false W) = false := by
          cases q with
          | false => rfl
          | true => rw [Bool.true_and] at hA; rw [tdB_no hA]; rfl
        simp only [go_sem, Int.cast_ofNat_Int, Int.reduceToNat, Bool.true_xor, Bool.false_xor, Bool.xor_true, Bool.xor_false, Nat.reduceAdd, Nat.reduceBEq, Nat.reduceLeDiff, Nat.reduceLT, Nat.reduceMul, Nat.reduceSub, Int.reduceEq, Int.reduceLT, Int.reduceLE, Int.reduceNeg, hA, hr]
      | true =>
        rcases Nat.lt_or_ge j W.length with hlt | hge
        · obtain ⟨w, hw⟩ := getS hlt
          obtain rfl : z3 = 1 := hz.resolve_right (by rintro rfl; simp at hlt)
          have hs := w64_suc hlt hD
          have hB : (q && tdB W (j + 1)) = w := by rw [tdB_suc hw, ← Bool.and_assoc, hA, Bool.true_and]
          simp only [go_sem, Int.cast_ofNat_Int, Int.reduceToNat, Bool.true_xor, Bool.false_xor, Bool.xor_true, Bool.xor_false, Nat.reduceAdd, Nat.reduceBEq, Nat.reduceLeDiff, Nat.reduceLT, Nat.reduceMul, Nat.reduceSub, Int.reduceEq, Int.reduceLT, Int.reduceLE, Int.reduceNeg, hA, hlt, hw, hs, hB]
          refine ⟨by first | trivial | omega, by first | trivial | rfl, trivial⟩
        · obtain rfl : j = W.length := by omega
          have hd : decide (W.length < W.length) = false := decide_eq_false (by omega)
          have hr : (q && !hasB false W) = true := by rw [← tdB_all]; exact hA
          simp only [go_sem, Int.cast_ofNat_Int, Int.reduceToNat, Bool.true_xor, Bool.false_xor, Bool.xor_true, Bool.xor_false, Nat.reduceAdd, Nat.reduceBEq, Nat.reduceLeDiff, Nat.reduceLT, Nat.reduceMul, Nat.reduceSub, Int.reduceEq, Int.reduceLT, Int.reduceLE, Int.reduceNeg, hA, hd, hr]
end Go.Sh
namespace Go.Sh
set_option linter.unusedSectionVars false
set_option linter.unnecessarySimpa false
set_option linter.unusedVariables false
set_option linter.unusedSimpArgs false
set_option maxRecDepth 100000
set_option maxHeartbeats 4000000
theorem dself {A : Type} [DecidableEq A] (a : A) : decide (a = a) = true := decide_eq_true rfl
theorem s53 (n : Nat) (H : Heap) (z z' : Nat) (L : List Int) (f f' : Bool) (hz : z = 1 ∨ L = []) (hz' : z' = 1 ∨ L = []) (hL : L.length ≤ 1000) : call1 T (n + 1) (.fn 53) [.lst z (iS L) f, .lst z' (iS L) f'] H = some (.bool true, H) := by
  refine call_pure e53 (by rfl) ?_
  simp only [c53, heap0, go_sem, Int.cast_ofNat_Int, Int.reduceToNat, Bool.true_xor, Bool.false_xor, Bool.xor_true, Bool.xor_false, Nat.reduceAdd, Nat.reduceBEq, Nat.reduceLeDiff, Nat.reduceLT, Nat.reduceMul, Nat.reduceSub, Int.reduceEq, Int.reduceLT, Int.reduceLE, Int.reduceNeg, dself]
  refine loop_rule (fun i => ([(0, .lst z (iS L) f), (1, .lst z' (iS L) f'), (5, .int .i64 i)], ⟨[], [], 0⟩)) (fun _ => True) L.length ?_ trivial ?_
  · simp only [go_sem, Int.cast_ofNat_Int, Int.reduceToNat, Bool.true_xor, Bool.false_xor, Bool.xor_true, Bool.xor_false, Nat.reduceAdd, Nat.reduceBEq, Nat.reduceLeDiff, Nat.reduceLT, Nat.reduceMul, Nat.reduceSub, Int.reduceEq, Int.reduceLT, Int.reduceLE, Int.reduceNeg] <;> rfl
  · intro i hi _
    rcases Nat.lt_or_ge i L.length with hlt | hge
    · obtain ⟨x, hx⟩ := getS hlt
      obtain rfl : z = 1 := hz.resolve_right (by rintro rfl; simp at hlt)
      obtain rfl : z' = 1 := hz'.resolve_right (by rintro rfl; simp at hlt)
      have hs := w64_suc hlt (Nat.le_trans hL mx)
      simp only [go_sem, Int.cast_ofNat_Int, Int.reduceToNat, Bool.true_xor, Bool.false_xor, Bool.xor_true, Bool.xor_false, Nat.reduceAdd, Nat.reduceBEq, Nat.reduceLeDiff, Nat.reduceLT, Nat.reduceMul, Nat.reduceSub, Int.reduceEq, Int.reduceLT, Int.reduceLE, Int.reduceNeg, hlt, hx, dself, hs]
      refine ⟨by first | trivial | omega, by first | trivial | rfl, trivial⟩
    · have hd : decide (i < L.length) = false := decide_eq_false (by omega)
      have hd' : ¬ i < L.length := by omega
      simp only [go_sem, Int.cast_ofNat_Int, Int.reduceToNat, Bool.true_xor, Bool.false_xor, Bool.xor_true, Bool.xor_false, Nat.reduceAdd, Nat.reduceBEq, Nat.reduceLeDiff, Nat.reduceLT, Nat.reduceMul, Nat.reduceSub, Int.reduceEq, Int.reduceLT, Int.reduceLE, Int.reduceNeg, hd, hd']
theorem s21 (n : Nat) (H : Heap) (k d s : Int) (x : ByteArray) (z z' : Nat) (L : List Int) (f f' : Bool) (hz : z = 1 ∨ L = []) (hz' : z' = 1 ∨ L = []) (hL : L.length ≤ 1000) :
    call1 T (n + 2) (.fn 21) [.agg (cm k d s x z L f), .agg (cm k d s x z' L f')] H = some (.bool true, H) := by
  refine call_pure e21 (by rfl) ?_
  have h53 := fun H => s53 n H z z' L f f' hz hz' hL
  simp only [c21, heap0, go_sem, Int.cast_ofNat_Int, Int.reduceToNat, Bool.true_xor, Bool.false_xor, Bool.xor_true, Bool.xor_false, Nat.reduceAdd, Nat.reduceBEq, Nat.reduceLeDiff, Nat.reduceLT, Nat.reduceMul, Nat.reduceSub, Int.reduceEq, Int.reduceLT, Int.reduceLE, Int.reduceNeg, dself, h53]
theorem s25 {i : ByteArray} {z1 z1' : Nat} {N : List Int} {f1 f1' : Bool} {z2 z2' : Nat} {D : List Bool} {f2 f2' : Bool} {z3 z3' : Nat} {W : List Bool} {f3 f3' : Bool} {k s : Int} (ok : BdOk z1 N z2 D z3 W) (ok' : BdOk z1' N z2' D z3' W) (n : Nat) (H : Heap) :
    call1 T (n + 2) (.fn 25) [.agg (bd i z1 N f1 z2 D f2 z3 W f3 k s), .agg (bd i z1' N f1' z2' D f2' z3' W f3' k s)] H = some (.bool true, H) := by
  refine call_pure e25 (by rfl) ?_
  have h53 := fun H => s53 n H z1 z1' N f1 f1' ok.h1 ok'.h1 ok.hN
  simp only [c25, heap0, go_sem, Int.cast_ofNat_Int, Int.reduceToNat, Bool.true_xor, Bool.false_xor, Bool.xor_true, Bool.xor_false, Nat.reduceAdd, Nat.reduceBEq, Nat.reduceLeDiff, Nat.reduceLT, Nat.reduceMul, Nat.reduceSub, Int.reduceEq, Int.reduceLT, Int.reduceLE, Int.reduceNeg, dself, h53]
  refine loop_rule (fun j => ([(2, .ptr 0 0 0 0), (3, .ptr 1 0 0 0), (5, .int .i64 j)], ⟨[.box (bd i z1 N f1 z2 D f2 z3 W f3 k s), .box (bd i z1' N f1' z2' D f2' z3' W f3' k s)], [], 0⟩)) (fun _ => True) D.length ?_ trivial ?_
  · simp only [go_sem, Int.cast_ofNat_Int, Int.reduceToNat, Bool.true_xor, Bool.false_xor, Bool.xor_true, Bool.xor_false, Nat.reduceAdd, Nat.reduceBEq, Nat.reduceLeDiff, Nat.reduceLT, Nat.reduceMul, Nat.reduceSub, Int.reduceEq, Int.reduceLT, Int.reduceLE, Int.reduceNeg] <;> rfl
  · intro j hj _
    rcases Nat.lt_or_ge j D.length with hlt | hge
    · obtain ⟨x, hx⟩ := getS hlt
      obtain rfl : z2 = 1 := ok.h2.resolve_right (by rintro rfl; simp at hlt)
      obtain rfl : z2' = 1 := ok'.h2.resolve_right (by rintro rfl; simp at hlt)
      have hs := w64_suc hlt (Nat.le_trans ok.hD mx)
      simp only [go_sem, Int.cast_ofNat_Int, Int.reduceToNat, Bool.true_xor, Bool.false_xor, Bool.xor_true, Bool.xor_false, Nat.reduceAdd, Nat.reduceBEq, Nat.reduceLeDiff, Nat.reduceLT, Nat.reduceMul, Nat.reduceSub, Int.reduceEq, Int.reduceLT, Int.reduceLE, Int.reduceNeg, hlt, hx, dself, hs, beq_self_eq_true]
      refine ⟨by first | trivial | omega, by first | trivial | rfl, trivial⟩
    · have hd' : ¬ j < D.length := by omega
      simp only [go_sem, Int.cast_ofNat_Int, Int.reduceToNat, Bool.true_xor, Bool.false_xor, Bool.xor_true, Bool.xor_false, Nat.reduceAdd, Nat.reduceBEq, Nat.reduceLeDiff, Nat.reduceLT, Nat.reduceMul, Nat.reduceSub, Int.reduceEq, Int.reduceLT, Int.reduceLE, Int.reduceNeg, hd']
      refine loop_rule (fun j => ([(2, .ptr 0 0 0 0), (3, .ptr 1 0 0 0), (6, .int .i64 j)], ⟨[.box (bd i z1 N f1 z2 D f2 z3 W f3 k s), .box (bd i z1' N f1' z2' D f2' z3' W f3' k s)], [], 0⟩)) (fun _ => True) W.length ?_ trivial ?_
      · simp only [go_sem, Int.cast_ofNat_Int, Int.reduceToNat, Bool.true_xor, Bool.false_xor, Bool.xor_true, Bool.xor_false, Nat.reduceAdd, Nat.reduceBEq, Nat.reduceLeDiff, Nat.reduceLT, Nat.reduceMul, Nat.reduceSub, Int.reduceEq, Int.reduceLT, Int.reduceLE, Int.reduceNeg] <;> rfl
      · intro j hj _
        rcases Nat.lt_or_ge j W.length with hlt | hge
        · obtain ⟨x, hx⟩ := getS hlt
          obtain rfl : z3 = 1 := ok.h3.resolve_right (by rintro rfl; simp at hlt)
          obtain rfl : z3' = 1 := ok'.h3.resolve_right (by rintro rfl; simp at hlt)
          have hs := w64_suc hlt (Nat.le_trans ok.hW mx)
          simp only [go_sem, Int.cast_ofNat_Int, Int.reduceToNat, Bool.true_xor, Bool.false_xor, Bool.xor_true, Bool.xor_false, Nat.reduceAdd, Nat.reduceBEq, Nat.reduceLeDiff, Nat.reduceLT, Nat.reduceMul, Nat.reduceSub, Int.reduceEq, Int.reduceLT, Int.reduceLE, Int.reduceNeg, hlt, hx, dself, hs, beq_self_eq_true]
          refine ⟨by first | trivial | omega, by first | trivial | rfl, trivial⟩
        · have hd' : ¬ j < W.length := by omega
          simp only [go_sem, Int.cast_ofNat_Int, Int.reduceToNat, Bool.true_xor, Bool.false_xor, Bool.xor_true, Bool.xor_false, Nat.reduceAdd, Nat.reduceBEq, Nat.reduceLeDiff, Nat.reduceLT, Nat.reduceMul, Nat.reduceSub, Int.reduceEq, Int.reduceLT, Int.reduceLE, Int.reduceNeg, hd']
/-- Small commands and boards. -/
theorem s13 (n : Nat) (H : Heap) (k d s : Int) (x : ByteArray) (z : Nat) (L : List Int) (f : Bool) : call1 T (n + 1) (.fn 13) [.agg (cm k d s x z L f)] H = some (.bool (decide ((x.size : Int) ≤ 100) && decide ((L.length : Int) ≤ 40)), H) := by
  refine call_pure e13 (by rfl) ?_
  simp only [c13, heap0, go_sem, Int.cast_ofNat_Int, Int.reduceToNat, Bool.true_xor, Bool.false_xor, Bool.xor_true, Bool.xor_false, Nat.reduceAdd, Nat.reduceBEq, Nat.reduceLeDiff, Nat.reduceLT, Nat.reduceMul, Nat.reduceSub, Int.reduceEq, Int.reduceLT, Int.reduceLE, Int.reduceNeg]
  repeat' (with_reducible refine fork_split (fun _ => ?_) (fun _ => ?_) <;> simp only [*, go_sem, Int.cast_ofNat_Int, Int.reduceToNat, Bool.true_xor, Bool.false_xor, Bool.xor_true, Bool.xor_false, Nat.reduceAdd, Nat.reduceBEq, Nat.reduceLeDiff, Nat.reduceLT, Nat.reduceMul, Nat.reduceSub, Int.reduceEq, Int.reduceLT, Int.reduceLE, Int.reduceNeg])
  all_goals trace_state
theorem x75 : T 75 = some stdIdx := e75
theorem s75 (n : Nat) (H : Heap) (z : Nat) (L : List Int) (f : Bool) (q : Int) (hz : z = 1 ∨ L = []) (hL : L.length ≤ 1000) : call1 T (n + 1) (.fn 75) [.lst z (iS L) f, .int .i64 q] H = some (.int .i64 (idx1 (fun y => decide (q = y)) L), H) :=
  stdIdx_ok x75 (.lst z f (hz.imp id (by rintro rfl; rfl))) (Nat.le_trans hL mx)
theorem s77 (n : Nat) (H : Heap) (z : Nat) (D : List Int) (f : Bool) (q : Int) (hz : z = 1 ∨ D = []) (hL : D.length ≤ 1000) : call1 T (n + 1) (.fn 77) [.lst z (iS D) f, .int .i64 q] H = some (.int .i64 (idx1 (fun y => decide (q = y)) D), H) := by
  refine call_pure e77 (by rfl) ?_
  simp only [c77, heap0, go_sem, Int.cast_ofNat_Int, Int.reduceToNat, Bool.true_xor, Bool.false_xor, Bool.xor_true, Bool.xor_false, Nat.reduceAdd, Nat.reduceBEq, Nat.reduceLeDiff, Nat.reduceLT, Nat.reduceMul, Nat.reduceSub, Int.reduceEq, Int.reduceLT, Int.reduceLE, Int.reduceNeg]
  refine loop_rule (fun i => ([(0, .lst z (iS D) f), (1, .int .i64 q), (5, .int .i64 i)], ⟨[], [], 0⟩)) (fun i => ∀ (j : Nat) y, j < i → D[j]? = some y → decide (q = y) = false) D.length ?_ (fun j r h => by omega) ?_
  · simp only [go_sem, Int.cast_ofNat_Int, Int.reduceToNat, Bool.true_xor, Bool.false_xor, Bool.xor_true, Bool.xor_false, Nat.reduceAdd, Nat.reduceBEq, Nat.reduceLeDiff, Nat.reduceLT, Nat.reduceMul, Nat.reduceSub, Int.reduceEq, Int.reduceLT, Int.reduceLE, Int.reduceNeg] <;> rfl
  · intro i hi hP
    rcases Nat.lt_or_ge i D.length with hlt | hge
    · obtain ⟨y, hy⟩ := getS hlt
      obtain rfl : z = 1 := hz.resolve_right (by rintro rfl; simp at hlt)
      have hw := w64_suc hlt (Nat.le_trans hL mx)
      have hc : decide (y = q) = decide (q = y) := by rw [Bool.eq_iff_iff]; simp [eq_comm]
      cases hp : decide (q = y) with
      | true =>
        have hx := idx1_at hy hp hP
        rw [hp] at hc
        simp only [go_sem, Int.cast_ofNat_Int, Int.reduceToNat, Bool.true_xor, Bool.false_xor, Bool.xor_true, Bool.xor_false, Nat.reduceAdd, Nat.reduceBEq, Nat.reduceLeDiff, Nat.reduceLT, Nat.reduceMul, Nat.reduceSub, Int.reduceEq, Int.reduceLT, Int.reduceLE, Int.reduceNeg, hlt, hy, hc, hx]
      | false =>
        rw [hp] at hc
        simp only [go_sem, Int.cast_ofNat_Int, Int.reduceToNat, Bool.true_xor, Bool.false_xor, Bool.xor_true, Bool.xor_false, Nat.reduceAdd, Nat.reduceBEq, Nat.reduceLeDiff, Nat.reduceLT, Nat.reduceMul, Nat.reduceSub, Int.reduceEq, Int.reduceLT, Int.reduceLE, Int.reduceNeg, hlt, hy, hc, hw]
        refine ⟨by first | trivial | omega, by first | trivial | rfl, fun j r' hj hr2 => ?_⟩
        rcases Nat.lt_or_ge j i with hlt2 | hge2
        · exact hP j r' hlt2 hr2
        · have : j = i := by omega
          subst this
          rw [hy] at hr2
          cases hr2
          exact hp
    · have hlt : ¬ i < D.length := by omega
      have hx : idx1 (fun y => decide (q = y)) D = -1 := idx1_none (fun j a hj => hP j a (by have := (List.getElem?_eq_some_iff.1 hj).1; omega) hj)
      simp only [go_sem, Int.cast_ofNat_Int, Int.reduceToNat, Bool.true_xor, Bool.false_xor, Bool.xor_true, Bool.xor_false, Nat.reduceAdd, Nat.reduceBEq, Nat.reduceLeDiff, Nat.reduceLT, Nat.reduceMul, Nat.reduceSub, Int.reduceEq, Int.reduceLT, Int.reduceLE, Int.reduceNeg, hlt, hx]
end Go.Sh
namespace Go.Sh
set_option linter.unusedSectionVars false
set_option linter.unnecessarySimpa false
set_option linter.unusedVariables false
set_option linter.unusedSimpArgs false
set_option maxRecDepth 100000
set_option maxHeartbeats 4000000
theorem x55 : T 55 = some (stdClone 1 8 [.int .i64 0]) := e55
theorem s55k (n : Nat) (z : Nat) (L : List Int) (f : Bool) (hz : z = 1 ∨ L = []) (hL : L.length ≤ 1000) (bl : List SBlk) (es ro) : call1 T (n + 1) (.kfn 55) [.lst z (iS L) f] ⟨bl, es, ro⟩ = some (.slc bl.length 0 0 L.length, ⟨bl ++ [.arr 0 1 (iS L) false], es, ro⟩) := by
  have := stdCloneK_ok (T := T) (f := 55) (n := n) (z := 1) (z' := z) (L := iS L) (fl := f) x55 (hz.imp id (by rintro rfl; rfl)) (by rw [iS_len]; exact Nat.le_trans (show L.length * 8 ≤ 10000 by omega) (by decide)) bl es ro
  rw [iS_len] at this
  exact this
theorem s55 (n : Nat) (H : Heap) (z : Nat) (L : List Int) (f : Bool) (hz : z = 1 ∨ L = []) (hL : L.length ≤ 1000) : call1 T (n + 1) (.fn 55) [.lst z (iS L) f] H = some (.lst 1 (iS L) false, H) :=
  stdClone_ok x55 (hz.imp id (by rintro rfl; rfl)) (Still.ints L) (by rw [iS_len]; exact Nat.le_trans (show L.length * 8 ≤ 10000 by omega) (by decide))
theorem bb_still (D : List Bool) : Still (bbS D) := fun cs hcs c hc => by
  simp only [bbS, List.mem_map] at hcs
  obtain ⟨b, _, rfl⟩ := hcs
  simp only [List.mem_singleton] at hc
  subst hc
  exact ⟨rfl, fun _ _ _ => rfl⟩
theorem bb_refs (D : List Bool) : SV.refs.refsL (bbS D).flatten = 0 := (bb_still D).zero
theorem bb_cons (D : List Bool) : bbS D = [] ∨ ∃ b E, bbS D = b :: E := by cases bbS D with | nil => exact .inl rfl | cons a l => exact .inr ⟨a, l, rfl⟩
theorem mkB (H : Heap) (m : Nat) (h : m ≤ 1000) : smake 1 [.bool false] 1 H (.int .i64 m) (.int .i64 m) = some (.slc H.bl.length 0 0 m, hnew H (.arr 0 1 (List.replicate m [.bool false]) true)) := by
  have h1 : decide ((m : Int) * ((1 : Nat) : Int) ≤ (mostLen : Int)) = true := decide_eq_true (by have : (mostLen : Int) = 1099511627776 := rfl; omega)
  have h2 : decide ((0 : Int) ≤ (m : Int)) = true := decide_eq_true (by omega)
  have h3 : decide ((m : Int) ≤ (m : Int)) = true := decide_eq_true (by omega)
  simp only [smake, h1, h2, h3, Bool.and_self, cond_true, Int.toNat_natCast]
theorem bb_rep (n : Nat) : List.replicate n [SV.bool false] = bbS (List.replicate n false) := by simp [bbS]
theorem s84 (n : Nat) (z : Nat) (D : List Bool) (f : Bool) (hz : z = 1 ∨ D = []) (hD : D.length ≤ 1000) (bl : List SBlk) (es ro) : call1 T (n + 1) (.fn 84) [.lst z (bbS D) f] ⟨bl, es, ro⟩ = some (.slc bl.length 0 0 D.length, ⟨bl ++ [.arr 0 1 (bbS D) true], es, ro⟩) := by
  refine call_in e84 (by rfl) ?_
  have hb : decide ((D.length : Int) ≤ 1099511627776) = true := decide_eq_true (by omega)
  have hz' : ∀ H, rdL 1 H (.lst z (bbS D) f) = some (bbS D) := by
    intro H
    rcases hz with rfl | rfl <;> simp [rdL, bbS]
  have h1 : (bbS D).take D.length = bbS D := by rw [← bbS_len (D := D)]; exact List.take_length
  have h2 : (List.replicate D.length [SV.bool false]).drop (min D.length D.length) = [] := by simp
  simp only [c84, go_sem, Int.cast_ofNat_Int, Int.reduceToNat, Bool.true_xor, Bool.false_xor, Bool.xor_true, Bool.xor_false, Nat.reduceAdd, Nat.reduceBEq, Nat.reduceLeDiff, Nat.reduceLT, Nat.reduceMul, Nat.reduceSub, Int.reduceEq, Int.reduceLT, Int.reduceLE, Int.reduceNeg, fr_get0, fr_getk, fr_set0, fr_setk, fr_take0, fr_takek, fr_drop0, fr_dropk, fr_le, fr_le0, fr_lt, fr_lt0, fr_lt1, fr_min, fr_mink, fr_beq, fr_beq0, fr_beq1, fr_maxle, fr_refl, fr_z, fr_s, List.append_assoc, List.length_append, Nat.add_assoc, hz', mkB _ _ hD, List.length_replicate, bb_refs, h1, h2, List.append_nil]
/-- A board of slices that are blocks from b on. -/
abbrev ob (b : Nat) (i : ByteArray) (N : List Int) (D W : List Bool) (k s : Int) : List SV := [.str i, .slc b 0 0 N.length, .slc (b + 1) 0 0 D.length, .slc (b + 2) 0 0 W.length, .int .i64 k, .int .i64 s]
theorem s76k (n : Nat) (i : ByteArray) (z1 : Nat) (N : List Int) (f1 : Bool) (z2 : Nat) (D : List Bool) (f2 : Bool) (z3 : Nat) (W : List Bool) (f3 : Bool) (k s : Int) (ok : BdOk z1 N z2 D z3 W) (bl : List SBlk) (es ro) :
    call1 T (n + 2) (.kfn 76) [.agg (bd i z1 N f1 z2 D f2 z3 W f3 k s)] ⟨bl, es, ro⟩ = some (.agg (ob (bl.length + 2) i N D W k s),
      ⟨bl ++ [.box (ob (bl.length + 2) i N D W k s), .box (ob (bl.length + 2) i N D W k s), .arr 0 1 (iS N) false, .arr 0 1 (bbS D) true, .arr 0 1 (bbS W) true],
        es ++ [(bl.length + 1, bl.length + 5), (bl.length, bl.length + 5), (bl.length, bl.length + 4), (bl.length, bl.length + 3)], ro⟩) := by
  refine kcall_in e76 ?_
  have h55 := fun bl es ro => s55k n z1 N f1 ok.h1 ok.hN bl es ro
  have h84 := fun bl es ro => s84 n z2 D f2 ok.h2 ok.hD bl es ro
  have h84' := fun bl es ro => s84 n z3 W f3 ok.h3 ok.hW bl es ro
  have hm : max 0 (max (bl.length + 3) (max (bl.length + 4) (max (bl.length + 5) 0))) = bl.length + 5 := by omega
  simp only [c76, go_sem, Int.cast_ofNat_Int, Int.reduceToNat, Bool.true_xor, Bool.false_xor, Bool.xor_true, Bool.xor_false, Nat.reduceAdd, Nat.reduceBEq, Nat.reduceLeDiff, Nat.reduceLT, Nat.reduceMul, Nat.reduceSub, Int.reduceEq, Int.reduceLT, Int.reduceLE, Int.reduceNeg, fr_get0, fr_getk, fr_set0, fr_setk, fr_take0, fr_takek, fr_drop0, fr_dropk, fr_le, fr_le0, fr_lt, fr_lt0, fr_lt1, fr_min, fr_mink, fr_beq, fr_beq0, fr_beq1, fr_maxle, fr_refl, fr_z, fr_s, List.append_assoc, List.length_append, Nat.add_assoc, h55, h84, h84', hm]
theorem s61k (n : Nat) (i : ByteArray) (z1 : Nat) (N : List Int) (f1 : Bool) (z2 : Nat) (D : List Bool) (f2 : Bool) (z3 : Nat) (W : List Bool) (f3 : Bool) (k s : Int) (ok : BdOk z1 N z2 D z3 W) (bl : List SBlk) (es ro) :
    call1 T (n + 2) (.kfn 61) [.agg (bd i z1 N f1 z2 D f2 z3 W f3 k s)] ⟨bl, es, ro⟩ = some (.agg (ob (bl.length + 2) i N D W k s),
      ⟨bl ++ [.box (ob (bl.length + 2) i N D W k s), .box (ob (bl.length + 2) i N D W k s), .arr 0 1 (iS N) false, .arr 0 1 (bbS D) false, .arr 0 1 (bbS W) false],
        es ++ [(bl.length + 1, bl.length + 5), (bl.length, bl.length + 5), (bl.length, bl.length + 4), (bl.length, bl.length + 3)], ro⟩) := by
  refine kcall_in e61 ?_
  have q1 : ∀ H, rdL 1 H (.lst z1 (iS N) f1) = some (iS N) := fun H => by rcases ok.h1 with rfl | rfl <;> simp [rdL, iS]
  have q2 : ∀ H, rdL 1 H (.lst z2 (bbS D) f2) = some (bbS D) := fun H => by rcases ok.h2 with rfl | rfl <;> simp [rdL, bbS]
  have q3 : ∀ H, rdL 1 H (.lst z3 (bbS W) f3) = some (bbS W) := fun H => by rcases ok.h3 with rfl | rfl <;> simp [rdL, bbS]
  have r1 : decide (N.length * 8 ≤ mostLen) = true := decide_eq_true (Nat.le_trans (show N.length * 8 ≤ 10000 by have := ok.hN; omega) (by decide))
  have r2 : decide (D.length ≤ mostLen) = true := decide_eq_true (Nat.le_trans ok.hD (by decide))
  have r3 : decide (W.length ≤ mostLen) = true := decide_eq_true (Nat.le_trans ok.hW (by decide))
  have hm : max 0 (max (bl.length + 3) (max (bl.length + 4) (max (bl.length + 5) 0))) = bl.length + 5 := by omega
  simp only [c61, go_sem, Int.cast_ofNat_Int, Int.reduceToNat, Bool.true_xor, Bool.false_xor, Bool.xor_true, Bool.xor_false, Nat.reduceAdd, Nat.reduceBEq, Nat.reduceLeDiff, Nat.reduceLT, Nat.reduceMul, Nat.reduceSub, Int.reduceEq, Int.reduceLT, Int.reduceLE, Int.reduceNeg, fr_get0, fr_getk, fr_set0, fr_setk, fr_take0, fr_takek, fr_drop0, fr_dropk, fr_le, fr_le0, fr_lt, fr_lt0, fr_lt1, fr_min, fr_mink, fr_beq, fr_beq0, fr_beq1, fr_maxle, fr_refl, fr_z, fr_s, List.append_assoc, List.length_append, Nat.add_assoc, q1, q2, q3, r1, r2, r3, Nat.mul_one, hm]
end Go.Sh
namespace Go.Sh
set_option linter.unusedSectionVars false
set_option linter.unnecessarySimpa false
set_option linter.unusedVariables false
set_option linter.unusedSimpArgs false
set_option maxRecDepth 100000
set_option maxHeartbeats 4000000
abbrev bdZ : List SV := [.str ⟨#[]⟩, .lst 0 [] true, .lst 0 [] true, .lst 0 [] true, .int .i64 0, .int .i64 0]
theorem bdZ_eq : bd ⟨#[]⟩ 0 [] true 0 [] true 0 [] true 0 0 = bdZ := rfl
/-- Where a node is on a board, if it is. -/
theorem idx_at {q : Int} {N : List Int} (h : ¬ idx1 (fun y => decide (q = y)) N < 0) : ∃ j : Nat, idx1 (fun y => decide (q = y)) N = j ∧ j < N.length := by
  have := idx1_ge (fun y => decide (q = y)) N
  exact ⟨(idx1 (fun y => decide (q = y)) N).toNat, by omega, by omega⟩
variable (n : Nat) (i : ByteArray) (z1 : Nat) (N : List Int) (f1 : Bool) (z2 : Nat) (D : List Bool) (f2 : Bool) (z3 : Nat) (W : List Bool) (f3 : Bool) (k s : Int) (ok : BdOk z1 N z2 D z3 W) (q : Int)
include ok
theorem s59a (hb : bdB i N D W k s = false) (bl : List SBlk) (es ro) :
    ∃ x0 x1, call1 T (n + 4) (.kfn 59) [.agg (bd i z1 N f1 z2 D f2 z3 W f3 k s), .int .i64 q] ⟨bl, es, ro⟩ = some (.tup [.agg bdZ, .int .i64 0, .int .i64 1], ⟨bl ++ [x0, x1], es, ro⟩) := by
  have h26 := fun H => s26' (i := i) (f1 := f1) (f2 := f2) (f3 := f3) (k := k) (s := s) ok n H
  refine ⟨.box (bd i z1 N f1 z2 D f2 z3 W f3 k s), .box bdZ, ?_⟩
  refine kcall_in e59 ?_
  simp only [c59, go_sem, Int.cast_ofNat_Int, Int.reduceToNat, Bool.true_xor, Bool.false_xor, Bool.xor_true, Bool.xor_false, Nat.reduceAdd, Nat.reduceBEq, Nat.reduceLeDiff, Nat.reduceLT, Nat.reduceMul, Nat.reduceSub, Int.reduceEq, Int.reduceLT, Int.reduceLE, Int.reduceNeg, fr_get0, fr_getk, fr_set0, fr_setk, fr_take0, fr_takek, fr_drop0, fr_dropk, fr_le, fr_le0, fr_lt, fr_lt0, fr_lt1, fr_min, fr_mink, fr_beq, fr_beq0, fr_beq1, fr_maxle, fr_refl, fr_z, fr_s, List.append_assoc, List.length_append, Nat.add_assoc, h26, hb]
theorem s59b (hb : bdB i N D W k s = true) (hq : idx1 (fun y => decide (q = y)) N < 0) (bl : List SBlk) (es ro) :
    ∃ x0 x1, call1 T (n + 4) (.kfn 59) [.agg (bd i z1 N f1 z2 D f2 z3 W f3 k s), .int .i64 q] ⟨bl, es, ro⟩ = some (.tup [.agg bdZ, .int .i64 0, .int .i64 7], ⟨bl ++ [x0, x1], es, ro⟩) := by
  have h26 := fun H => s26' (i := i) (f1 := f1) (f2 := f2) (f3 := f3) (k := k) (s := s) ok n H
  have h75 := fun H => s75 (n + 2) H z1 N f1 q ok.h1 ok.hN
  refine ⟨.box (bd i z1 N f1 z2 D f2 z3 W f3 k s), .box bdZ, ?_⟩
  refine kcall_in e59 ?_
  simp only [c59, go_sem, Int.cast_ofNat_Int, Int.reduceToNat, Bool.true_xor, Bool.false_xor, Bool.xor_true, Bool.xor_false, Nat.reduceAdd, Nat.reduceBEq, Nat.reduceLeDiff, Nat.reduceLT, Nat.reduceMul, Nat.reduceSub, Int.reduceEq, Int.reduceLT, Int.reduceLE, Int.reduceNeg, fr_get0, fr_getk, fr_set0, fr_setk, fr_take0, fr_takek, fr_drop0, fr_dropk, fr_le, fr_le0, fr_lt, fr_lt0, fr_lt1, fr_min, fr_mink, fr_beq, fr_beq0, fr_beq1, fr_maxle, fr_refl, fr_z, fr_s, List.append_assoc, List.length_append, Nat.add_assoc, h26, hb, h75, hq]
theorem s59c (hb : bdB i N D W k s = true) (j : Nat) (hq : idx1 (fun y => decide (q = y)) N = j) (bl : List SBlk) (es ro) :
    ∃ x0 x1 x2 x3 es', call1 T (n + 4) (.kfn 59) [.agg (bd i z1 N f1 z2 D f2 z3 W f3 k s), .int .i64 q] ⟨bl, es, ro⟩ = some (.tup [.agg (ob (bl.length + 4) i N D W k s), .int .i64 j, .int .i64 0],
      ⟨bl ++ [x0, x1, x2, x3, .arr 0 1 (iS N) false, .arr 0 1 (bbS D) true, .arr 0 1 (bbS W) true], es', ro⟩) := by
  have h26 := fun H => s26' (i := i) (f1 := f1) (f2 := f2) (f3 := f3) (k := k) (s := s) ok n H
  have h75 := fun H => s75 (n + 2) H z1 N f1 q ok.h1 ok.hN
  have h76 := fun bl es ro => s76k (n + 1) i z1 N f1 z2 D f2 z3 W f3 k s ok bl es ro
  have h0 : decide ((j : Int) < 0) = false := decide_eq_false (by omega)
  refine ⟨.box (bd i z1 N f1 z2 D f2 z3 W f3 k s), .box (ob (bl.length + 4) i N D W k s), .box (ob (bl.length + 4) i N D W k s), .box (ob (bl.length + 4) i N D W k s), ?_⟩
  refine Exists.imp (fun es' h => kcall_in e59 h) ?_
  simp only [c59, go_sem, Int.cast_ofNat_Int, Int.reduceToNat, Bool.true_xor, Bool.false_xor, Bool.xor_true, Bool.xor_false, Nat.reduceAdd, Nat.reduceBEq, Nat.reduceLeDiff, Nat.reduceLT, Nat.reduceMul, Nat.reduceSub, Int.reduceEq, Int.reduceLT, Int.reduceLE, Int.reduceNeg, fr_get0, fr_getk, fr_set0, fr_setk, fr_take0, fr_takek, fr_drop0, fr_dropk, fr_le, fr_le0, fr_lt, fr_lt0, fr_lt1, fr_min, fr_mink, fr_beq, fr_beq0, fr_beq1, fr_maxle, fr_refl, fr_z, fr_s, List.append_assoc, List.length_append, Nat.add_assoc, h26, hb, h75, hq, h0, h76]
  exact ⟨_, rfl⟩
theorem s60 (H : Heap) : call1 T (n + 4) (.fn 60) [.agg (bd i z1 N f1 z2 D f2 z3 W f3 k s), .int .i64 q] H =
    some (bif bdB i N D W k s then (bif decide (idx1 (fun y => decide (q = y)) N < 0) then .tup [.int .i64 0, .int .i64 7] else .tup [.int .i64 (idx1 (fun y => decide (q = y)) N), .int .i64 0]) else .tup [.int .i64 0, .int .i64 1], H) := by
  refine call_pure e60 (by rfl) ?_
  have h27 := fun H => s27' (i := i) (f1 := f1) (f2 := f2) (f3 := f3) (k := k) (s := s) ok n H
  have h77 := fun H => s77 (n + 2) H z1 N f1 q ok.h1 ok.hN
  simp only [c60, heap0, go_sem, Int.cast_ofNat_Int, Int.reduceToNat, Bool.true_xor, Bool.false_xor, Bool.xor_true, Bool.xor_false, Nat.reduceAdd, Nat.reduceBEq, Nat.reduceLeDiff, Nat.reduceLT, Nat.reduceMul, Nat.reduceSub, Int.reduceEq, Int.reduceLT, Int.reduceLE, Int.reduceNeg, h27]
  cases hb : bdB i N D W k s <;> simp only [go_sem, Int.cast_ofNat_Int, Int.reduceToNat, Bool.true_xor, Bool.false_xor, Bool.xor_true, Bool.xor_false, Nat.reduceAdd, Nat.reduceBEq, Nat.reduceLeDiff, Nat.reduceLT, Nat.reduceMul, Nat.reduceSub, Int.reduceEq, Int.reduceLT, Int.reduceLE, Int.reduceNeg, h77]
  cases h0 : decide (idx1 (fun y => decide (q = y)) N < 0) <;> simp only [go_sem, Int.cast_ofNat_Int, Int.reduceToNat, Bool.true_xor, Bool.false_xor, Bool.xor_true, Bool.xor_false, Nat.reduceAdd, Nat.reduceBEq, Nat.reduceLeDiff, Nat.reduceLT, Nat.reduceMul, Nat.reduceSub, Int.reduceEq, Int.reduceLT, Int.reduceLE, Int.reduceNeg, h0]
/-- The board behind a report, of the flags' fullness g. -/
def rpV (g : Bool) (x : ByteArray) : SV :=
  bif bdB i N D W k s then (bif decide (idx1 (fun y => decide (q = y)) N < 0) then .tup [.agg bdZ, .int .i64 7]
    else .tup [.agg (bd i 1 N false 1 (D.set (idx1 (fun y => decide (q = y)) N).toNat (decide (x = i))) g 1 W g k s), .int .i64 0]) else .tup [.agg bdZ, .int .i64 1]
omit ok in
theorem bb_set (D : List Bool) (j : Nat) (b : Bool) : (bbS D).set j [.bool b] = bbS (D.set j b) := by simp [bbS, List.map_set]
omit ok in
theorem bdB_len (hb : bdB i N D W k s = true) : D.length = N.length ∧ W.length = N.length ∧ 0 < N.length := by
  unfold bdB lsB at hb
  simp only [Bool.and_eq_true, decide_eq_true_eq] at hb
  omega
omit ok in
theorem fz_i (L : List Int) (N : Nat) (H d v m e) (hn : L.length = m) : fzB N H (d + 1) v 0 m (some (.arr v 1 (iS L) e)) = some (.lst 1 (iS L) e) := Still.fz (Still.ints L) N H d v m 1 e (by rw [iS_len]; exact hn)
omit ok in
theorem fz_b (D : List Bool) (N : Nat) (H d v m e) (hn : D.length = m) : fzB N H (d + 1) v 0 m (some (.arr v 1 (bbS D) e)) = some (.lst 1 (bbS D) e) := Still.fz (bb_still D) N H d v m 1 e (by rw [bbS_len]; exact hn)
omit ok in
theorem drop1 {A : Type} (a : A) : List.drop 1 [a] = [] := rfl
theorem s32 (x : ByteArray) (H : Heap) : call1 T (n + 5) (.fn 32) [.agg (bd i z1 N f1 z2 D f2 z3 W f3 k s), .int .i64 q, .str x] H = some (rpV i N D W k s q true x, H) := by
  refine call_pure e32 (by rfl) ?_
  unfold rpV
  cases hb : bdB i N D W k s with
  | false =>
    obtain ⟨x0, x1, h59⟩ := s59a n i z1 N f1 z2 D f2 z3 W f3 k s ok q hb [.box (bd i z1 N f1 z2 D f2 z3 W f3 k s), .box bdZ] [] 0
    simp only [c32, heap0, go_sem, Int.cast_ofNat_Int, Int.reduceToNat, Bool.true_xor, Bool.false_xor, Bool.xor_true, Bool.xor_false, Nat.reduceAdd, Nat.reduceBEq, Nat.reduceLeDiff, Nat.reduceLT, Nat.reduceMul, Nat.reduceSub, Int.reduceEq, Int.reduceLT, Int.reduceLE, Int.reduceNeg, h59, List.cons_append, List.nil_append]
  | true =>
    cases h0 : decide (idx1 (fun y => decide (q = y)) N < 0) with
    | true =>
      obtain ⟨x0, x1, h59⟩ := s59b n i z1 N f1 z2 D f2 z3 W f3 k s ok q hb (by simpa using h0) [.box (bd i z1 N f1 z2 D f2 z3 W f3 k s), .box bdZ] [] 0
      simp only [c32, heap0, go_sem, Int.cast_ofNat_Int, Int.reduceToNat, Bool.true_xor, Bool.false_xor, Bool.xor_true, Bool.xor_false, Nat.reduceAdd, Nat.reduceBEq, Nat.reduceLeDiff, Nat.reduceLT, Nat.reduceMul, Nat.reduceSub, Int.reduceEq, Int.reduceLT, Int.reduceLE, Int.reduceNeg, h59, List.cons_append, List.nil_append]
    | false =>
      obtain ⟨j, hj, hlt⟩ := idx_at (by simpa using h0)
      obtain ⟨x0, x1, x2, x3, es', h59⟩ := s59c n i z1 N f1 z2 D f2 z3 W f3 k s ok q hb j hj [.box (bd i z1 N f1 z2 D f2 z3 W f3 k s), .box bdZ] [] 0
      obtain ⟨l1, l2, l3⟩ := bdB_len _ _ _ _ _ _ hb
      have hlt2 : j < D.length := by omega
      obtain ⟨y, hy⟩ := getS hlt2
      have g1 := fun Hp d => fz_i N 0 Hp d 0 N.length false rfl
      have g2 := fun Hp d => fz_b (D.set j (decide (x = i))) 0 Hp d 0 D.length true (by simp)
      have g3 := fun Hp d => fz_b W 0 Hp d 0 W.length true rfl
      simp only [c32, heap0, go_sem, Int.cast_ofNat_Int, Int.reduceToNat, Bool.true_xor, Bool.false_xor, Bool.xor_true, Bool.xor_false, Nat.reduceAdd, Nat.reduceBEq, Nat.reduceLeDiff, Nat.reduceLT, Nat.reduceMul, Nat.reduceSub, Int.reduceEq, Int.reduceLT, Int.reduceLE, Int.reduceNeg, h59, hlt2, List.cons_append, List.nil_append, bb_set, hj, Int.toNat_natCast, hy, drop1, g1, g2, g3]
end Go.Sh
namespace Go.Sh
set_option linter.unusedSectionVars false
set_option linter.unnecessarySimpa false
set_option linter.unusedVariables false
set_option linter.unusedSimpArgs false
set_option maxRecDepth 100000
set_option maxHeartbeats 4000000
variable (n : Nat) (i : ByteArray) (z1 : Nat) (N : List Int) (f1 : Bool) (z2 : Nat) (D : List Bool) (f2 : Bool) (z3 : Nat) (W : List Bool) (f3 : Bool) (k s : Int) (ok : BdOk z1 N z2 D z3 W) (q : Int)
include ok
theorem s33 (x : ByteArray) (H : Heap) : call1 T (n + 5) (.fn 33) [.agg (bd i z1 N f1 z2 D f2 z3 W f3 k s), .int .i64 q, .str x] H = some (rpV i N D W k s q false x, H) := by
  refine call_pure e33 (by rfl) ?_
  unfold rpV
  have h60 := fun H => s60 n i z1 N f1 z2 D f2 z3 W f3 k s ok q H
  simp only [c33, heap0, go_sem, Int.cast_ofNat_Int, Int.reduceToNat, Bool.true_xor, Bool.false_xor, Bool.xor_true, Bool.xor_false, Nat.reduceAdd, Nat.reduceBEq, Nat.reduceLeDiff, Nat.reduceLT, Nat.reduceMul, Nat.reduceSub, Int.reduceEq, Int.reduceLT, Int.reduceLE, Int.reduceNeg, h60]
  cases hb : bdB i N D W k s with
  | false => simp only [go_sem, Int.cast_ofNat_Int, Int.reduceToNat, Bool.true_xor, Bool.false_xor, Bool.xor_true, Bool.xor_false, Nat.reduceAdd, Nat.reduceBEq, Nat.reduceLeDiff, Nat.reduceLT, Nat.reduceMul, Nat.reduceSub, Int.reduceEq, Int.reduceLT, Int.reduceLE, Int.reduceNeg]
  | true =>
    cases h0 : decide (idx1 (fun y => decide (q = y)) N < 0) with
    | true => simp only [go_sem, Int.cast_ofNat_Int, Int.reduceToNat, Bool.true_xor, Bool.false_xor, Bool.xor_true, Bool.xor_false, Nat.reduceAdd, Nat.reduceBEq, Nat.reduceLeDiff, Nat.reduceLT, Nat.reduceMul, Nat.reduceSub, Int.reduceEq, Int.reduceLT, Int.reduceLE, Int.reduceNeg, h0]
    | false =>
      obtain ⟨j, hj, hlt⟩ := idx_at (by simpa using h0)
      have h61 := s61k (n + 2) i z1 N f1 z2 D f2 z3 W f3 k s ok [.box (bd i z1 N f1 z2 D f2 z3 W f3 k s), .box bdZ] [] 0
      obtain ⟨l1, l2, l3⟩ := bdB_len _ _ _ _ _ _ hb
      have hlt2 : j < D.length := by omega
      obtain ⟨y, hy⟩ := getS hlt2
      have g1 := fun Hp d => fz_i N 0 Hp d 0 N.length false rfl
      have g2 := fun Hp d => fz_b (D.set j (decide (x = i))) 0 Hp d 0 D.length false (by simp)
      have g3 := fun Hp d => fz_b W 0 Hp d 0 W.length false rfl
      simp only [go_sem, Int.cast_ofNat_Int, Int.reduceToNat, Bool.true_xor, Bool.false_xor, Bool.xor_true, Bool.xor_false, Nat.reduceAdd, Nat.reduceBEq, Nat.reduceLeDiff, Nat.reduceLT, Nat.reduceMul, Nat.reduceSub, Int.reduceEq, Int.reduceLT, Int.reduceLE, Int.reduceNeg, h0, h61, hlt2, List.cons_append, List.nil_append, List.length_cons, List.length_nil, bb_set, hj, Int.toNat_natCast, hy, drop1, g1, g2, g3]
/-- The board behind an acknowledgement. -/
def akV (g : Bool) (m : Int) : SV :=
  bif bdB i N D W k s then (bif decide (idx1 (fun y => decide (q = y)) N < 0) then .tup [.agg bdZ, .int .i64 7]
    else .tup [.agg (bd i 1 N false 1 D g 1 (bif decide (m = k) && decide (0 < m) then W.set (idx1 (fun y => decide (q = y)) N).toNat true else W) g k s), .int .i64 0]) else .tup [.agg bdZ, .int .i64 1]
theorem s34 (m : Int) (H : Heap) : call1 T (n + 5) (.fn 34) [.agg (bd i z1 N f1 z2 D f2 z3 W f3 k s), .int .i64 q, .int .i64 m] H = some (akV i N D W k s q true m, H) := by
  refine call_pure e34 (by rfl) ?_
  unfold akV
  cases hb : bdB i N D W k s with
  | false =>
    obtain ⟨x0, x1, h59⟩ := s59a n i z1 N f1 z2 D f2 z3 W f3 k s ok q hb [.box (bd i z1 N f1 z2 D f2 z3 W f3 k s), .box bdZ] [] 0
    simp only [c34, heap0, go_sem, Int.cast_ofNat_Int, Int.reduceToNat, Bool.true_xor, Bool.false_xor, Bool.xor_true, Bool.xor_false, Nat.reduceAdd, Nat.reduceBEq, Nat.reduceLeDiff, Nat.reduceLT, Nat.reduceMul, Nat.reduceSub, Int.reduceEq, Int.reduceLT, Int.reduceLE, Int.reduceNeg, h59, List.cons_append, List.nil_append]
  | true =>
    cases h0 : decide (idx1 (fun y => decide (q = y)) N < 0) with
    | true =>
      obtain ⟨x0, x1, h59⟩ := s59b n i z1 N f1 z2 D f2 z3 W f3 k s ok q hb (by simpa using h0) [.box (bd i z1 N f1 z2 D f2 z3 W f3 k s), .box bdZ] [] 0
      simp only [c34, heap0, go_sem, Int.cast_ofNat_Int, Int.reduceToNat, Bool.true_xor, Bool.false_xor, Bool.xor_true, Bool.xor_false, Nat.reduceAdd, Nat.reduceBEq, Nat.reduceLeDiff, Nat.reduceLT, Nat.reduceMul, Nat.reduceSub, Int.reduceEq, Int.reduceLT, Int.reduceLE, Int.reduceNeg, h59, List.cons_append, List.nil_append]
    | false =>
      obtain ⟨j, hj, hlt⟩ := idx_at (by simpa using h0)
      obtain ⟨x0, x1, x2, x3, es', h59⟩ := s59c n i z1 N f1 z2 D f2 z3 W f3 k s ok q hb j hj [.box (bd i z1 N f1 z2 D f2 z3 W f3 k s), .box bdZ] [] 0
      obtain ⟨l1, l2, l3⟩ := bdB_len _ _ _ _ _ _ hb
      have hlt2 : j < W.length := by omega
      obtain ⟨y, hy⟩ := getS hlt2
      have g1 := fun Hp d => fz_i N 0 Hp d 0 N.length false rfl
      have g2 := fun Hp d => fz_b D 0 Hp d 0 D.length true rfl
      have g3 := fun Hp d => fz_b W 0 Hp d 0 W.length true rfl
      have g4 := fun Hp d => fz_b (W.set j true) 0 Hp d 0 W.length true (by simp)
      simp only [c34, heap0, go_sem, Int.cast_ofNat_Int, Int.reduceToNat, Bool.true_xor, Bool.false_xor, Bool.xor_true, Bool.xor_false, Nat.reduceAdd, Nat.reduceBEq, Nat.reduceLeDiff, Nat.reduceLT, Nat.reduceMul, Nat.reduceSub, Int.reduceEq, Int.reduceLT, Int.reduceLE, Int.reduceNeg, h59, hlt2, List.cons_append, List.nil_append, hj, Int.toNat_natCast]
      cases c1 : decide (m = k) <;> simp only [go_sem, Int.cast_ofNat_Int, Int.reduceToNat, Bool.true_xor, Bool.false_xor, Bool.xor_true, Bool.xor_false, Nat.reduceAdd, Nat.reduceBEq, Nat.reduceLeDiff, Nat.reduceLT, Nat.reduceMul, Nat.reduceSub, Int.reduceEq, Int.reduceLT, Int.reduceLE, Int.reduceNeg, c1, hlt2, bb_set, hy, drop1, g1, g2, g3, g4]
      cases c2 : decide (0 < m) <;> simp only [go_sem, Int.cast_ofNat_Int, Int.reduceToNat, Bool.true_xor, Bool.false_xor, Bool.xor_true, Bool.xor_false, Nat.reduceAdd, Nat.reduceBEq, Nat.reduceLeDiff, Nat.reduceLT, Nat.reduceMul, Nat.reduceSub, Int.reduceEq, Int.reduceLT, Int.reduceLE, Int.reduceNeg, c1, c2, hlt2, bb_set, hy, drop1, g1, g2, g3, g4]
theorem s35 (m : Int) (H : Heap) : call1 T (n + 5) (.fn 35) [.agg (bd i z1 N f1 z2 D f2 z3 W f3 k s), .int .i64 q, .int .i64 m] H = some (akV i N D W k s q false m, H) := by
  refine call_pure e35 (by rfl) ?_
  unfold akV
  have h60 := fun H => s60 n i z1 N f1 z2 D f2 z3 W f3 k s ok q H
  simp only [c35, heap0, go_sem, Int.cast_ofNat_Int, Int.reduceToNat, Bool.true_xor, Bool.false_xor, Bool.xor_true, Bool.xor_false, Nat.reduceAdd, Nat.reduceBEq, Nat.reduceLeDiff, Nat.reduceLT, Nat.reduceMul, Nat.reduceSub, Int.reduceEq, Int.reduceLT, Int.reduceLE, Int.reduceNeg, h60]
  cases hb : bdB i N D W k s with
  | false => simp only [go_sem, Int.cast_ofNat_Int, Int.reduceToNat, Bool.true_xor, Bool.false_xor, Bool.xor_true, Bool.xor_false, Nat.reduceAdd, Nat.reduceBEq, Nat.reduceLeDiff, Nat.reduceLT, Nat.reduceMul, Nat.reduceSub, Int.reduceEq, Int.reduceLT, Int.reduceLE, Int.reduceNeg]
  | true =>
    cases h0 : decide (idx1 (fun y => decide (q = y)) N < 0) with
    | true => simp only [go_sem, Int.cast_ofNat_Int, Int.reduceToNat, Bool.true_xor, Bool.false_xor, Bool.xor_true, Bool.xor_false, Nat.reduceAdd, Nat.reduceBEq, Nat.reduceLeDiff, Nat.reduceLT, Nat.reduceMul, Nat.reduceSub, Int.reduceEq, Int.reduceLT, Int.reduceLE, Int.reduceNeg, h0]
    | false =>
      obtain ⟨j, hj, hlt⟩ := idx_at (by simpa using h0)
      have h61 := s61k (n + 2) i z1 N f1 z2 D f2 z3 W f3 k s ok [.box (bd i z1 N f1 z2 D f2 z3 W f3 k s), .box bdZ] [] 0
      obtain ⟨l1, l2, l3⟩ := bdB_len _ _ _ _ _ _ hb
      have hlt2 : j < W.length := by omega
      obtain ⟨y, hy⟩ := getS hlt2
      have g1 := fun Hp d => fz_i N 0 Hp d 0 N.length false rfl
      have g2 := fun Hp d => fz_b D 0 Hp d 0 D.length false rfl
      have g3 := fun b Hp d => fz_b (W.set j b) 0 Hp d 0 W.length false (by simp)
      have hW : ∀ b, b = y → W.set j b = W := fun b e => by
        subst e
        obtain ⟨h1, h2⟩ := List.getElem?_eq_some_iff.1 hy
        rw [← h2]; simp
      have key : (bif decide (m = k) && decide (0 < m) then W.set j true else W) = W.set j (y || decide (0 < k) && decide (m = k)) := by
        by_cases c1 : m = k
        · subst c1
          cases y with
          | true => rw [Bool.true_or, hW true rfl]; simp
          | false =>
            by_cases c2 : 0 < m
            · simp [c2]
            · simp [c2, hW false rfl]
        · have : decide (m = k) = false := decide_eq_false c1
          rw [this]
          simp [hW y rfl]
      simp only [go_sem, Int.cast_ofNat_Int, Int.reduceToNat, Bool.true_xor, Bool.false_xor, Bool.xor_true, Bool.xor_false, Nat.reduceAdd, Nat.reduceBEq, Nat.reduceLeDiff, Nat.reduceLT, Nat.reduceMul, Nat.reduceSub, Int.reduceEq, Int.reduceLT, Int.reduceLE, Int.reduceNeg, h0, h61, hlt2, List.cons_append, List.nil_append, List.length_cons, List.length_nil, hj, Int.toNat_natCast, key, hy]
      cases y <;> simp only [go_sem, Int.cast_ofNat_Int, Int.reduceToNat, Bool.true_xor, Bool.false_xor, Bool.xor_true, Bool.xor_false, Nat.reduceAdd, Nat.reduceBEq, Nat.reduceLeDiff, Nat.reduceLT, Nat.reduceMul, Nat.reduceSub, Int.reduceEq, Int.reduceLT, Int.reduceLE, Int.reduceNeg, h61, hlt2, bb_set, hy, drop1, g1, g2, g3]
      cases c1 : decide (0 < k) <;> simp only [go_sem, Int.cast_ofNat_Int, Int.reduceToNat, Bool.true_xor, Bool.false_xor, Bool.xor_true, Bool.xor_false, Nat.reduceAdd, Nat.reduceBEq, Nat.reduceLeDiff, Nat.reduceLT, Nat.reduceMul, Nat.reduceSub, Int.reduceEq, Int.reduceLT, Int.reduceLE, Int.reduceNeg, c1, hlt2, bb_set, hy, drop1, g1, g2, g3]
end Go.Sh
namespace Go.Sh
set_option linter.unusedSectionVars false
set_option linter.unnecessarySimpa false
set_option linter.unusedVariables false
set_option linter.unusedSimpArgs false
set_option maxRecDepth 100000
set_option maxHeartbeats 4000000
theorem s55s (n : Nat) (N : List Int) (hN : N.length ≤ 1000) (h0 : 0 < N.length) (x0 x1 x2 x3 x4 x6 x7 x8 : SBlk) : call1 T (n + 1) (.fn 55) [.slc 5 0 0 N.length] ⟨[x0, x1, x2, x3, x4, .arr 0 1 (iS N) false, x6, x7, x8], [], 9⟩ = some (.lst 1 (iS N) false, ⟨[x0, x1, x2, x3, x4, .arr 0 1 (iS N) false, x6, x7, x8], [], 9⟩) := by
  refine call_in e55 (by rfl) ?_
  have h1 : (N.length == 0) = false := by simpa using Nat.pos_iff_ne_zero.1 h0
  have h2 : decide (N.length * 8 ≤ mostLen) = true := decide_eq_true (Nat.le_trans (show N.length * 8 ≤ 10000 by omega) (by decide))
  have h3 : ∀ (x : SBlk), (List.take N.length (iS N)) = iS N := fun _ => by rw [← iS_len (W := N)]; exact List.take_length
  obtain ⟨a, l, hl⟩ : ∃ a l, iS N = a :: l := by
    cases N with
    | nil => simp at h0
    | cons a l => exact ⟨_, _, rfl⟩
  have g1 := fun Hp d => fz_i N 9 Hp d 0 N.length false rfl
  simp only [c55, go_sem, Int.cast_ofNat_Int, Int.reduceToNat, Bool.true_xor, Bool.false_xor, Bool.xor_true, Bool.xor_false, Nat.reduceAdd, Nat.reduceBEq, Nat.reduceLeDiff, Nat.reduceLT, Nat.reduceMul, Nat.reduceSub, Int.reduceEq, Int.reduceLT, Int.reduceLE, Int.reduceNeg, h1, h2, h3 .dead, g1]
variable (n : Nat) (i : ByteArray) (z1 : Nat) (N : List Int) (f1 : Bool) (z2 : Nat) (D : List Bool) (f2 : Bool) (z3 : Nat) (W : List Bool) (f3 : Bool) (k s : Int) (ok : BdOk z1 N z2 D z3 W)
abbrev cmZ : List SV := [.int .i64 0, .int .i64 0, .int .i64 0, .str ⟨#[]⟩, .lst 0 [] true]
/-- The board behind a command, and the command. -/
def sdV (g : Bool) (d t : Int) : SV :=
  bif decide (k = 1048576) then .tup [.agg bdZ, .agg cmZ, .int .i64 13]
  else .tup [.agg (bd i 1 N false 1 D g 1 (List.replicate W.length false) true (w64 (k + 1)) t), .agg (cm (w64 (k + 1)) d t i 1 N false), .int .i64 0]
include ok
theorem s62 (h0 : 0 < N.length) (d t : Int) (H : Heap) : call1 T (n + 5) (.fn 62) [.agg (bd i z1 N f1 z2 D f2 z3 W f3 k s), .int .i64 d, .int .i64 t] H = some (sdV i N D W k true d t, H) := by
  refine call_pure e62 (by rfl) ?_
  unfold sdV
  cases hk : decide (k = 1048576) with
  | true => simp only [c62, heap0, go_sem, Int.cast_ofNat_Int, Int.reduceToNat, Bool.true_xor, Bool.false_xor, Bool.xor_true, Bool.xor_false, Nat.reduceAdd, Nat.reduceBEq, Nat.reduceLeDiff, Nat.reduceLT, Nat.reduceMul, Nat.reduceSub, Int.reduceEq, Int.reduceLT, Int.reduceLE, Int.reduceNeg, hk]
  | false =>
    have h76 := s76k (n + 2) i z1 N f1 z2 D f2 z3 W f3 k s ok [.box (bd i z1 N f1 z2 D f2 z3 W f3 k s), .box bdZ, .box cmZ] [] 0
    have h55 := fun x0 x1 x2 x3 x4 x6 x7 x8 => s55s (n + 3) N ok.hN h0 x0 x1 x2 x3 x4 x6 x7 x8
    have hd : List.drop W.length (bbS W) = [] := by rw [← bbS_len (D := W)]; exact List.drop_length
    have g1 := fun Hp d => fz_i N 0 Hp d 0 N.length false rfl
    have g2 := fun Hp d => fz_b D 0 Hp d 0 D.length true rfl
    have g3 := fun Hp d => fz_b (List.replicate W.length false) 0 Hp d 0 W.length true (by simp)
    have hm : max 0 (max 6 (max 7 (max 8 0))) = 8 := rfl
    simp only [c62, heap0, go_sem, Int.cast_ofNat_Int, Int.reduceToNat, Bool.true_xor, Bool.false_xor, Bool.xor_true, Bool.xor_false, Nat.reduceAdd, Nat.reduceBEq, Nat.reduceLeDiff, Nat.reduceLT, Nat.reduceMul, Nat.reduceSub, Int.reduceEq, Int.reduceLT, Int.reduceLE, Int.reduceNeg, hm, hk, h76, List.cons_append, List.nil_append, List.length_cons, List.length_nil, hd, List.append_nil, bb_rep, h55, g1, g2, g3]
theorem s63 (d t : Int) (hlen : W.length = N.length) (H : Heap) : call1 T (n + 5) (.fn 63) [.agg (bd i z1 N f1 z2 D f2 z3 W f3 k s), .int .i64 d, .int .i64 t] H = some (sdV i N D W k false d t, H) := by
  refine call_pure e63 (by rfl) ?_
  unfold sdV
  cases hk : decide (k = 1048576) with
  | true => simp only [c63, heap0, go_sem, Int.cast_ofNat_Int, Int.reduceToNat, Bool.true_xor, Bool.false_xor, Bool.xor_true, Bool.xor_false, Nat.reduceAdd, Nat.reduceBEq, Nat.reduceLeDiff, Nat.reduceLT, Nat.reduceMul, Nat.reduceSub, Int.reduceEq, Int.reduceLT, Int.reduceLE, Int.reduceNeg, hk]
  | false =>
    have h61 := s61k (n + 2) i z1 N f1 z2 D f2 z3 W f3 k s ok [.box (bd i z1 N f1 z2 D f2 z3 W f3 k s), .box bdZ, .box cmZ] [] 0
    have g1 := fun Hp d => fz_i N 0 Hp d 0 N.length false rfl
    have g2 := fun Hp d => fz_b D 0 Hp d 0 D.length false rfl
    have g3 := fun Hp d => fz_b (List.replicate N.length false) 0 Hp d 0 N.length true (by simp)
    have r1 : decide (N.length * 8 ≤ mostLen) = true := decide_eq_true (Nat.le_trans (show N.length * 8 ≤ 10000 by have := ok.hN; omega) (by decide))
    have h3 : ∀ (x : SBlk), (List.take N.length (iS N)) = iS N := fun _ => by rw [← iS_len (W := N)]; exact List.take_length
    rw [hlen]
    have hm : max 0 (max 6 (max 7 (max 8 0))) = 8 := rfl
    have hm2 : max 0 (max 6 (max 7 (max 9 0))) = 9 := rfl
    simp only [c63, heap0, go_sem, Int.cast_ofNat_Int, Int.reduceToNat, Bool.true_xor, Bool.false_xor, Bool.xor_true, Bool.xor_false, Nat.reduceAdd, Nat.reduceBEq, Nat.reduceLeDiff, Nat.reduceLT, Nat.reduceMul, Nat.reduceSub, Int.reduceEq, Int.reduceLT, Int.reduceLE, Int.reduceNeg, hm, hm2, hk, h61, List.cons_append, List.nil_append, List.length_cons, List.length_nil, mkB _ _ ok.hN, List.append_nil, bb_rep, r1, h3 .dead, g1, g2, g3]
end Go.Sh
namespace Go.Sh
set_option linter.unusedSectionVars false
set_option linter.unnecessarySimpa false
set_option linter.unusedVariables false
set_option linter.unusedSimpArgs false
set_option maxRecDepth 100000
set_option maxHeartbeats 4000000
variable (n : Nat) (i : ByteArray) (z1 : Nat) (N : List Int) (f1 : Bool) (z2 : Nat) (D : List Bool) (f2 : Bool) (z3 : Nat) (W : List Bool) (f3 : Bool) (k s : Int) (ok : BdOk z1 N z2 D z3 W)
def orV (g : Bool) (t : Int) : SV :=
  bif !bdB i N D W k s then .tup [.agg bdZ, .agg cmZ, .int .i64 1] else bif hasB false D then .tup [.agg bdZ, .agg cmZ, .int .i64 12]
  else bif decide (t < 1) || decide (1073741824 < t) then .tup [.agg bdZ, .agg cmZ, .int .i64 2] else sdV i N D W k g 1 t
def wdV (g : Bool) : SV :=
  bif !bdB i N D W k s then .tup [.agg bdZ, .agg cmZ, .int .i64 1] else bif decide (s = 0) then .tup [.agg bdZ, .agg cmZ, .int .i64 12] else sdV i N D W k g 2 0
/-- What a command leaves, whatever it is. -/
theorem sdV_cases (g : Bool) (d t : Int) : ∃ u v e, sdV i N D W k g d t = .tup [.agg u, .agg v, .int .i64 e] ∧ u.length = 6 ∧ v.length = 5 := by
  unfold sdV
  cases decide (k = 1048576)
  · exact ⟨_, _, _, rfl, rfl, rfl⟩
  · exact ⟨_, _, _, rfl, rfl, rfl⟩
include ok
theorem s36 (t : Int) (H : Heap) : call1 T (n + 6) (.fn 36) [.agg (bd i z1 N f1 z2 D f2 z3 W f3 k s), .int .i64 t] H = some (orV i N D W k s true t, H) := by
  refine call_pure e36 (by rfl) ?_
  unfold orV
  have h26 := fun H => s26' (i := i) (f1 := f1) (f2 := f2) (f3 := f3) (k := k) (s := s) ok (n + 2) H
  have h28 := fun H => s28 (i := i) (f1 := f1) (f2 := f2) (f3 := f3) (k := k) (s := s) ok (n + 1) H
  simp only [c36, heap0, go_sem, Int.cast_ofNat_Int, Int.reduceToNat, Bool.true_xor, Bool.false_xor, Bool.xor_true, Bool.xor_false, Nat.reduceAdd, Nat.reduceBEq, Nat.reduceLeDiff, Nat.reduceLT, Nat.reduceMul, Nat.reduceSub, Int.reduceEq, Int.reduceLT, Int.reduceLE, Int.reduceNeg, h26]
  cases hb : bdB i N D W k s with
  | false => simp only [go_sem, Int.cast_ofNat_Int, Int.reduceToNat, Bool.true_xor, Bool.false_xor, Bool.xor_true, Bool.xor_false, Nat.reduceAdd, Nat.reduceBEq, Nat.reduceLeDiff, Nat.reduceLT, Nat.reduceMul, Nat.reduceSub, Int.reduceEq, Int.reduceLT, Int.reduceLE, Int.reduceNeg]
  | true =>
    obtain ⟨l1, l2, l3⟩ := bdB_len _ _ _ _ _ _ hb
    have h62 := fun H => s62 n i z1 N f1 z2 D f2 z3 W f3 k s ok l3 1 t H
    simp only [go_sem, Int.cast_ofNat_Int, Int.reduceToNat, Bool.true_xor, Bool.false_xor, Bool.xor_true, Bool.xor_false, Nat.reduceAdd, Nat.reduceBEq, Nat.reduceLeDiff, Nat.reduceLT, Nat.reduceMul, Nat.reduceSub, Int.reduceEq, Int.reduceLT, Int.reduceLE, Int.reduceNeg, h28, hb]
    cases hd : hasB false D with
    | true => simp only [go_sem, Int.cast_ofNat_Int, Int.reduceToNat, Bool.true_xor, Bool.false_xor, Bool.xor_true, Bool.xor_false, Nat.reduceAdd, Nat.reduceBEq, Nat.reduceLeDiff, Nat.reduceLT, Nat.reduceMul, Nat.reduceSub, Int.reduceEq, Int.reduceLT, Int.reduceLE, Int.reduceNeg]
    | false =>
      simp only [go_sem, Int.cast_ofNat_Int, Int.reduceToNat, Bool.true_xor, Bool.false_xor, Bool.xor_true, Bool.xor_false, Nat.reduceAdd, Nat.reduceBEq, Nat.reduceLeDiff, Nat.reduceLT, Nat.reduceMul, Nat.reduceSub, Int.reduceEq, Int.reduceLT, Int.reduceLE, Int.reduceNeg]
      cases h1 : decide (t < 1) <;> simp only [go_sem, Int.cast_ofNat_Int, Int.reduceToNat, Bool.true_xor, Bool.false_xor, Bool.xor_true, Bool.xor_false, Nat.reduceAdd, Nat.reduceBEq, Nat.reduceLeDiff, Nat.reduceLT, Nat.reduceMul, Nat.reduceSub, Int.reduceEq, Int.reduceLT, Int.reduceLE, Int.reduceNeg, h1]
      cases h2 : decide (1073741824 < t) <;> simp only [go_sem, Int.cast_ofNat_Int, Int.reduceToNat, Bool.true_xor, Bool.false_xor, Bool.xor_true, Bool.xor_false, Nat.reduceAdd, Nat.reduceBEq, Nat.reduceLeDiff, Nat.reduceLT, Nat.reduceMul, Nat.reduceSub, Int.reduceEq, Int.reduceLT, Int.reduceLE, Int.reduceNeg, h1, h2, h62]
      unfold sdV
      cases hk : decide (k = 1048576) <;> simp only [go_sem, Int.cast_ofNat_Int, Int.reduceToNat, Bool.true_xor, Bool.false_xor, Bool.xor_true, Bool.xor_false, Nat.reduceAdd, Nat.reduceBEq, Nat.reduceLeDiff, Nat.reduceLT, Nat.reduceMul, Nat.reduceSub, Int.reduceEq, Int.reduceLT, Int.reduceLE, Int.reduceNeg]
theorem s37 (t : Int) (H : Heap) : call1 T (n + 6) (.fn 37) [.agg (bd i z1 N f1 z2 D f2 z3 W f3 k s), .int .i64 t] H = some (orV i N D W k s false t, H) := by
  refine call_pure e37 (by rfl) ?_
  unfold orV
  have h27 := fun H => s27' (i := i) (f1 := f1) (f2 := f2) (f3 := f3) (k := k) (s := s) ok (n + 2) H
  have h29 := fun H => s29 (i := i) (f1 := f1) (f2 := f2) (f3 := f3) (k := k) (s := s) ok (n + 1) H
  simp only [c37, heap0, go_sem, Int.cast_ofNat_Int, Int.reduceToNat, Bool.true_xor, Bool.false_xor, Bool.xor_true, Bool.xor_false, Nat.reduceAdd, Nat.reduceBEq, Nat.reduceLeDiff, Nat.reduceLT, Nat.reduceMul, Nat.reduceSub, Int.reduceEq, Int.reduceLT, Int.reduceLE, Int.reduceNeg, h27]
  cases hb : bdB i N D W k s with
  | false => simp only [go_sem, Int.cast_ofNat_Int, Int.reduceToNat, Bool.true_xor, Bool.false_xor, Bool.xor_true, Bool.xor_false, Nat.reduceAdd, Nat.reduceBEq, Nat.reduceLeDiff, Nat.reduceLT, Nat.reduceMul, Nat.reduceSub, Int.reduceEq, Int.reduceLT, Int.reduceLE, Int.reduceNeg]
  | true =>
    obtain ⟨l1, l2, l3⟩ := bdB_len _ _ _ _ _ _ hb
    have h63 := fun H => s63 n i z1 N f1 z2 D f2 z3 W f3 k s ok 1 t l2 H
    simp only [go_sem, Int.cast_ofNat_Int, Int.reduceToNat, Bool.true_xor, Bool.false_xor, Bool.xor_true, Bool.xor_false, Nat.reduceAdd, Nat.reduceBEq, Nat.reduceLeDiff, Nat.reduceLT, Nat.reduceMul, Nat.reduceSub, Int.reduceEq, Int.reduceLT, Int.reduceLE, Int.reduceNeg, h29, hb]
    cases hd : hasB false D with
    | true => simp only [go_sem, Int.cast_ofNat_Int, Int.reduceToNat, Bool.true_xor, Bool.false_xor, Bool.xor_true, Bool.xor_false, Nat.reduceAdd, Nat.reduceBEq, Nat.reduceLeDiff, Nat.reduceLT, Nat.reduceMul, Nat.reduceSub, Int.reduceEq, Int.reduceLT, Int.reduceLE, Int.reduceNeg]
    | false =>
      simp only [go_sem, Int.cast_ofNat_Int, Int.reduceToNat, Bool.true_xor, Bool.false_xor, Bool.xor_true, Bool.xor_false, Nat.reduceAdd, Nat.reduceBEq, Nat.reduceLeDiff, Nat.reduceLT, Nat.reduceMul, Nat.reduceSub, Int.reduceEq, Int.reduceLT, Int.reduceLE, Int.reduceNeg]
      cases h1 : decide (t < 1) <;> simp only [go_sem, Int.cast_ofNat_Int, Int.reduceToNat, Bool.true_xor, Bool.false_xor, Bool.xor_true, Bool.xor_false, Nat.reduceAdd, Nat.reduceBEq, Nat.reduceLeDiff, Nat.reduceLT, Nat.reduceMul, Nat.reduceSub, Int.reduceEq, Int.reduceLT, Int.reduceLE, Int.reduceNeg, h1]
      cases h2 : decide (1073741824 < t) <;> simp only [go_sem, Int.cast_ofNat_Int, Int.reduceToNat, Bool.true_xor, Bool.false_xor, Bool.xor_true, Bool.xor_false, Nat.reduceAdd, Nat.reduceBEq, Nat.reduceLeDiff, Nat.reduceLT, Nat.reduceMul, Nat.reduceSub, Int.reduceEq, Int.reduceLT, Int.reduceLE, Int.reduceNeg, h1, h2, h63]
      unfold sdV
      cases hk : decide (k = 1048576) <;> simp only [go_sem, Int.cast_ofNat_Int, Int.reduceToNat, Bool.true_xor, Bool.false_xor, Bool.xor_true, Bool.xor_false, Nat.reduceAdd, Nat.reduceBEq, Nat.reduceLeDiff, Nat.reduceLT, Nat.reduceMul, Nat.reduceSub, Int.reduceEq, Int.reduceLT, Int.reduceLE, Int.reduceNeg]
theorem s38 (H : Heap) : call1 T (n + 6) (.fn 38) [.agg (bd i z1 N f1 z2 D f2 z3 W f3 k s)] H = some (wdV i N D W k s true, H) := by
  refine call_pure e38 (by rfl) ?_
  unfold wdV
  have h26 := fun H => s26' (i := i) (f1 := f1) (f2 := f2) (f3 := f3) (k := k) (s := s) ok (n + 2) H
  simp only [c38, heap0, go_sem, Int.cast_ofNat_Int, Int.reduceToNat, Bool.true_xor, Bool.false_xor, Bool.xor_true, Bool.xor_false, Nat.reduceAdd, Nat.reduceBEq, Nat.reduceLeDiff, Nat.reduceLT, Nat.reduceMul, Nat.reduceSub, Int.reduceEq, Int.reduceLT, Int.reduceLE, Int.reduceNeg, h26]
  cases hb : bdB i N D W k s with
  | false => simp only [go_sem, Int.cast_ofNat_Int, Int.reduceToNat, Bool.true_xor, Bool.false_xor, Bool.xor_true, Bool.xor_false, Nat.reduceAdd, Nat.reduceBEq, Nat.reduceLeDiff, Nat.reduceLT, Nat.reduceMul, Nat.reduceSub, Int.reduceEq, Int.reduceLT, Int.reduceLE, Int.reduceNeg]
  | true =>
    obtain ⟨l1, l2, l3⟩ := bdB_len _ _ _ _ _ _ hb
    have h62 := fun H => s62 n i z1 N f1 z2 D f2 z3 W f3 k s ok l3 2 0 H
    simp only [go_sem, Int.cast_ofNat_Int, Int.reduceToNat, Bool.true_xor, Bool.false_xor, Bool.xor_true, Bool.xor_false, Nat.reduceAdd, Nat.reduceBEq, Nat.reduceLeDiff, Nat.reduceLT, Nat.reduceMul, Nat.reduceSub, Int.reduceEq, Int.reduceLT, Int.reduceLE, Int.reduceNeg]
    cases h1 : decide (s = 0) <;> simp only [go_sem, Int.cast_ofNat_Int, Int.reduceToNat, Bool.true_xor, Bool.false_xor, Bool.xor_true, Bool.xor_false, Nat.reduceAdd, Nat.reduceBEq, Nat.reduceLeDiff, Nat.reduceLT, Nat.reduceMul, Nat.reduceSub, Int.reduceEq, Int.reduceLT, Int.reduceLE, Int.reduceNeg, h1, h62]
    unfold sdV
    cases hk : decide (k = 1048576) <;> simp only [go_sem, Int.cast_ofNat_Int, Int.reduceToNat, Bool.true_xor, Bool.false_xor, Bool.xor_true, Bool.xor_false, Nat.reduceAdd, Nat.reduceBEq, Nat.reduceLeDiff, Nat.reduceLT, Nat.reduceMul, Nat.reduceSub, Int.reduceEq, Int.reduceLT, Int.reduceLE, Int.reduceNeg]
theorem s39 (H : Heap) : call1 T (n + 6) (.fn 39) [.agg (bd i z1 N f1 z2 D f2 z3 W f3 k s)] H = some (wdV i N D W k s false, H) := by
  refine call_pure e39 (by rfl) ?_
  unfold wdV
  have h27 := fun H => s27' (i := i) (f1 := f1) (f2 := f2) (f3 := f3) (k := k) (s := s) ok (n + 2) H
  simp only [c39, heap0, go_sem, Int.cast_ofNat_Int, Int.reduceToNat, Bool.true_xor, Bool.false_xor, Bool.xor_true, Bool.xor_false, Nat.reduceAdd, Nat.reduceBEq, Nat.reduceLeDiff, Nat.reduceLT, Nat.reduceMul, Nat.reduceSub, Int.reduceEq, Int.reduceLT, Int.reduceLE, Int.reduceNeg, h27]
  cases hb : bdB i N D W k s with
  | false => simp only [go_sem, Int.cast_ofNat_Int, Int.reduceToNat, Bool.true_xor, Bool.false_xor, Bool.xor_true, Bool.xor_false, Nat.reduceAdd, Nat.reduceBEq, Nat.reduceLeDiff, Nat.reduceLT, Nat.reduceMul, Nat.reduceSub, Int.reduceEq, Int.reduceLT, Int.reduceLE, Int.reduceNeg]
  | true =>
    obtain ⟨l1, l2, l3⟩ := bdB_len _ _ _ _ _ _ hb
    have h63 := fun H => s63 n i z1 N f1 z2 D f2 z3 W f3 k s ok 2 0 l2 H
    simp only [go_sem, Int.cast_ofNat_Int, Int.reduceToNat, Bool.true_xor, Bool.false_xor, Bool.xor_true, Bool.xor_false, Nat.reduceAdd, Nat.reduceBEq, Nat.reduceLeDiff, Nat.reduceLT, Nat.reduceMul, Nat.reduceSub, Int.reduceEq, Int.reduceLT, Int.reduceLE, Int.reduceNeg]
    cases h1 : decide (s = 0) <;> simp only [go_sem, Int.cast_ofNat_Int, Int.reduceToNat, Bool.true_xor, Bool.false_xor, Bool.xor_true, Bool.xor_false, Nat.reduceAdd, Nat.reduceBEq, Nat.reduceLeDiff, Nat.reduceLT, Nat.reduceMul, Nat.reduceSub, Int.reduceEq, Int.reduceLT, Int.reduceLE, Int.reduceNeg, h1, h63]
    unfold sdV
    cases hk : decide (k = 1048576) <;> simp only [go_sem, Int.cast_ofNat_Int, Int.reduceToNat, Bool.true_xor, Bool.false_xor, Bool.xor_true, Bool.xor_false, Nat.reduceAdd, Nat.reduceBEq, Nat.reduceLeDiff, Nat.reduceLT, Nat.reduceMul, Nat.reduceSub, Int.reduceEq, Int.reduceLT, Int.reduceLE, Int.reduceNeg]
omit ok
/-- A new board. -/
def nwV (x : ByteArray) (L : List Int) : SV := bif idB x && lsB L then .tup [.agg (bd x 1 L false 1 (List.replicate L.length false) true 1 (List.replicate L.length false) true 0 0), .int .i64 0] else .tup [.agg bdZ, .int .i64 1]
theorem s23 (x : ByteArray) (z : Nat) (L : List Int) (f : Bool) (hz : z = 1 ∨ L = []) (hL : L.length ≤ 1000) (H : Heap) : call1 T (n + 3) (.fn 23) [.str x, .lst z (iS L) f] H = some (nwV x L, H) := by
  refine call_pure e23 (by rfl) ?_
  unfold nwV
  have h54 := fun H => s54 (n + 1) H z L f hz (Nat.le_trans hL mx)
  have h55 := fun H => s55 (n + 1) H z L f hz hL
  have g3 := fun Hp d => fz_b (List.replicate L.length false) 0 Hp d 0 L.length true (by simp)
  simp only [c23, heap0, go_sem, Int.cast_ofNat_Int, Int.reduceToNat, Bool.true_xor, Bool.false_xor, Bool.xor_true, Bool.xor_false, Nat.reduceAdd, Nat.reduceBEq, Nat.reduceLeDiff, Nat.reduceLT, Nat.reduceMul, Nat.reduceSub, Int.reduceEq, Int.reduceLT, Int.reduceLE, Int.reduceNeg, s42]
  cases h1 : idB x <;> simp only [go_sem, Int.cast_ofNat_Int, Int.reduceToNat, Bool.true_xor, Bool.false_xor, Bool.xor_true, Bool.xor_false, Nat.reduceAdd, Nat.reduceBEq, Nat.reduceLeDiff, Nat.reduceLT, Nat.reduceMul, Nat.reduceSub, Int.reduceEq, Int.reduceLT, Int.reduceLE, Int.reduceNeg, h54]
  cases h2 : lsB L <;> simp only [go_sem, Int.cast_ofNat_Int, Int.reduceToNat, Bool.true_xor, Bool.false_xor, Bool.xor_true, Bool.xor_false, Nat.reduceAdd, Nat.reduceBEq, Nat.reduceLeDiff, Nat.reduceLT, Nat.reduceMul, Nat.reduceSub, Int.reduceEq, Int.reduceLT, Int.reduceLE, Int.reduceNeg, h54]
  simp only [go_sem, Int.cast_ofNat_Int, Int.reduceToNat, Bool.true_xor, Bool.false_xor, Bool.xor_true, Bool.xor_false, Nat.reduceAdd, Nat.reduceBEq, Nat.reduceLeDiff, Nat.reduceLT, Nat.reduceMul, Nat.reduceSub, Int.reduceEq, Int.reduceLT, Int.reduceLE, Int.reduceNeg, h55, mkB _ _ hL, bb_rep, g3]
theorem s24 (x : ByteArray) (z : Nat) (L : List Int) (f : Bool) (hz : z = 1 ∨ L = []) (hL : L.length ≤ 1000) (H : Heap) : call1 T (n + 3) (.fn 24) [.str x, .lst z (iS L) f] H = some (nwV x L, H) := by
  refine call_pure e24 (by rfl) ?_
  unfold nwV
  have h57 := fun H => s57 (n + 1) H z L f hz (Nat.le_trans hL mx)
  have g1 := fun Hp d => fz_i L 0 Hp d 0 L.length false rfl
  have g3 := fun Hp d => fz_b (List.replicate L.length false) 0 Hp d 0 L.length true (by simp)
  have q1 : ∀ H, rdL 1 H (.lst z (iS L) f) = some (iS L) := fun H => by rcases hz with rfl | rfl <;> simp [rdL, iS]
  have r1 : decide (L.length * 8 ≤ mostLen) = true := decide_eq_true (Nat.le_trans (show L.length * 8 ≤ 10000 by omega) (by decide))
  simp only [c24, heap0, go_sem, Int.cast_ofNat_Int, Int.reduceToNat, Bool.true_xor, Bool.false_xor, Bool.xor_true, Bool.xor_false, Nat.reduceAdd, Nat.reduceBEq, Nat.reduceLeDiff, Nat.reduceLT, Nat.reduceMul, Nat.reduceSub, Int.reduceEq, Int.reduceLT, Int.reduceLE, Int.reduceNeg, s56]
  cases h1 : idB x <;> simp only [go_sem, Int.cast_ofNat_Int, Int.reduceToNat, Bool.true_xor, Bool.false_xor, Bool.xor_true, Bool.xor_false, Nat.reduceAdd, Nat.reduceBEq, Nat.reduceLeDiff, Nat.reduceLT, Nat.reduceMul, Nat.reduceSub, Int.reduceEq, Int.reduceLT, Int.reduceLE, Int.reduceNeg, h57]
  cases h2 : lsB L <;> simp only [go_sem, Int.cast_ofNat_Int, Int.reduceToNat, Bool.true_xor, Bool.false_xor, Bool.xor_true, Bool.xor_false, Nat.reduceAdd, Nat.reduceBEq, Nat.reduceLeDiff, Nat.reduceLT, Nat.reduceMul, Nat.reduceSub, Int.reduceEq, Int.reduceLT, Int.reduceLE, Int.reduceNeg, h57]
  simp only [go_sem, Int.cast_ofNat_Int, Int.reduceToNat, Bool.true_xor, Bool.false_xor, Bool.xor_true, Bool.xor_false, Nat.reduceAdd, Nat.reduceBEq, Nat.reduceLeDiff, Nat.reduceLT, Nat.reduceMul, Nat.reduceSub, Int.reduceEq, Int.reduceLT, Int.reduceLE, Int.reduceNeg, q1, r1, mkB _ _ hL, bb_rep, g1, g3]
end Go.Sh
namespace Go.Sh
set_option linter.unusedSectionVars false
set_option linter.unnecessarySimpa false
set_option linter.unusedVariables false
set_option linter.unusedSimpArgs false
set_option maxRecDepth 100000
set_option maxHeartbeats 4000000
/-- Two results with the same board, and the same error. -/
def Same6 (a b : SV) : Prop := ∃ (i : ByteArray) (z1 : Nat) (N : List Int) (f1 : Bool) (z2 : Nat) (D : List Bool) (f2 : Bool) (z3 : Nat) (W : List Bool) (f3 : Bool) (k s : Int) (z1' : Nat) (f1' : Bool) (z2' : Nat) (f2' : Bool) (z3' : Nat) (f3' : Bool) (e : Int),
  a = .tup [.agg (bd i z1 N f1 z2 D f2 z3 W f3 k s), .int .i64 e] ∧ b = .tup [.agg (bd i z1' N f1' z2' D f2' z3' W f3' k s), .int .i64 e] ∧ BdOk z1 N z2 D z3 W ∧ BdOk z1' N z2' D z3' W
def Same7 (a b : SV) : Prop := ∃ (i : ByteArray) (z1 : Nat) (N : List Int) (f1 : Bool) (z2 : Nat) (D : List Bool) (f2 : Bool) (z3 : Nat) (W : List Bool) (f3 : Bool) (k s : Int) (z1' : Nat) (f1' : Bool) (z2' : Nat) (f2' : Bool) (z3' : Nat) (f3' : Bool)
  (k' d' s' : Int) (x' : ByteArray) (z : Nat) (L : List Int) (f : Bool) (z' : Nat) (f' : Bool) (e : Int),
  a = .tup [.agg (bd i z1 N f1 z2 D f2 z3 W f3 k s), .agg (cm k' d' s' x' z L f), .int .i64 e] ∧ b = .tup [.agg (bd i z1' N f1' z2' D f2' z3' W f3' k s), .agg (cm k' d' s' x' z' L f'), .int .i64 e] ∧ BdOk z1 N z2 D z3 W ∧ BdOk z1' N z2' D z3' W ∧
    (z = 1 ∨ L = []) ∧ (z' = 1 ∨ L = []) ∧ L.length ≤ 1000
theorem ok_nil : BdOk 0 [] 0 [] 0 [] := ⟨.inr rfl, .inr rfl, .inr rfl, by simp, by simp, by simp⟩
theorem same6_z (e : Int) : Same6 (.tup [.agg bdZ, .int .i64 e]) (.tup [.agg bdZ, .int .i64 e]) := ⟨⟨#[]⟩, 0, [], true, 0, [], true, 0, [], true, 0, 0, 0, true, 0, true, 0, true, e, rfl, rfl, ok_nil, ok_nil⟩
theorem same7_z (e : Int) : Same7 (.tup [.agg bdZ, .agg cmZ, .int .i64 e]) (.tup [.agg bdZ, .agg cmZ, .int .i64 e]) := ⟨⟨#[]⟩, 0, [], true, 0, [], true, 0, [], true, 0, 0, 0, true, 0, true, 0, true, 0, 0, 0, ⟨#[]⟩, 0, [], true, 0, true, e, rfl, rfl, ok_nil, ok_nil, .inr rfl, .inr rfl, by simp⟩
theorem ok_one {N : List Int} {D W : List Bool} (h1 : N.length ≤ 1000) (h2 : D.length ≤ 1000) (h3 : W.length ≤ 1000) : BdOk 1 N 1 D 1 W := ⟨.inl rfl, .inl rfl, .inl rfl, h1, h2, h3⟩
theorem same6_one (i : ByteArray) (N : List Int) (f1 : Bool) (D : List Bool) (f2 : Bool) (W : List Bool) (f3 : Bool) (k s : Int) (f1' f2' f3' : Bool) (e : Int) (h1 : N.length ≤ 1000) (h2 : D.length ≤ 1000) (h3 : W.length ≤ 1000) :
    Same6 (.tup [.agg (bd i 1 N f1 1 D f2 1 W f3 k s), .int .i64 e]) (.tup [.agg (bd i 1 N f1' 1 D f2' 1 W f3' k s), .int .i64 e]) := ⟨i, 1, N, f1, 1, D, f2, 1, W, f3, k, s, 1, f1', 1, f2', 1, f3', e, rfl, rfl, ok_one h1 h2 h3, ok_one h1 h2 h3⟩
variable (i : ByteArray) (z1 : Nat) (N : List Int) (f1 : Bool) (z2 : Nat) (D : List Bool) (f2 : Bool) (z3 : Nat) (W : List Bool) (f3 : Bool) (k s : Int) (ok : BdOk z1 N z2 D z3 W)
theorem nwV_same (x : ByteArray) (L : List Int) (hL : L.length ≤ 1000) : Same6 (nwV x L) (nwV x L) := by
  unfold nwV
  cases idB x && lsB L
  · exact same6_z 1
  · exact same6_one _ _ _ _ _ _ _ _ _ _ _ _ _ hL (by simpa using hL) (by simpa using hL)
include ok
theorem rpV_same (q : Int) (x : ByteArray) : Same6 (rpV i N D W k s q true x) (rpV i N D W k s q false x) := by
  unfold rpV
  cases bdB i N D W k s
  · exact same6_z 1
  · cases decide (idx1 (fun y => decide (q = y)) N < 0)
    · exact same6_one _ _ _ _ _ _ _ _ _ _ _ _ _ ok.hN (by simpa using ok.hD) ok.hW
    · exact same6_z 7
theorem akV_same (q m : Int) : Same6 (akV i N D W k s q true m) (akV i N D W k s q false m) := by
  unfold akV
  cases bdB i N D W k s
  · exact same6_z 1
  · cases decide (idx1 (fun y => decide (q = y)) N < 0)
    · refine same6_one _ _ _ _ _ _ _ _ _ _ _ _ _ ok.hN ok.hD ?_
      cases (decide (m = k) && decide (0 < m))
      · exact ok.hW
      · simpa using ok.hW
    · exact same6_z 7
theorem sdV_same (d t : Int) : Same7 (sdV i N D W k true d t) (sdV i N D W k false d t) := by
  unfold sdV
  cases decide (k = 1048576)
  · exact ⟨_, _, _, _, _, _, _, _, _, _, _, _, _, _, _, _, _, _, _, _, _, _, _, _, _, _, _, _, rfl, rfl, ok_one ok.hN ok.hD (by simpa using ok.hW), ok_one ok.hN ok.hD (by simpa using ok.hW), .inl rfl, .inl rfl, ok.hN⟩
  · exact same7_z 13
theorem orV_same (t : Int) : Same7 (orV i N D W k s true t) (orV i N D W k s false t) := by
  unfold orV
  cases bdB i N D W k s
  · exact same7_z 1
  · cases hasB false D
    · cases (decide (t < 1) || decide (1073741824 < t))
      · exact sdV_same i z1 N z2 D z3 W k ok 1 t
      · exact same7_z 2
    · exact same7_z 12
theorem wdV_same : Same7 (wdV i N D W k s true) (wdV i N D W k s false) := by
  unfold wdV
  cases bdB i N D W k s
  · exact same7_z 1
  · cases decide (s = 0)
    · exact sdV_same i z1 N z2 D z3 W k ok 2 0
    · exact same7_z 12
omit ok
def fwB (i : ByteArray) (N : List Int) (D W : List Bool) : Bool := decide ((i.size : Int) ≤ 100) && decide ((N.length : Int) ≤ 40) && decide ((D.length : Int) ≤ 40) && decide ((W.length : Int) ≤ 40)
theorem s22 (n : Nat) (H : Heap) : call1 T (n + 1) (.fn 22) [.agg (bd i z1 N f1 z2 D f2 z3 W f3 k s)] H = some (.bool (fwB i N D W), H) := by
  refine call_pure e22 (by rfl) ?_
  unfold fwB
  simp only [c22, heap0, go_sem, Int.cast_ofNat_Int, Int.reduceToNat, Bool.true_xor, Bool.false_xor, Bool.xor_true, Bool.xor_false, Nat.reduceAdd, Nat.reduceBEq, Nat.reduceLeDiff, Nat.reduceLT, Nat.reduceMul, Nat.reduceSub, Int.reduceEq, Int.reduceLT, Int.reduceLE, Int.reduceNeg]
  repeat' (with_reducible refine fork_split (fun _ => ?_) (fun _ => ?_) <;> simp only [*, go_sem, Int.cast_ofNat_Int, Int.reduceToNat, Bool.true_xor, Bool.false_xor, Bool.xor_true, Bool.xor_false, Nat.reduceAdd, Nat.reduceBEq, Nat.reduceLeDiff, Nat.reduceLT, Nat.reduceMul, Nat.reduceSub, Int.reduceEq, Int.reduceLT, Int.reduceLE, Int.reduceNeg])
theorem s6 (x : ByteArray) (q t : Int) (h1 : z1 = 1 ∨ N = []) (h2 : z2 = 1 ∨ D = []) (h3 : z3 = 1 ∨ W = []) : call1 T 41 (.fn 6) [.agg (bd i z1 N f1 z2 D f2 z3 W f3 k s), .str x, .int .i64 q, .int .i64 t] heap0 = some (.bool true, heap0) := by
  refine call_pure e6 (by rfl) ?_
  have h22 := fun H => s22 i z1 N f1 z2 D f2 z3 W f3 k s 39 H
  cases hf : fwB i N D W with
  | false => simp only [c6, heap0, go_sem, Int.cast_ofNat_Int, Int.reduceToNat, Bool.true_xor, Bool.false_xor, Bool.xor_true, Bool.xor_false, Nat.reduceAdd, Nat.reduceBEq, Nat.reduceLeDiff, Nat.reduceLT, Nat.reduceMul, Nat.reduceSub, Int.reduceEq, Int.reduceLT, Int.reduceLE, Int.reduceNeg, s10, h22, hf]
  | true =>
    have ok : BdOk z1 N z2 D z3 W := by
      unfold fwB at hf
      simp only [Bool.and_eq_true, decide_eq_true_eq] at hf
      exact ⟨h1, h2, h3, by omega, by omega, by omega⟩
    cases hx : decide (100 < (x.size : Int)) with
    | true => simp only [c6, heap0, go_sem, Int.cast_ofNat_Int, Int.reduceToNat, Bool.true_xor, Bool.false_xor, Bool.xor_true, Bool.xor_false, Nat.reduceAdd, Nat.reduceBEq, Nat.reduceLeDiff, Nat.reduceLT, Nat.reduceMul, Nat.reduceSub, Int.reduceEq, Int.reduceLT, Int.reduceLE, Int.reduceNeg, s10, h22, hf, hx]
    | false =>
      have h23 := fun H => s23 37 x z1 N f1 h1 ok.hN H
      have h24 := fun H => s24 37 x z1 N f1 h1 ok.hN H
      have h26 := fun H => s26' (i := i) (f1 := f1) (f2 := f2) (f3 := f3) (k := k) (s := s) ok 37 H
      have h27 := fun H => s27' (i := i) (f1 := f1) (f2 := f2) (f3 := f3) (k := k) (s := s) ok 37 H
      have h28 := fun H => s28 (i := i) (f1 := f1) (f2 := f2) (f3 := f3) (k := k) (s := s) ok 36 H
      have h29 := fun H => s29 (i := i) (f1 := f1) (f2 := f2) (f3 := f3) (k := k) (s := s) ok 36 H
      have h30 := fun H => s30 (i := i) (f1 := f1) (f2 := f2) (f3 := f3) (k := k) (s := s) ok 36 H
      have h31 := fun H => s31 (i := i) (f1 := f1) (f2 := f2) (f3 := f3) (k := k) (s := s) ok 36 H
      have h32 := fun H => s32 35 i z1 N f1 z2 D f2 z3 W f3 k s ok q x H
      have h33 := fun H => s33 35 i z1 N f1 z2 D f2 z3 W f3 k s ok q x H
      have h34 := fun H => s34 35 i z1 N f1 z2 D f2 z3 W f3 k s ok q t H
      have h35 := fun H => s35 35 i z1 N f1 z2 D f2 z3 W f3 k s ok q t H
      have h36 := fun H => s36 34 i z1 N f1 z2 D f2 z3 W f3 k s ok t H
      have h37 := fun H => s37 34 i z1 N f1 z2 D f2 z3 W f3 k s ok t H
      have h38 := fun H => s38 34 i z1 N f1 z2 D f2 z3 W f3 k s ok H
      have h39 := fun H => s39 34 i z1 N f1 z2 D f2 z3 W f3 k s ok H
      obtain ⟨i0, a1, N0, b1, a2, D0, b2, a3, W0, b3, k0, s0, a1', b1', a2', b2', a3', b3', e0, hA, hB, okA, okB⟩ := nwV_same x N ok.hN
      have hS0 := fun H => s25 (i := i0) (f1 := b1) (f1' := b1') (f2 := b2) (f2' := b2') (f3 := b3) (f3' := b3') (k := k0) (s := s0) okA okB 38 H
      rw [hA] at h23
      rw [hB] at h24
      clear hA hB
      obtain ⟨i1, a1, N1, b1, a2, D1, b2, a3, W1, b3, k1, s1, a1', b1', a2', b2', a3', b3', e1, hA, hB, okA, okB⟩ := rpV_same i z1 N z2 D z3 W k s ok q x
      have hS1 := fun H => s25 (i := i1) (f1 := b1) (f1' := b1') (f2 := b2) (f2' := b2') (f3 := b3) (f3' := b3') (k := k1) (s := s1) okA okB 38 H
      rw [hA] at h32
      rw [hB] at h33
      clear hA hB okA okB
      obtain ⟨i2, a1, N2, b1, a2, D2, b2, a3, W2, b3, k2, s2, a1', b1', a2', b2', a3', b3', e2, hA, hB, okA, okB⟩ := akV_same i z1 N z2 D z3 W k s ok q t
      have hS2 := fun H => s25 (i := i2) (f1 := b1) (f1' := b1') (f2 := b2) (f2' := b2') (f3 := b3) (f3' := b3') (k := k2) (s := s2) okA okB 38 H
      rw [hA] at h34
      rw [hB] at h35
      clear hA hB okA okB
      obtain ⟨i3, a1, N3, b1, a2, D3, b2, a3, W3, b3, k3, s3, a1', b1', a2', b2', a3', b3', k3', d3', s3', x3', c1, L3, c2, c1', c2', e3, hA, hB, okA, okB, hz, hz', hL⟩ := orV_same i z1 N z2 D z3 W k s ok t
      have hS3 := fun H => s25 (i := i3) (f1 := b1) (f1' := b1') (f2 := b2) (f2' := b2') (f3 := b3) (f3' := b3') (k := k3) (s := s3) okA okB 38 H
      have hC3 := fun H => s21 38 H k3' d3' s3' x3' c1 c1' L3 c2 c2' hz hz' hL
      rw [hA] at h36
      rw [hB] at h37
      clear hA hB okA okB
      obtain ⟨i4, a1, N4, b1, a2, D4, b2, a3, W4, b3, k4, s4, a1', b1', a2', b2', a3', b3', k4', d4', s4', x4', c1, L4, c2, c1', c2', e4, hA, hB, okA, okB, hz, hz', hL⟩ := wdV_same i z1 N z2 D z3 W k s ok
      have hS4 := fun H => s25 (i := i4) (f1 := b1) (f1' := b1') (f2 := b2) (f2' := b2') (f3 := b3) (f3' := b3') (k := k4) (s := s4) okA okB 38 H
      have hC4 := fun H => s21 38 H k4' d4' s4' x4' c1 c1' L4 c2 c2' hz hz' hL
      rw [hA] at h38
      rw [hB] at h39
      clear hA hB okA okB
      simp only [c6, heap0, go_sem, Int.cast_ofNat_Int, Int.reduceToNat, Bool.true_xor, Bool.false_xor, Bool.xor_true, Bool.xor_false, Nat.reduceAdd, Nat.reduceBEq, Nat.reduceLeDiff, Nat.reduceLT, Nat.reduceMul, Nat.reduceSub, Int.reduceEq, Int.reduceLT, Int.reduceLE, Int.reduceNeg, s10, h22, hf, hx, h23, h24, hS0, dself, h26, h27, h28, h29, h30, h31, beq_self_eq_true, h32, h33, hS1, h34, h35, hS2, h36, h37, hS3, hC3, h38, h39, hS4, hC4]
end Go.Sh
namespace Go.Sh
set_option linter.unusedSectionVars false
set_option linter.unnecessarySimpa false
set_option linter.unusedVariables false
set_option linter.unusedSimpArgs false
set_option maxRecDepth 100000
set_option maxHeartbeats 4000000
theorem iS_of : ∀ {L : List (List SV)}, (∀ q ∈ L, FitsL [.int .i64] q) → ∃ N, L = iS N
  | [], _ => ⟨[], rfl⟩
  | c :: L, h => by
    obtain ⟨N, rfl⟩ := iS_of (L := L) (fun q hq => h q (by simp [hq]))
    obtain ⟨n, r, rfl, _, h2⟩ := fitsL_i (h c (by simp))
    obtain rfl := fitsL_nil' h2
    exact ⟨n :: N, rfl⟩
theorem fitsL_b {es : List DT} {cs : List SV} (h : FitsL (.bool :: es) cs) : ∃ b r, cs = .bool b :: r ∧ FitsL es r := by
  obtain ⟨c, r, rfl, h1, h2⟩ := fitsL_cons h
  obtain ⟨n, rfl⟩ := fits_bool h1
  exact ⟨n, r, rfl, h2⟩
theorem fitsL_s {es : List DT} {cs : List SV} (h : FitsL (.str :: es) cs) : ∃ b r, cs = .str b :: r ∧ b.size ≤ maxLen ∧ FitsL es r := by
  obtain ⟨c, r, rfl, h1, h2⟩ := fitsL_cons h
  obtain ⟨n, rfl, h3⟩ := fits_str h1
  exact ⟨n, r, rfl, h3, h2⟩
theorem bbS_of : ∀ {L : List (List SV)}, (∀ q ∈ L, FitsL [.bool] q) → ∃ N, L = bbS N
  | [], _ => ⟨[], rfl⟩
  | c :: L, h => by
    obtain ⟨N, rfl⟩ := bbS_of (L := L) (fun q hq => h q (by simp [hq]))
    obtain ⟨n, r, rfl, h2⟩ := fitsL_b (h c (by simp))
    obtain rfl := fitsL_nil' h2
    exact ⟨n :: N, rfl⟩
abbrev bdD : Bool × List DT := (true, [.str, .lst [.int .i64], .lst [.bool], .lst [.bool], .int .i64, .int .i64])
theorem law6 (xs : List SV) (h : FitsAll [bdD, (false, [.str]), (false, [.int .i64]), (false, [.int .i64])] xs) : ∃ m, call1 T m (.fn 6) xs heap0 = some (.bool true, heap0) := by
  obtain ⟨x1, r1, rfl, h1, h⟩ := fitsAll_cons h
  obtain ⟨x2, r2, rfl, h2, h⟩ := fitsAll_cons h
  obtain ⟨x3, r3, rfl, h3, h⟩ := fitsAll_cons h
  obtain ⟨x4, r4, rfl, h4, h⟩ := fitsAll_cons h
  cases fitsAll_nil h
  obtain ⟨cs, rfl, g⟩ := fitsA_agg h1
  obtain ⟨i, r, rfl, _, g⟩ := fitsL_s g
  obtain ⟨L1, f1, r, rfl, _, q1, g⟩ := fitsL_l g
  obtain ⟨L2, f2, r, rfl, _, q2, g⟩ := fitsL_l g
  obtain ⟨L3, f3, r, rfl, _, q3, g⟩ := fitsL_l g
  obtain ⟨k, r, rfl, _, g⟩ := fitsL_i g
  obtain ⟨s, r, rfl, _, g⟩ := fitsL_i g
  obtain rfl := fitsL_nil' g
  obtain ⟨N, rfl⟩ := iS_of q1
  obtain ⟨D, rfl⟩ := bbS_of q2
  obtain ⟨W, rfl⟩ := bbS_of q3
  obtain ⟨x, rfl, _⟩ := fits_str (fitsA_one h2)
  obtain ⟨q, rfl, _⟩ := fits_int (fitsA_one h3)
  obtain ⟨t, rfl, _⟩ := fits_int (fitsA_one h4)
  exact ⟨41, s6 i 1 N f1 1 D f2 1 W f3 k s x q t (.inl rfl) (.inl rfl) (.inl rfl)⟩
end Go.Sh
namespace Go.Sh
set_option linter.unusedSectionVars false
set_option linter.unnecessarySimpa false
set_option linter.unusedVariables false
set_option linter.unusedSimpArgs false
set_option maxRecDepth 100000
set_option maxHeartbeats 4000000
def u8S (l : List Int) : List (List SV) := l.map fun n => [.int .u8 n]
@[go_sem] theorem u8S_len {D : List Int} : (u8S D).length = D.length := by simp [u8S]
theorem u8_still (D : List Int) : Still (u8S D) := fun cs hcs c hc => by
  simp only [u8S, List.mem_map] at hcs
  obtain ⟨b, _, rfl⟩ := hcs
  simp only [List.mem_singleton] at hc
  subst hc
  exact ⟨rfl, fun _ _ _ => rfl⟩
theorem toBytes_u8 : ∀ l : List Int, toBytes (u8S l) = some (l.map fun n => UInt8.ofNat n.toNat)
  | [] => rfl
  | n :: l => by
    have := toBytes_u8 l
    simp only [u8S] at this
    simp only [u8S, List.map_cons, toBytes, this, Option.map_some]
theorem mkU (H : Heap) (m : Nat) (h : m ≤ 1000) : smake 1 [.int .u8 0] 1 H (.int .i64 m) (.int .i64 m) = some (.slc H.bl.length 0 0 m, hnew H (.arr 0 1 (List.replicate m [.int .u8 0]) true)) := by
  have h1 : decide ((m : Int) * ((1 : Nat) : Int) ≤ (mostLen : Int)) = true := decide_eq_true (by have : (mostLen : Int) = 1099511627776 := rfl; omega)
  have h2 : decide ((0 : Int) ≤ (m : Int)) = true := decide_eq_true (by omega)
  have h3 : decide ((m : Int) ≤ (m : Int)) = true := decide_eq_true (by omega)
  simp only [smake, h1, h2, h3, Bool.and_self, cond_true, Int.toNat_natCast]
/-- The byte of a number in place i of m. -/
def bv (n : Int) (m : Nat) (i : Nat) : Int := IntKind.wrap .u8 (n.fdiv (2 ^ (min (8 * (m - 1 - i)) 64)))
def bvL (n : Int) (m i : Nat) : List Int := (List.range m).map fun j => if j < i then bv n m j else 0
def nb (n : Int) (m : Nat) : List UInt8 := (List.range m).map fun i => UInt8.ofNat (bv n m i).toNat
theorem bvL_zero (n m) : u8S (bvL n m 0) = List.replicate m [.int .u8 0] := by
  apply List.ext_getElem?
  intro i
  by_cases h : i < m
  · simp [u8S, bvL, h]
  · simp [u8S, bvL, h]
theorem bvL_len (n m i) : (bvL n m i).length = m := by simp [bvL]
theorem bvL_suc {n m i} (h : i < m) : (u8S (bvL n m i)).set i [.int .u8 (bv n m i)] = u8S (bvL n m (i + 1)) := by
  apply List.ext_getElem?
  intro j
  by_cases hj : j = i
  · subst hj; simp [u8S, bvL, h]
  · rw [List.getElem?_set_ne (Ne.symm hj)]
    by_cases hm : j < m
    · simp [u8S, bvL, hm, show (j < i) = (j < i + 1) from propext ⟨fun h => by omega, fun h => by omega⟩]
    · simp [u8S, bvL, hm]
theorem bvL_get {n m i} (h : i < m) : (u8S (bvL n m i))[i]? = some [.int .u8 0] := by simp [u8S, bvL, h]
theorem bvL_full (n m) : (bvL n m m).map (fun n => UInt8.ofNat n.toNat) = nb n m := by
  simp only [bvL, nb, List.map_map]
  apply List.map_congr_left
  intro j hj
  simp only [List.mem_range] at hj
  simp [hj]
theorem s48 (k : Nat) (H : Heap) (n : Int) (m : Nat) (hm : m ≤ 8) : call1 T (k + 1) (.fn 48) [.int .i64 n, .int .i64 m] H = some (.str ⟨(nb n m).toArray⟩, H) := by
  refine call_pure e48 (by rfl) ?_
  simp only [c48, heap0, go_sem, Int.cast_ofNat_Int, Int.reduceToNat, Bool.true_xor, Bool.false_xor, Bool.xor_true, Bool.xor_false, Nat.reduceAdd, Nat.reduceBEq, Nat.reduceLeDiff, Nat.reduceLT, Nat.reduceMul, Nat.reduceSub, Int.reduceEq, Int.reduceLT, Int.reduceLE, Int.reduceNeg, mkU _ m (by omega), ← bvL_zero n m]
  refine loop_rule (fun i => ([(0, .int .i64 n), (1, .int .i64 m), (5, .slc 0 0 0 m), (10, .int .i64 m), (11, .int .i64 i)], ⟨[.arr 0 1 (u8S (bvL n m i)) true], [], 0⟩)) (fun _ => True) m ?_ trivial ?_
  · simp only [go_sem, Int.cast_ofNat_Int, Int.reduceToNat, Bool.true_xor, Bool.false_xor, Bool.xor_true, Bool.xor_false, Nat.reduceAdd, Nat.reduceBEq, Nat.reduceLeDiff, Nat.reduceLT, Nat.reduceMul, Nat.reduceSub, Int.reduceEq, Int.reduceLT, Int.reduceLE, Int.reduceNeg] <;> rfl
  · intro i hi _
    rcases Nat.lt_or_ge i m with hlt | hge
    · have hx := bvL_get (n := n) hlt
      have hs := w64_suc hlt (by have : maxLen = 9223372036854775807 := rfl; omega)
      have a1 : w64 ((m : Int) - 1) = ((m - 1 : Nat) : Int) := by rw [w64_id (by omega) (by omega)]; omega
      have a2 : w64 (((m - 1 : Nat) : Int) - i) = ((m - 1 - i : Nat) : Int) := by rw [w64_id (by omega) (by omega)]; omega
      have a3 : w64 (8 * ((m - 1 - i : Nat) : Int)) = ((8 * (m - 1 - i) : Nat) : Int) := by rw [w64_id (by omega) (by omega)]; omega
      have a4 : decide ((0 : Int) ≤ ((8 * (m - 1 - i) : Nat) : Int)) = true := decide_eq_true (by omega)
      have hst := bvL_suc (n := n) hlt
      unfold bv at hst
      simp only [go_sem, Int.cast_ofNat_Int, Int.reduceToNat, Bool.true_xor, Bool.false_xor, Bool.xor_true, Bool.xor_false, Nat.reduceAdd, Nat.reduceBEq, Nat.reduceLeDiff, Nat.reduceLT, Nat.reduceMul, Nat.reduceSub, Int.reduceEq, Int.reduceLT, Int.reduceLE, Int.reduceNeg, hlt, a1, a2, a3, a4, hx, Int.toNat_natCast, drop1]
      simp only [hst, hs]
      refine ⟨trivial, rfl, trivial⟩
    · obtain rfl : i = m := by omega
      have hd : decide (i < i) = false := decide_eq_false (by omega)
      have ht : List.take i (u8S (bvL n i i)) = u8S (bvL n i i) := List.take_of_length_le (by rw [u8S_len, bvL_len]; exact Nat.le_refl _)
      have hl : decide (i ≤ (u8S (bvL n i i)).length) = true := decide_eq_true (by rw [u8S_len, bvL_len]; exact Nat.le_refl _)
      simp only [go_sem, Int.cast_ofNat_Int, Int.reduceToNat, Bool.true_xor, Bool.false_xor, Bool.xor_true, Bool.xor_false, Nat.reduceAdd, Nat.reduceBEq, Nat.reduceLeDiff, Nat.reduceLT, Nat.reduceMul, Nat.reduceSub, Int.reduceEq, Int.reduceLT, Int.reduceLE, Int.reduceNeg, hd, ht, hl, toBytes_u8, bvL_full, bvL_len]
/-- The first bytes. -/
def bvT (n : Int) (m i : Nat) : List Int := (List.range i).map fun j => bv n m j
theorem bvT_len (n m i) : (bvT n m i).length = i := by simp [bvT]
theorem bvT_suc (n m i) : u8S (bvT n m i) ++ [[.int .u8 (bv n m i)]] = u8S (bvT n m (i + 1)) := by
  simp [u8S, bvT, List.range_succ]
theorem bvT_full (n m) : (bvT n m m).map (fun n => UInt8.ofNat n.toNat) = nb n m := by simp [bvT, nb]
theorem s50 (k : Nat) (H : Heap) (n : Int) (m : Nat) (hm : m ≤ 8) (h0 : 0 < m) : call1 T (k + 1) (.fn 50) [.int .i64 n, .int .i64 m] H = some (.str ⟨(nb n m).toArray⟩, H) := by
  refine call_pure e50 (by rfl) ?_
  have a1 : w64 ((m : Int) - 1) = ((m : Int) - 1 - (0 : Nat)) := by rw [w64_id (by omega) (by omega)]; omega
  simp only [c50, heap0, go_sem, Int.cast_ofNat_Int, Int.reduceToNat, Bool.true_xor, Bool.false_xor, Bool.xor_true, Bool.xor_false, Nat.reduceAdd, Nat.reduceBEq, Nat.reduceLeDiff, Nat.reduceLT, Nat.reduceMul, Nat.reduceSub, Int.reduceEq, Int.reduceLT, Int.reduceLE, Int.reduceNeg, a1]
  refine loop_rule (fun i => ([(0, .int .i64 n), (5, .slc 0 i 0 i), (6, .int .i64 ((m : Int) - 1 - i))], ⟨[.arr i 1 (u8S (bvT n m i)) false], [], 0⟩)) (fun _ => True) m ?_ trivial ?_
  · simp only [go_sem, Int.cast_ofNat_Int, Int.reduceToNat, Bool.true_xor, Bool.false_xor, Bool.xor_true, Bool.xor_false, Nat.reduceAdd, Nat.reduceBEq, Nat.reduceLeDiff, Nat.reduceLT, Nat.reduceMul, Nat.reduceSub, Int.reduceEq, Int.reduceLT, Int.reduceLE, Int.reduceNeg] <;> rfl
  · intro i hi _
    rcases Nat.lt_or_ge i m with hlt | hge
    · have e1 : ((m : Int) - 1 - i) = ((m - 1 - i : Nat) : Int) := by omega
      have h1 : decide ((0 : Int) ≤ (m : Int) - 1 - i) = true := decide_eq_true (by omega)
      have a3 : w64 (8 * ((m - 1 - i : Nat) : Int)) = ((8 * (m - 1 - i) : Nat) : Int) := by rw [w64_id (by omega) (by omega)]; omega
      have a4 : decide ((0 : Int) ≤ ((8 * (m - 1 - i) : Nat) : Int)) = true := decide_eq_true (by omega)
      have a5 : w64 (((m - 1 - i : Nat) : Int) - 1) = (m : Int) - 1 - (i + 1 : Nat) := by rw [w64_id (by omega) (by omega)]; omega
      have a6 : decide (i + 1 ≤ mostLen) = true := decide_eq_true (Nat.le_trans (show i + 1 ≤ 1000 by omega) (by decide))
      have hst := bvT_suc n m i
      unfold bv at hst
      simp only [go_sem, Int.cast_ofNat_Int, Int.reduceToNat, Bool.true_xor, Bool.false_xor, Bool.xor_true, Bool.xor_false, Nat.reduceAdd, Nat.reduceBEq, Nat.reduceLeDiff, Nat.reduceLT, Nat.reduceMul, Nat.reduceSub, Int.reduceEq, Int.reduceLT, Int.reduceLE, Int.reduceNeg, h1]
      rw [e1]
      have gb := fun H => apB_grow 1 H 0 i i [[.int .u8 (IntKind.u8.wrap (n.fdiv (2 ^ min (8 * (m - 1 - i)) 64)))]] (u8S (bvT n m i)) (by rw [u8S_len, bvT_len])
      simp only [go_sem, Int.cast_ofNat_Int, Int.reduceToNat, Bool.true_xor, Bool.false_xor, Bool.xor_true, Bool.xor_false, Nat.reduceAdd, Nat.reduceBEq, Nat.reduceLeDiff, Nat.reduceLT, Nat.reduceMul, Nat.reduceSub, Int.reduceEq, Int.reduceLT, Int.reduceLE, Int.reduceNeg, hlt, a3, a4, a5, a6, Int.toNat_natCast, Nat.mul_one, gb, hst, bvT_len]
      refine ⟨by first | trivial | omega, by first | trivial | rfl, trivial⟩
    · obtain rfl : i = m := by omega
      have hd : decide ((0 : Int) ≤ (i : Int) - 1 - i) = false := decide_eq_false (by omega)
      have ht : List.take i (u8S (bvT n i i)) = u8S (bvT n i i) := List.take_of_length_le (by rw [u8S_len, bvT_len]; exact Nat.le_refl _)
      have hl : decide (i ≤ (u8S (bvT n i i)).length) = true := decide_eq_true (by rw [u8S_len, bvT_len]; exact Nat.le_refl _)
      simp only [go_sem, Int.cast_ofNat_Int, Int.reduceToNat, Bool.true_xor, Bool.false_xor, Bool.xor_true, Bool.xor_false, Nat.reduceAdd, Nat.reduceBEq, Nat.reduceLeDiff, Nat.reduceLT, Nat.reduceMul, Nat.reduceSub, Int.reduceEq, Int.reduceLT, Int.reduceLE, Int.reduceNeg, hd, ht, hl, toBytes_u8, bvT_full, bvT_len]
end Go.Sh
namespace Go.Sh
set_option linter.unusedSectionVars false
set_option linter.unnecessarySimpa false
set_option linter.unusedVariables false
set_option linter.unusedSimpArgs false
set_option maxRecDepth 100000
set_option maxHeartbeats 4000000
def byteAt (s : ByteArray) (i : Nat) : Int := ((s.data[i]?).getD 0).toNat
def orI (a b : Int) : Int := IntKind.wrap .i64 ((BitVec.ofInt 64 a ||| BitVec.ofInt 64 b).toNat)
def vl (s : ByteArray) : Nat → Int
  | 0 => 0
  | i + 1 => orI (w64 (vl s i * 2 ^ (min 8 64))) (w64 (byteAt s i))
theorem s51 (k : Nat) (H : Heap) (s : ByteArray) (hm : s.size ≤ 1000) : call1 T (k + 1) (.fn 51) [.str s] H = some (.int .i64 (vl s s.size), H) := by
  refine call_pure e51 (by rfl) ?_
  simp only [c51, heap0, go_sem, Int.cast_ofNat_Int, Int.reduceToNat, Bool.true_xor, Bool.false_xor, Bool.xor_true, Bool.xor_false, Nat.reduceAdd, Nat.reduceBEq, Nat.reduceLeDiff, Nat.reduceLT, Nat.reduceMul, Nat.reduceSub, Int.reduceEq, Int.reduceLT, Int.reduceLE, Int.reduceNeg]
  refine loop_rule (fun i => ([(0, .str s), (3, .int .i64 (vl s i)), (6, .int .i64 s.size), (7, .int .i64 i)], ⟨[], [], 0⟩)) (fun _ => True) s.size ?_ trivial ?_
  · simp only [go_sem, Int.cast_ofNat_Int, Int.reduceToNat, Bool.true_xor, Bool.false_xor, Bool.xor_true, Bool.xor_false, Nat.reduceAdd, Nat.reduceBEq, Nat.reduceLeDiff, Nat.reduceLT, Nat.reduceMul, Nat.reduceSub, Int.reduceEq, Int.reduceLT, Int.reduceLE, Int.reduceNeg] <;> rfl
  · intro i hi _
    rcases Nat.lt_or_ge i s.size with hlt | hge
    · have hs := w64_suc hlt (Nat.le_trans hm mx)
      have hd : s.data[i]? = some s.data[i] := Array.getElem?_eq_getElem (by exact hlt)
      have hb : ((s.data[i].toNat : Nat) : Int) = byteAt s i := by unfold byteAt; rw [hd]; rfl
      simp only [go_sem, Int.cast_ofNat_Int, Int.reduceToNat, Bool.true_xor, Bool.false_xor, Bool.xor_true, Bool.xor_false, Nat.reduceAdd, Nat.reduceBEq, Nat.reduceLeDiff, Nat.reduceLT, Nat.reduceMul, Nat.reduceSub, Int.reduceEq, Int.reduceLT, Int.reduceLE, Int.reduceNeg, hlt, hd, hb, hs]
      exact ⟨trivial, rfl, trivial⟩
    · obtain rfl : i = s.size := by omega
      have hd : decide (s.size < s.size) = false := decide_eq_false (by omega)
      simp only [go_sem, Int.cast_ofNat_Int, Int.reduceToNat, Bool.true_xor, Bool.false_xor, Bool.xor_true, Bool.xor_false, Nat.reduceAdd, Nat.reduceBEq, Nat.reduceLeDiff, Nat.reduceLT, Nat.reduceMul, Nat.reduceSub, Int.reduceEq, Int.reduceLT, Int.reduceLE, Int.reduceNeg, hd]
theorem s52 (k : Nat) (H : Heap) (s : ByteArray) (hm : s.size ≤ 1000) : call1 T (k + 1) (.fn 52) [.str s] H = some (.int .i64 (vl s s.size), H) := by
  refine call_pure e52 (by rfl) ?_
  simp only [c52, heap0, go_sem, Int.cast_ofNat_Int, Int.reduceToNat, Bool.true_xor, Bool.false_xor, Bool.xor_true, Bool.xor_false, Nat.reduceAdd, Nat.reduceBEq, Nat.reduceLeDiff, Nat.reduceLT, Nat.reduceMul, Nat.reduceSub, Int.reduceEq, Int.reduceLT, Int.reduceLE, Int.reduceNeg]
  refine loop_rule (fun i => ([(0, .str s), (3, .int .i64 (vl s i)), (4, .int .i64 i)], ⟨[], [], 0⟩)) (fun _ => True) s.size ?_ trivial ?_
  · simp only [go_sem, Int.cast_ofNat_Int, Int.reduceToNat, Bool.true_xor, Bool.false_xor, Bool.xor_true, Bool.xor_false, Nat.reduceAdd, Nat.reduceBEq, Nat.reduceLeDiff, Nat.reduceLT, Nat.reduceMul, Nat.reduceSub, Int.reduceEq, Int.reduceLT, Int.reduceLE, Int.reduceNeg] <;> rfl
  · intro i hi _
    rcases Nat.lt_or_ge i s.size with hlt | hge
    · have hs := w64_suc hlt (Nat.le_trans hm mx)
      have hd : s.data[i]? = some s.data[i] := Array.getElem?_eq_getElem (by exact hlt)
      have hb : ((s.data[i].toNat : Nat) : Int) = byteAt s i := by unfold byteAt; rw [hd]; rfl
      simp only [go_sem, Int.cast_ofNat_Int, Int.reduceToNat, Bool.true_xor, Bool.false_xor, Bool.xor_true, Bool.xor_false, Nat.reduceAdd, Nat.reduceBEq, Nat.reduceLeDiff, Nat.reduceLT, Nat.reduceMul, Nat.reduceSub, Int.reduceEq, Int.reduceLT, Int.reduceLE, Int.reduceNeg, hlt, hd, hb, hs]
      exact ⟨trivial, rfl, trivial⟩
    · obtain rfl : i = s.size := by omega
      have hd : decide (s.size < s.size) = false := decide_eq_false (by omega)
      simp only [go_sem, Int.cast_ofNat_Int, Int.reduceToNat, Bool.true_xor, Bool.false_xor, Bool.xor_true, Bool.xor_false, Nat.reduceAdd, Nat.reduceBEq, Nat.reduceLeDiff, Nat.reduceLT, Nat.reduceMul, Nat.reduceSub, Int.reduceEq, Int.reduceLT, Int.reduceLE, Int.reduceNeg, hd]
def bt (L : List Int) : Nat → Int
  | 0 => 0
  | i + 1 => orI (bt L i) (w64 (1 * 2 ^ (min ((L[i]?).getD 0).toNat 64)))
def nbB (n : Int) (m : Nat) : ByteArray := ⟨(nb n m).toArray⟩
theorem nbB_size (n m) : (nbB n m).size = m := by simp [nbB, nb, ByteArray.size]
def enB (k d s : Int) (x : ByteArray) (L : List Int) : ByteArray := nbB d 1 ++ nbB k 3 ++ nbB s 4 ++ x ++ nbB (bt L L.length) 4
def enV (k d s : Int) (x : ByteArray) (L : List Int) : SV := bif cmB k d s x L then .tup [.str (enB k d s x L), .int .i64 0] else .tup [.str ⟨#[]⟩, .int .i64 1]
theorem cmB_ls {k d s : Int} {x : ByteArray} {L : List Int} (h : cmB k d s x L = true) : lsB L = true ∧ idB x = true := by
  unfold cmB at h
  simp only [Bool.and_eq_true] at h
  exact ⟨h.1.2, h.1.1.2⟩
theorem lsB_rng {L : List Int} (h : lsB L = true) {i : Nat} {x : Int} (hx : L[i]? = some x) : 0 ≤ x ∧ x < 32 := by
  unfold lsB at h
  simp only [Bool.and_eq_true, decide_eq_true_eq] at h
  obtain ⟨h1, h2, _⟩ := h.2 i (List.getElem?_eq_some_iff.1 hx).1 x hx
  exact ⟨h1, h2⟩
theorem s17 (n : Nat) (H : Heap) (k d s : Int) (x : ByteArray) (z : Nat) (L : List Int) (f : Bool) (hz : z = 1 ∨ L = []) (hL : L.length ≤ 1000) : call1 T (n + 3) (.fn 17) [.agg (cm k d s x z L f)] H = some (enV k d s x L, H) := by
  refine call_pure e17 (by rfl) ?_
  have h44 := fun H => s44 n H k d s x z L f hz (Nat.le_trans hL mx)
  unfold enV
  simp only [c17, heap0, go_sem, Int.cast_ofNat_Int, Int.reduceToNat, Bool.true_xor, Bool.false_xor, Bool.xor_true, Bool.xor_false, Nat.reduceAdd, Nat.reduceBEq, Nat.reduceLeDiff, Nat.reduceLT, Nat.reduceMul, Nat.reduceSub, Int.reduceEq, Int.reduceLT, Int.reduceLE, Int.reduceNeg, h44]
  cases hc : cmB k d s x L with
  | false => simp only [go_sem, Int.cast_ofNat_Int, Int.reduceToNat, Bool.true_xor, Bool.false_xor, Bool.xor_true, Bool.xor_false, Nat.reduceAdd, Nat.reduceBEq, Nat.reduceLeDiff, Nat.reduceLT, Nat.reduceMul, Nat.reduceSub, Int.reduceEq, Int.reduceLT, Int.reduceLE, Int.reduceNeg]
  | true =>
    obtain ⟨hls, hid⟩ := cmB_ls hc
    have hx : x.size = 32 := by unfold idB at hid; simp only [decide_eq_true_eq] at hid; omega
    simp only [go_sem, Int.cast_ofNat_Int, Int.reduceToNat, Bool.true_xor, Bool.false_xor, Bool.xor_true, Bool.xor_false, Nat.reduceAdd, Nat.reduceBEq, Nat.reduceLeDiff, Nat.reduceLT, Nat.reduceMul, Nat.reduceSub, Int.reduceEq, Int.reduceLT, Int.reduceLE, Int.reduceNeg]
    refine loop_rule (fun i => ([(1, .ptr 0 0 0 0), (4, .int .i64 (bt L i)), (11, .lst z (iS L) f), (12, .int .i64 L.length), (13, .int .i64 i)], ⟨[.box (cm k d s x z L f)], [], 0⟩)) (fun _ => True) L.length ?_ trivial ?_
    · simp only [go_sem, Int.cast_ofNat_Int, Int.reduceToNat, Bool.true_xor, Bool.false_xor, Bool.xor_true, Bool.xor_false, Nat.reduceAdd, Nat.reduceBEq, Nat.reduceLeDiff, Nat.reduceLT, Nat.reduceMul, Nat.reduceSub, Int.reduceEq, Int.reduceLT, Int.reduceLE, Int.reduceNeg] <;> rfl
    · intro i hi _
      rcases Nat.lt_or_ge i L.length with hlt | hge
      · obtain ⟨y, hy⟩ := getS hlt
        obtain rfl : z = 1 := hz.resolve_right (by rintro rfl; simp at hlt)
        have hs := w64_suc hlt (Nat.le_trans hL mx)
        obtain ⟨y0, y1⟩ := lsB_rng hls hy
        have hd : decide (0 ≤ y) = true := decide_eq_true y0
        have hg : y = (L[i]?).getD 0 := by rw [hy]; rfl
        simp only [go_sem, Int.cast_ofNat_Int, Int.reduceToNat, Bool.true_xor, Bool.false_xor, Bool.xor_true, Bool.xor_false, Nat.reduceAdd, Nat.reduceBEq, Nat.reduceLeDiff, Nat.reduceLT, Nat.reduceMul, Nat.reduceSub, Int.reduceEq, Int.reduceLT, Int.reduceLE, Int.reduceNeg, hlt, hy, hd, hs]
        refine ⟨by first | trivial | omega, ?_, trivial⟩
        simp only [bt, orI, hy, Option.getD_some]
        rfl
      · obtain rfl : i = L.length := by omega
        have hd : decide (L.length < L.length) = false := decide_eq_false (by omega)
        have h48a : ∀ H, call1 T (n + 2) (.fn 48) [.int .i64 d, .int .i64 1] H = some (.str (nbB d 1), H) := fun H => s48 (n + 1) H d 1 (by omega)
        have h48b : ∀ H, call1 T (n + 2) (.fn 48) [.int .i64 k, .int .i64 3] H = some (.str (nbB k 3), H) := fun H => s48 (n + 1) H k 3 (by omega)
        have h48c : ∀ H, call1 T (n + 2) (.fn 48) [.int .i64 s, .int .i64 4] H = some (.str (nbB s 4), H) := fun H => s48 (n + 1) H s 4 (by omega)
        have h48d : ∀ H, call1 T (n + 2) (.fn 48) [.int .i64 (bt L L.length), .int .i64 4] H = some (.str (nbB (bt L L.length) 4), H) := fun H => s48 (n + 1) H (bt L L.length) 4 (by omega)
        simp only [go_sem, Int.cast_ofNat_Int, Int.reduceToNat, Bool.true_xor, Bool.false_xor, Bool.xor_true, Bool.xor_false, Nat.reduceAdd, Nat.reduceBEq, Nat.reduceLeDiff, Nat.reduceLT, Nat.reduceMul, Nat.reduceSub, Int.reduceEq, Int.reduceLT, Int.reduceLE, Int.reduceNeg, hd, h48a, h48b, h48c, h48d, drop1, ByteArray.size_append, nbB_size, hx, enB]
theorem s18 (n : Nat) (H : Heap) (k d s : Int) (x : ByteArray) (z : Nat) (L : List Int) (f : Bool) (hz : z = 1 ∨ L = []) (hL : L.length ≤ 1000) : call1 T (n + 3) (.fn 18) [.agg (cm k d s x z L f)] H = some (enV k d s x L, H) := by
  refine call_pure e18 (by rfl) ?_
  have h49 := fun H => s49 n H k d s x z L f hz (Nat.le_trans hL mx)
  unfold enV
  simp only [c18, heap0, go_sem, Int.cast_ofNat_Int, Int.reduceToNat, Bool.true_xor, Bool.false_xor, Bool.xor_true, Bool.xor_false, Nat.reduceAdd, Nat.reduceBEq, Nat.reduceLeDiff, Nat.reduceLT, Nat.reduceMul, Nat.reduceSub, Int.reduceEq, Int.reduceLT, Int.reduceLE, Int.reduceNeg, h49]
  cases hc : cmB k d s x L with
  | false => simp only [go_sem, Int.cast_ofNat_Int, Int.reduceToNat, Bool.true_xor, Bool.false_xor, Bool.xor_true, Bool.xor_false, Nat.reduceAdd, Nat.reduceBEq, Nat.reduceLeDiff, Nat.reduceLT, Nat.reduceMul, Nat.reduceSub, Int.reduceEq, Int.reduceLT, Int.reduceLE, Int.reduceNeg]
  | true =>
    obtain ⟨hls, hid⟩ := cmB_ls hc
    have hx : x.size = 32 := by unfold idB at hid; simp only [decide_eq_true_eq] at hid; omega
    simp only [go_sem, Int.cast_ofNat_Int, Int.reduceToNat, Bool.true_xor, Bool.false_xor, Bool.xor_true, Bool.xor_false, Nat.reduceAdd, Nat.reduceBEq, Nat.reduceLeDiff, Nat.reduceLT, Nat.reduceMul, Nat.reduceSub, Int.reduceEq, Int.reduceLT, Int.reduceLE, Int.reduceNeg]
    refine loop_rule (fun i => ([(1, .ptr 0 0 0 0), (4, .int .i64 (bt L i)), (5, .int .i64 i)], ⟨[.box (cm k d s x z L f)], [], 0⟩)) (fun _ => True) L.length ?_ trivial ?_
    · simp only [go_sem, Int.cast_ofNat_Int, Int.reduceToNat, Bool.true_xor, Bool.false_xor, Bool.xor_true, Bool.xor_false, Nat.reduceAdd, Nat.reduceBEq, Nat.reduceLeDiff, Nat.reduceLT, Nat.reduceMul, Nat.reduceSub, Int.reduceEq, Int.reduceLT, Int.reduceLE, Int.reduceNeg] <;> rfl
    · intro i hi _
      rcases Nat.lt_or_ge i L.length with hlt | hge
      · obtain ⟨y, hy⟩ := getS hlt
        obtain rfl : z = 1 := hz.resolve_right (by rintro rfl; simp at hlt)
        have hs := w64_suc hlt (Nat.le_trans hL mx)
        obtain ⟨y0, y1⟩ := lsB_rng hls hy
        have hd : decide (0 ≤ y) = true := decide_eq_true y0
        have hg : y = (L[i]?).getD 0 := by rw [hy]; rfl
        simp only [go_sem, Int.cast_ofNat_Int, Int.reduceToNat, Bool.true_xor, Bool.false_xor, Bool.xor_true, Bool.xor_false, Nat.reduceAdd, Nat.reduceBEq, Nat.reduceLeDiff, Nat.reduceLT, Nat.reduceMul, Nat.reduceSub, Int.reduceEq, Int.reduceLT, Int.reduceLE, Int.reduceNeg, hlt, hy, hd, hs]
        refine ⟨by first | trivial | omega, ?_, trivial⟩
        simp only [bt, orI, hy, Option.getD_some]
        rfl
      · obtain rfl : i = L.length := by omega
        have hd : decide (L.length < L.length) = false := decide_eq_false (by omega)
        have h50a : ∀ H, call1 T (n + 2) (.fn 50) [.int .i64 d, .int .i64 1] H = some (.str (nbB d 1), H) := fun H => s50 (n + 1) H d 1 (by omega) (by omega)
        have h50b : ∀ H, call1 T (n + 2) (.fn 50) [.int .i64 k, .int .i64 3] H = some (.str (nbB k 3), H) := fun H => s50 (n + 1) H k 3 (by omega) (by omega)
        have h50c : ∀ H, call1 T (n + 2) (.fn 50) [.int .i64 s, .int .i64 4] H = some (.str (nbB s 4), H) := fun H => s50 (n + 1) H s 4 (by omega) (by omega)
        have h50d : ∀ H, call1 T (n + 2) (.fn 50) [.int .i64 (bt L L.length), .int .i64 4] H = some (.str (nbB (bt L L.length) 4), H) := fun H => s50 (n + 1) H (bt L L.length) 4 (by omega) (by omega)
        simp only [go_sem, Int.cast_ofNat_Int, Int.reduceToNat, Bool.true_xor, Bool.false_xor, Bool.xor_true, Bool.xor_false, Nat.reduceAdd, Nat.reduceBEq, Nat.reduceLeDiff, Nat.reduceLT, Nat.reduceMul, Nat.reduceSub, Int.reduceEq, Int.reduceLT, Int.reduceLE, Int.reduceNeg, hd, h50a, h50b, h50c, h50d, drop1, ByteArray.size_append, nbB_size, hx, enB]
end Go.Sh
namespace Go.Sh
set_option linter.unusedSectionVars false
set_option linter.unnecessarySimpa false
set_option linter.unusedVariables false
set_option linter.unusedSimpArgs false
set_option maxRecDepth 100000
set_option maxHeartbeats 4000000
def andI (a b : Int) : Int := IntKind.wrap .i64 ((BitVec.ofInt 64 a &&& BitVec.ofInt 64 b).toNat)
@[go_sem high] theorem sb_and64 (a b : Int) : sbin .and (.int .i64 a) (.int .i64 b) = some (.int .i64 (andI a b)) := by
  simp only [sbin, beq_self_eq_true, cond_true]; rfl
def tb (B : Int) (j : Nat) : Bool := decide (andI (B.fdiv (2 ^ (min j 64))) 1 = 1)
def dl (B : Int) (i : Nat) : List Int := ((List.range i).filter (tb B)).map fun (j : Nat) => (j : Int)
/-! The mathematics of bytes and bits. -/
theorem ofInt_nat (a : Nat) (h : a < 2 ^ 64) : (BitVec.ofInt 64 (a : Int)).toNat = a := by
  rw [BitVec.toNat_ofInt]
  omega
theorem w64_nat {a : Nat} (h : a < 2 ^ 63) : IntKind.wrap .i64 (a : Int) = a := w64_id (by omega) (by omega)
theorem orI_nat {a b : Nat} (ha : a < 2 ^ 63) (hb : b < 2 ^ 63) : orI a b = ((a ||| b : Nat) : Int) := by
  unfold orI
  rw [BitVec.toNat_or, ofInt_nat a (by omega), ofInt_nat b (by omega)]
  exact w64_nat (Nat.or_lt_two_pow ha hb)
theorem fdiv_nat (B j : Nat) : ((B : Int).fdiv (2 ^ j)) = ((B / 2 ^ j : Nat) : Int) := by
  have h : ((2 : Int) ^ j) = ((2 ^ j : Nat) : Int) := by rw [Int.natCast_pow]; rfl
  rw [h, Int.fdiv_eq_ediv_of_nonneg _ (Int.natCast_nonneg _), Int.natCast_ediv]
theorem tb_nat {B : Nat} {j : Nat} (hB : B < 2 ^ 63) (hj : j < 64) : tb B j = B.testBit j := by
  unfold tb andI
  rw [Nat.min_eq_left (by omega), fdiv_nat, BitVec.toNat_and]
  have h2 : B / 2 ^ j ≤ B := Nat.div_le_self _ _
  have h3 : (BitVec.ofInt 64 1).toNat = 1 := by decide
  rw [ofInt_nat _ (by omega), h3, Nat.and_one_is_mod, w64_nat (by omega), Nat.testBit_eq_decide_div_mod_eq]
  rw [decide_eq_decide]
  omega
theorem or_byte {a b : Nat} (hb : b < 256) : (a * 256 ||| b) = a * 256 + b := by
  have := Nat.two_pow_add_eq_or_of_lt (i := 8) (b := b) hb a
  rw [Nat.mul_comm] at this
  exact this.symm
/-- One byte more. -/
theorem vl_suc {s : ByteArray} {i a : Nat} (h : vl s i = a) (ha : a < 2 ^ 40) : vl s (i + 1) = ((a * 256 + ((s.data[i]?).getD 0).toNat : Nat) : Int) := by
  have hb : ((s.data[i]?).getD 0).toNat < 256 := UInt8.toNat_lt _
  simp only [vl, h, byteAt]
  have h1 : ((a : Int) * 2 ^ (min 8 64)) = ((a * 256 : Nat) : Int) := by
    have : (min 8 64) = 8 := rfl
    rw [this]; omega
  rw [h1]
  have h2 : w64 ((a * 256 : Nat) : Int) = ((a * 256 : Nat) : Int) := w64_nat (by omega)
  have h3 : w64 ((((s.data[i]?).getD 0).toNat : Nat) : Int) = ((((s.data[i]?).getD 0).toNat : Nat) : Int) := w64_nat (by omega)
  rw [h2, h3, orI_nat (by omega) (by omega), or_byte hb]
theorem vl_one (s : ByteArray) : vl s 1 = ((((s.data[0]?).getD 0).toNat : Nat) : Int) := by
  rw [vl_suc (a := 0) rfl (by omega)]; simp
theorem vl_three (s : ByteArray) : vl s 3 = (((((s.data[0]?).getD 0).toNat * 256 + ((s.data[1]?).getD 0).toNat) * 256 + ((s.data[2]?).getD 0).toNat : Nat) : Int) := by
  have h0 : ((s.data[0]?).getD 0).toNat < 256 := UInt8.toNat_lt _
  have h1 : ((s.data[1]?).getD 0).toNat < 256 := UInt8.toNat_lt _
  rw [vl_suc (vl_suc (vl_one s) (by omega)) (by omega)]
theorem vl_four (s : ByteArray) : vl s 4 = ((((((s.data[0]?).getD 0).toNat * 256 + ((s.data[1]?).getD 0).toNat) * 256 + ((s.data[2]?).getD 0).toNat) * 256 + ((s.data[3]?).getD 0).toNat : Nat) : Int) := by
  have h0 : ((s.data[0]?).getD 0).toNat < 256 := UInt8.toNat_lt _
  have h1 : ((s.data[1]?).getD 0).toNat < 256 := UInt8.toNat_lt _
  have h2 : ((s.data[2]?).getD 0).toNat < 256 := UInt8.toNat_lt _
  rw [vl_suc (vl_three s) (by omega)]
theorem bv_nat (n m i : Nat) (hm : 8 * (m - 1 - i) ≤ 64) : bv n m i = ((n / 2 ^ (8 * (m - 1 - i)) % 256 : Nat) : Int) := by
  unfold bv
  rw [Nat.min_eq_left hm, fdiv_nat]
  show ((n / 2 ^ (8 * (m - 1 - i)) : Nat) : Int) % 256 = _
  omega
theorem nb_get (n m i : Nat) (hi : i < m) (hm : m ≤ 8) : ((nbB n m).data[i]?).getD 0 = UInt8.ofNat (n / 2 ^ (8 * (m - 1 - i)) % 256) := by
  simp only [nbB, nb, List.getElem?_toArray, List.getElem?_map, List.getElem?_range hi, Option.map_some, Option.getD_some]
  rw [bv_nat n m i (by omega)]
  rfl
theorem ofNat_toNat {a : Nat} (h : a < 256) : (UInt8.ofNat a).toNat = a := by
  simp [UInt8.toNat_ofNat, Nat.mod_eq_of_lt h]
theorem vl_nb1 {n : Nat} (h : n < 256) : vl (nbB n 1) 1 = n := by
  rw [vl_one, nb_get n 1 0 (by omega) (by omega), ofNat_toNat (by omega)]
  simp; omega
theorem vl_nb3 {n : Nat} (h : n < 16777216) : vl (nbB n 3) 3 = n := by
  rw [vl_three, nb_get n 3 0 (by omega) (by omega), nb_get n 3 1 (by omega) (by omega), nb_get n 3 2 (by omega) (by omega), ofNat_toNat (by omega), ofNat_toNat (by omega), ofNat_toNat (by omega)]
  simp; omega
theorem vl_nb4 {n : Nat} (h : n < 4294967296) : vl (nbB n 4) 4 = n := by
  rw [vl_four, nb_get n 4 0 (by omega) (by omega), nb_get n 4 1 (by omega) (by omega), nb_get n 4 2 (by omega) (by omega), nb_get n 4 3 (by omega) (by omega), ofNat_toNat (by omega), ofNat_toNat (by omega), ofNat_toNat (by omega), ofNat_toNat (by omega)]
  simp; omega
theorem ba_ext {s t : ByteArray} (h : s.size = t.size) (hb : ∀ i, i < s.size → (s.data[i]?).getD 0 = (t.data[i]?).getD 0) : s = t := by
  apply ByteArray.ext
  apply Array.ext
  · exact h
  · intro i h1 h2
    have := hb i h1
    rw [Array.getElem?_eq_getElem h1, Array.getElem?_eq_getElem h2] at this
    exact this
theorem u8_eq {a : UInt8} {n : Nat} (h : n = a.toNat) : UInt8.ofNat n = a := by subst h; simp
theorem nb_vl1 {s : ByteArray} (h : s.size = 1) : nbB (vl s 1) 1 = s := by
  refine ba_ext (by rw [nbB_size, h]) (fun i hi => ?_)
  rw [nbB_size] at hi
  have h0 : ((s.data[0]?).getD 0).toNat < 256 := UInt8.toNat_lt _
  obtain rfl : i = 0 := by omega
  rw [vl_one, nb_get _ 1 0 (by omega) (by omega)]
  exact u8_eq (by first | (simp; done) | (simp; omega))
theorem nb_vl3 {s : ByteArray} (h : s.size = 3) : nbB (vl s 3) 3 = s := by
  refine ba_ext (by rw [nbB_size, h]) (fun i hi => ?_)
  rw [nbB_size] at hi
  have h0 : ((s.data[0]?).getD 0).toNat < 256 := UInt8.toNat_lt _
  have h1 : ((s.data[1]?).getD 0).toNat < 256 := UInt8.toNat_lt _
  have h2 : ((s.data[2]?).getD 0).toNat < 256 := UInt8.toNat_lt _
  rw [vl_three, nb_get _ 3 i (by omega) (by omega)]
  rcases (by omega : i = 0 ∨ i = 1 ∨ i = 2) with rfl | rfl | rfl <;> exact u8_eq (by first | (simp; done) | (simp; omega))
theorem nb_vl4 {s : ByteArray} (h : s.size = 4) : nbB (vl s 4) 4 = s := by
  refine ba_ext (by rw [nbB_size, h]) (fun i hi => ?_)
  rw [nbB_size] at hi
  have h0 : ((s.data[0]?).getD 0).toNat < 256 := UInt8.toNat_lt _
  have h1 : ((s.data[1]?).getD 0).toNat < 256 := UInt8.toNat_lt _
  have h2 : ((s.data[2]?).getD 0).toNat < 256 := UInt8.toNat_lt _
  have h3 : ((s.data[3]?).getD 0).toNat < 256 := UInt8.toNat_lt _
  rw [vl_four, nb_get _ 4 i (by omega) (by omega)]
  rcases (by omega : i = 0 ∨ i = 1 ∨ i = 2 ∨ i = 3) with rfl | rfl | rfl | rfl <;> exact u8_eq (by first | (simp; done) | (simp; omega))
/-! Bits. -/
def btN (L : List Int) : Nat → Nat
  | 0 => 0
  | i + 1 => btN L i ||| 2 ^ ((L[i]?).getD 0).toNat
theorem bt_nat {L : List Int} (h : ∀ (i : Nat) x, L[i]? = some x → 0 ≤ x ∧ x < 32) : ∀ i, i ≤ L.length → bt L i = btN L i ∧ btN L i < 2 ^ 32
  | 0, _ => ⟨rfl, by simp [btN]⟩
  | i + 1, hi => by
    obtain ⟨h1, h2⟩ := bt_nat h i (by omega)
    obtain ⟨x, hx⟩ := getS (show i < L.length by omega)
    obtain ⟨x0, x1⟩ := h i x hx
    have hp : 2 ^ x.toNat < 2 ^ 32 := Nat.pow_lt_pow_right (by omega) (by omega)
    have hw : w64 (1 * 2 ^ (min x.toNat 64)) = ((2 ^ x.toNat : Nat) : Int) := by
      have e : (1 * 2 ^ (min x.toNat 64) : Int) = ((2 ^ x.toNat : Nat) : Int) := by
        rw [Int.one_mul, Nat.min_eq_left (by omega), Int.natCast_pow]; rfl
      rw [e]
      exact w64_nat (by omega)
    simp only [bt, btN, h1, hx, Option.getD_some, hw]
    exact ⟨orI_nat (by omega) (by omega), Nat.or_lt_two_pow h2 hp⟩
theorem bt_bit {L : List Int} (h : ∀ (i : Nat) x, L[i]? = some x → 0 ≤ x ∧ x < 32) (j : Nat) : ∀ i, i ≤ L.length → ((btN L i).testBit j = true ↔ ∃ m, m < i ∧ L[m]? = some (j : Int))
  | 0, _ => by simp [btN]
  | i + 1, hi => by
    have ih := bt_bit h j i (by omega)
    obtain ⟨x, hx⟩ := getS (show i < L.length by omega)
    obtain ⟨x0, x1⟩ := h i x hx
    simp only [btN, hx, Option.getD_some, Nat.testBit_or, Nat.testBit_two_pow, Bool.or_eq_true, ih, decide_eq_true_eq]
    constructor
    · rintro (⟨m, h1, h2⟩ | h1)
      · exact ⟨m, by omega, h2⟩
      · exact ⟨i, by omega, by rw [hx]; congr 1; omega⟩
    · rintro ⟨m, h1, h2⟩
      by_cases e : m = i
      · subst e
        rw [hx] at h2; cases h2
        right; simp
      · exact .inl ⟨m, by omega, h2⟩
theorem lsB_lt {L : List Int} (h : lsB L = true) : ∀ (i j : Nat) (x y : Int), i < j → L[i]? = some x → L[j]? = some y → x < y := by
  intro i j
  induction j with
  | zero => intro x y hij; omega
  | succ j ih =>
    intro x y hij hx hy
    have hl := (List.getElem?_eq_some_iff.1 hy).1
    obtain ⟨z, hz⟩ := getS (show j < L.length by omega)
    have h' := h
    unfold lsB at h'
    simp only [Bool.and_eq_true, decide_eq_true_eq] at h'
    have h3 := (h'.2 (j + 1) hl y hy).2.2 (by omega) z (by simpa using hz)
    by_cases e : i = j
    · subst e; rw [hx] at hz; cases hz; exact h3
    · exact Int.lt_trans (ih x z (by omega) hx hz) h3
/-- The nodes whose bits are set are those of the list. -/
theorem dl_bt {L : List Int} (h : lsB L = true) : dl (bt L L.length) 32 = L := by
  have hr := fun (i : Nat) x hx => lsB_rng h (i := i) (x := x) hx
  obtain ⟨h1, h2⟩ := bt_nat hr L.length (Nat.le_refl _)
  have hmem : ∀ x, x ∈ dl (bt L L.length) 32 ↔ x ∈ L := by
    intro x
    simp only [dl, List.mem_map, List.mem_filter, List.mem_range]
    constructor
    · rintro ⟨j, ⟨h3, h4⟩, rfl⟩
      rw [h1, tb_nat (by omega) (by omega), bt_bit hr j L.length (Nat.le_refl _)] at h4
      obtain ⟨m, _, h5⟩ := h4
      exact List.mem_of_getElem? h5
    · intro hx
      obtain ⟨m, hm⟩ := List.getElem?_of_mem hx
      obtain ⟨x0, x1⟩ := hr m x hm
      refine ⟨x.toNat, ⟨by omega, ?_⟩, by omega⟩
      rw [h1, tb_nat (by omega) (by omega), bt_bit hr _ L.length (Nat.le_refl _)]
      exact ⟨m, (List.getElem?_eq_some_iff.1 hm).1, by rw [hm]; congr 1; omega⟩
  have hp1 : List.Pairwise (· < ·) (dl (bt L L.length) 32) := by
    unfold dl
    rw [List.pairwise_map]
    exact List.Pairwise.imp (fun h => by omega) (List.Pairwise.filter _ List.pairwise_lt_range)
  have hp2 : List.Pairwise (· < ·) L := by
    rw [List.pairwise_iff_getElem]
    intro i j hi hj hij
    exact lsB_lt h i j _ _ hij (List.getElem?_eq_getElem hi) (List.getElem?_eq_getElem hj)
  exact List.Perm.eq_of_pairwise (fun a b _ _ h1 h2 => by omega) hp1 hp2 ((List.perm_ext_iff_of_nodup (hp1.imp (fun h => by omega)) (hp2.imp (fun h => by omega))).2 hmem)
theorem dl_rng (B : Int) (i m : Nat) (x : Int) (hx : (dl B i)[m]? = some x) : 0 ≤ x ∧ x < i := by
  have := List.mem_of_getElem? hx
  simp only [dl, List.mem_map, List.mem_filter, List.mem_range] at this
  obtain ⟨j, ⟨h1, _⟩, rfl⟩ := this
  omega
/-- The bits of the nodes whose bits are set. -/
theorem bt_dl {B : Nat} (hB : B < 2 ^ 32) : bt (dl B 32) (dl B 32).length = B := by
  have hr : ∀ (i : Nat) x, (dl B 32)[i]? = some x → 0 ≤ x ∧ x < 32 := fun i x hx => dl_rng B 32 i x hx
  obtain ⟨h1, h2⟩ := bt_nat hr _ (Nat.le_refl _)
  rw [h1]
  congr 1
  apply Nat.eq_of_testBit_eq
  intro j
  rw [Bool.eq_iff_iff, bt_bit hr j _ (Nat.le_refl _)]
  constructor
  · rintro ⟨m, _, hm⟩
    have := List.mem_of_getElem? hm
    simp only [dl, List.mem_map, List.mem_filter, List.mem_range] at this
    obtain ⟨j', ⟨h3, h4⟩, h5⟩ := this
    rw [tb_nat (by omega) (by omega)] at h4
    have : j' = j := by omega
    subst this; exact h4
  · intro hj
    have hj32 : j < 32 := by
      rcases Nat.lt_or_ge j 32 with h | h
      · exact h
      · rw [Nat.testBit_lt_two_pow (Nat.lt_of_lt_of_le hB (Nat.pow_le_pow_right (by omega) h))] at hj; cases hj
    have : (j : Int) ∈ dl B 32 := by
      simp only [dl, List.mem_map, List.mem_filter, List.mem_range]
      exact ⟨j, ⟨hj32, by rw [tb_nat (by omega) (by omega)]; exact hj⟩, rfl⟩
    obtain ⟨m, hm⟩ := List.getElem?_of_mem this
    exact ⟨m, (List.getElem?_eq_some_iff.1 hm).1, hm⟩
end Go.Sh
namespace Go.Sh
set_option linter.unusedSectionVars false
set_option linter.unnecessarySimpa false
set_option linter.unusedVariables false
set_option linter.unusedSimpArgs false
set_option maxRecDepth 100000
set_option maxHeartbeats 4000000
theorem dl_yes {B : Int} {i : Nat} (h : tb B i = true) : iS (dl B i) ++ [[.int .i64 i]] = iS (dl B (i + 1)) := by
  simp [iS, dl, List.range_succ, h]
theorem dl_len_yes {B : Int} {i : Nat} (h : tb B i = true) : (dl B (i + 1)).length = (dl B i).length + 1 := by
  simp [dl, List.range_succ, h]
theorem dl_no {B : Int} {i : Nat} (h : tb B i = false) : dl B (i + 1) = dl B i := by simp [dl, List.range_succ, h]
theorem dl_len (B : Int) (i : Nat) : (dl B i).length ≤ i := by
  simp only [dl, List.length_map]
  exact Nat.le_trans (List.length_filter_le _ _) (by simp)
def deK (s : ByteArray) : Int := vl (s.extract 1 4) 3
def deD (s : ByteArray) : Int := vl (s.extract 0 1) 1
def deT (s : ByteArray) : Int := vl (s.extract 4 8) 4
def deL (s : ByteArray) : List Int := dl (vl (s.extract 40 44) 4) 32
def deB (s : ByteArray) : Bool := decide (s.size = 44) && cmB (deK s) (deD s) (deT s) (s.extract 8 40) (deL s)
def deV (s : ByteArray) : SV := bif deB s then .tup [.agg (cm (deK s) (deD s) (deT s) (s.extract 8 40) 1 (deL s) false), .int .i64 0] else .tup [.agg cmZ, .int .i64 10]
theorem allS_one {A : Type} (a : A) : allS [some a] = some [a] := rfl
theorem s19 (n : Nat) (H : Heap) (s : ByteArray) : call1 T (n + 3) (.fn 19) [.str s] H = some (deV s, H) := by
  refine call_pure e19 (by rfl) ?_
  unfold deV deB
  simp only [c19, heap0, go_sem, Int.cast_ofNat_Int, Int.reduceToNat, Bool.true_xor, Bool.false_xor, Bool.xor_true, Bool.xor_false, Nat.reduceAdd, Nat.reduceBEq, Nat.reduceLeDiff, Nat.reduceLT, Nat.reduceMul, Nat.reduceSub, Int.reduceEq, Int.reduceLT, Int.reduceLE, Int.reduceNeg]
  by_cases hs : s.size = 44
  · have hsz : (s.size : Int) = 44 := by omega
    have e1 : (s.extract 0 1).size = 1 := by rw [ByteArray.size_extract]; omega
    have e2 : (s.extract 1 4).size = 3 := by rw [ByteArray.size_extract]; omega
    have e3 : (s.extract 4 8).size = 4 := by rw [ByteArray.size_extract]; omega
    have e4 : (s.extract 40 44).size = 4 := by rw [ByteArray.size_extract]; omega
    have h51a : ∀ H, call1 T (n + 2) (.fn 51) [.str (s.extract 0 1)] H = some (.int .i64 (deD s), H) := fun H => by rw [s51 (n + 1) H _ (by omega), e1]; rfl
    have h51b : ∀ H, call1 T (n + 2) (.fn 51) [.str (s.extract 1 4)] H = some (.int .i64 (deK s), H) := fun H => by rw [s51 (n + 1) H _ (by omega), e2]; rfl
    have h51c : ∀ H, call1 T (n + 2) (.fn 51) [.str (s.extract 4 8)] H = some (.int .i64 (deT s), H) := fun H => by rw [s51 (n + 1) H _ (by omega), e3]; rfl
    have h51d : ∀ H, call1 T (n + 2) (.fn 51) [.str (s.extract 40 44)] H = some (.int .i64 (vl (s.extract 40 44) 4), H) := fun H => by rw [s51 (n + 1) H _ (by omega), e4]
    have hd : decide (s.size = 44) = true := decide_eq_true hs
    obtain ⟨B, hB⟩ : ∃ B, vl (s.extract 40 44) 4 = B := ⟨_, rfl⟩
    have hL : deL s = dl B 32 := by unfold deL; rw [hB]
    rw [hB] at h51d
    simp only [go_sem, Int.cast_ofNat_Int, Int.reduceToNat, Bool.true_xor, Bool.false_xor, Bool.xor_true, Bool.xor_false, Nat.reduceAdd, Nat.reduceBEq, Nat.reduceLeDiff, Nat.reduceLT, Nat.reduceMul, Nat.reduceSub, Int.reduceEq, Int.reduceLT, Int.reduceLE, Int.reduceNeg, hsz, hs, hd, h51a, h51b, h51c, h51d, hL, drop1, Nat.reduceMod, Nat.reduceDiv]
    refine loop_rule (fun i => ([(2, .ptr 0 0 0 0), (4, .ptr 1 0 0 0), (5, .int .i64 B), (26, .int .i64 i)], ⟨[.box cmZ, .box [.int .i64 (deK s), .int .i64 (deD s), .int .i64 (deT s), .str (s.extract 8 40), .slc 2 (dl B i).length 0 (dl B i).length], .arr (dl B i).length 1 (iS (dl B i)) false], List.replicate (dl B i).length (1, 3), 0⟩)) (fun _ => True) 32 ?_ trivial ?_
    · simp only [go_sem, Int.cast_ofNat_Int, Int.reduceToNat, Bool.true_xor, Bool.false_xor, Bool.xor_true, Bool.xor_false, Nat.reduceAdd, Nat.reduceBEq, Nat.reduceLeDiff, Nat.reduceLT, Nat.reduceMul, Nat.reduceSub, Int.reduceEq, Int.reduceLT, Int.reduceLE, Int.reduceNeg] <;> rfl
    · intro i hi _
      rcases Nat.lt_or_ge i 32 with hlt | hge
      · have h1 : decide ((i : Int) < 32) = true := decide_eq_true (by omega)
        have hw : w64 ((i : Int) + 1) = ((i + 1 : Nat) : Int) := w64_suc (n := 32) hlt (by decide)
        have h0 : decide ((0 : Int) ≤ (i : Int)) = true := decide_eq_true (by omega)
        have ht : decide (andI (B.fdiv (2 ^ (min i 64))) 1 = 1) = tb B i := rfl
        simp only [go_sem, Int.cast_ofNat_Int, Int.reduceToNat, Bool.true_xor, Bool.false_xor, Bool.xor_true, Bool.xor_false, Nat.reduceAdd, Nat.reduceBEq, Nat.reduceLeDiff, Nat.reduceLT, Nat.reduceMul, Nat.reduceSub, Int.reduceEq, Int.reduceLT, Int.reduceLE, Int.reduceNeg, h1, h0, Int.toNat_natCast, ht]
        cases hb : tb B i with
        | false =>
          have e := dl_no hb
          simp only [go_sem, Int.cast_ofNat_Int, Int.reduceToNat, Bool.true_xor, Bool.false_xor, Bool.xor_true, Bool.xor_false, Nat.reduceAdd, Nat.reduceBEq, Nat.reduceLeDiff, Nat.reduceLT, Nat.reduceMul, Nat.reduceSub, Int.reduceEq, Int.reduceLT, Int.reduceLE, Int.reduceNeg, hw, e, List.filter_replicate, List.all_replicate, ite_self]
          refine ⟨by first | trivial | omega, by first | trivial | rfl, trivial⟩
        | true =>
          have e := dl_yes hb
          have e2' := dl_len_yes hb
          have hl := dl_len B i
          have r1 : decide (((dl B i).length + 1) * 8 ≤ mostLen) = true := decide_eq_true (Nat.le_trans (show ((dl B i).length + 1) * 8 ≤ 1000 by omega) (by decide))
          have gb := fun H => apB_grow 1 H 2 (dl B i).length (dl B i).length [[.int .i64 (i : Int)]] (iS (dl B i)) iS_len
          simp only [go_sem, Int.cast_ofNat_Int, Int.reduceToNat, Bool.true_xor, Bool.false_xor, Bool.xor_true, Bool.xor_false, Nat.reduceAdd, Nat.reduceBEq, Nat.reduceLeDiff, Nat.reduceLT, Nat.reduceMul, Nat.reduceSub, Int.reduceEq, Int.reduceLT, Int.reduceLE, Int.reduceNeg, hw, r1, gb, e, e2', List.replicate_succ, List.filter_replicate, List.all_replicate, ite_self]
          refine ⟨by first | trivial | omega, by first | trivial | rfl, trivial⟩
      · obtain rfl : i = 32 := by omega
        have g1 := fun Hp d => fz_i (dl B 32) 0 Hp d (dl B 32).length (dl B 32).length false rfl
        have h44 := fun H => s44 n H (deK s) (deD s) (deT s) (s.extract 8 40) 1 (dl B 32) false (.inl rfl) (Nat.le_trans (dl_len B 32) (by decide))
        simp only [go_sem, Int.cast_ofNat_Int, Int.reduceToNat, Bool.true_xor, Bool.false_xor, Bool.xor_true, Bool.xor_false, Nat.reduceAdd, Nat.reduceBEq, Nat.reduceLeDiff, Nat.reduceLT, Nat.reduceMul, Nat.reduceSub, Int.reduceEq, Int.reduceLT, Int.reduceLE, Int.reduceNeg, g1, allS_one, h44]
        cases hc : cmB (deK s) (deD s) (deT s) (s.extract 8 40) (dl B 32) with
        | false => simp only [go_sem, Int.cast_ofNat_Int, Int.reduceToNat, Bool.true_xor, Bool.false_xor, Bool.xor_true, Bool.xor_false, Nat.reduceAdd, Nat.reduceBEq, Nat.reduceLeDiff, Nat.reduceLT, Nat.reduceMul, Nat.reduceSub, Int.reduceEq, Int.reduceLT, Int.reduceLE, Int.reduceNeg]
        | true => simp only [go_sem, Int.cast_ofNat_Int, Int.reduceToNat, Bool.true_xor, Bool.false_xor, Bool.xor_true, Bool.xor_false, Nat.reduceAdd, Nat.reduceBEq, Nat.reduceLeDiff, Nat.reduceLT, Nat.reduceMul, Nat.reduceSub, Int.reduceEq, Int.reduceLT, Int.reduceLE, Int.reduceNeg, g1, allS_one]
  · have h1 : decide ((s.size : Int) = 44) = false := decide_eq_false (by omega)
    have h2 : decide (s.size = 44) = false := decide_eq_false hs
    simp only [go_sem, Int.cast_ofNat_Int, Int.reduceToNat, Bool.true_xor, Bool.false_xor, Bool.xor_true, Bool.xor_false, Nat.reduceAdd, Nat.reduceBEq, Nat.reduceLeDiff, Nat.reduceLT, Nat.reduceMul, Nat.reduceSub, Int.reduceEq, Int.reduceLT, Int.reduceLE, Int.reduceNeg, h1, h2]
theorem s20 (n : Nat) (H : Heap) (s : ByteArray) : call1 T (n + 3) (.fn 20) [.str s] H = some (deV s, H) := by
  refine call_pure e20 (by rfl) ?_
  unfold deV deB
  simp only [c20, heap0, go_sem, Int.cast_ofNat_Int, Int.reduceToNat, Bool.true_xor, Bool.false_xor, Bool.xor_true, Bool.xor_false, Nat.reduceAdd, Nat.reduceBEq, Nat.reduceLeDiff, Nat.reduceLT, Nat.reduceMul, Nat.reduceSub, Int.reduceEq, Int.reduceLT, Int.reduceLE, Int.reduceNeg]
  by_cases hs : s.size = 44
  · have hsz : (s.size : Int) = 44 := by omega
    have e1 : (s.extract 0 1).size = 1 := by rw [ByteArray.size_extract]; omega
    have e2 : (s.extract 1 4).size = 3 := by rw [ByteArray.size_extract]; omega
    have e3 : (s.extract 4 8).size = 4 := by rw [ByteArray.size_extract]; omega
    have e4 : (s.extract 40 44).size = 4 := by rw [ByteArray.size_extract]; omega
    have h51a : ∀ H, call1 T (n + 2) (.fn 52) [.str (s.extract 0 1)] H = some (.int .i64 (deD s), H) := fun H => by rw [s52 (n + 1) H _ (by omega), e1]; rfl
    have h51b : ∀ H, call1 T (n + 2) (.fn 52) [.str (s.extract 1 4)] H = some (.int .i64 (deK s), H) := fun H => by rw [s52 (n + 1) H _ (by omega), e2]; rfl
    have h51c : ∀ H, call1 T (n + 2) (.fn 52) [.str (s.extract 4 8)] H = some (.int .i64 (deT s), H) := fun H => by rw [s52 (n + 1) H _ (by omega), e3]; rfl
    have h51d : ∀ H, call1 T (n + 2) (.fn 52) [.str (s.extract 40 44)] H = some (.int .i64 (vl (s.extract 40 44) 4), H) := fun H => by rw [s52 (n + 1) H _ (by omega), e4]
    have hd : decide (s.size = 44) = true := decide_eq_true hs
    obtain ⟨B, hB⟩ : ∃ B, vl (s.extract 40 44) 4 = B := ⟨_, rfl⟩
    have hL : deL s = dl B 32 := by unfold deL; rw [hB]
    rw [hB] at h51d
    simp only [go_sem, Int.cast_ofNat_Int, Int.reduceToNat, Bool.true_xor, Bool.false_xor, Bool.xor_true, Bool.xor_false, Nat.reduceAdd, Nat.reduceBEq, Nat.reduceLeDiff, Nat.reduceLT, Nat.reduceMul, Nat.reduceSub, Int.reduceEq, Int.reduceLT, Int.reduceLE, Int.reduceNeg, hsz, hs, hd, h51a, h51b, h51c, h51d, hL, drop1, Nat.reduceMod, Nat.reduceDiv]
    refine loop_rule (fun i => ([(2, .ptr 0 0 0 0), (4, .ptr 1 0 0 0), (5, .int .i64 B), (6, .int .i64 i)], ⟨[.box cmZ, .box [.int .i64 (deK s), .int .i64 (deD s), .int .i64 (deT s), .str (s.extract 8 40), .slc 2 (dl B i).length 0 (dl B i).length], .arr (dl B i).length 1 (iS (dl B i)) false], List.replicate (dl B i).length (1, 3), 0⟩)) (fun _ => True) 32 ?_ trivial ?_
    · simp only [go_sem, Int.cast_ofNat_Int, Int.reduceToNat, Bool.true_xor, Bool.false_xor, Bool.xor_true, Bool.xor_false, Nat.reduceAdd, Nat.reduceBEq, Nat.reduceLeDiff, Nat.reduceLT, Nat.reduceMul, Nat.reduceSub, Int.reduceEq, Int.reduceLT, Int.reduceLE, Int.reduceNeg] <;> rfl
    · intro i hi _
      rcases Nat.lt_or_ge i 32 with hlt | hge
      · have h1 : decide ((i : Int) < 32) = true := decide_eq_true (by omega)
        have hw : w64 ((i : Int) + 1) = ((i + 1 : Nat) : Int) := w64_suc (n := 32) hlt (by decide)
        have h0 : decide ((0 : Int) ≤ (i : Int)) = true := decide_eq_true (by omega)
        have ht : decide (andI (B.fdiv (2 ^ (min i 64))) 1 = 1) = tb B i := rfl
        simp only [go_sem, Int.cast_ofNat_Int, Int.reduceToNat, Bool.true_xor, Bool.false_xor, Bool.xor_true, Bool.xor_false, Nat.reduceAdd, Nat.reduceBEq, Nat.reduceLeDiff, Nat.reduceLT, Nat.reduceMul, Nat.reduceSub, Int.reduceEq, Int.reduceLT, Int.reduceLE, Int.reduceNeg, h1, h0, Int.toNat_natCast, ht]
        cases hb : tb B i with
        | false =>
          have e := dl_no hb
          simp only [go_sem, Int.cast_ofNat_Int, Int.reduceToNat, Bool.true_xor, Bool.false_xor, Bool.xor_true, Bool.xor_false, Nat.reduceAdd, Nat.reduceBEq, Nat.reduceLeDiff, Nat.reduceLT, Nat.reduceMul, Nat.reduceSub, Int.reduceEq, Int.reduceLT, Int.reduceLE, Int.reduceNeg, hw, e, List.filter_replicate, List.all_replicate, ite_self]
          refine ⟨by first | trivial | omega, by first | trivial | rfl, trivial⟩
        | true =>
          have e := dl_yes hb
          have e2' := dl_len_yes hb
          have hl := dl_len B i
          have r1 : decide (((dl B i).length + 1) * 8 ≤ mostLen) = true := decide_eq_true (Nat.le_trans (show ((dl B i).length + 1) * 8 ≤ 1000 by omega) (by decide))
          have gb := fun H => apB_grow 1 H 2 (dl B i).length (dl B i).length [[.int .i64 (i : Int)]] (iS (dl B i)) iS_len
          simp only [go_sem, Int.cast_ofNat_Int, Int.reduceToNat, Bool.true_xor, Bool.false_xor, Bool.xor_true, Bool.xor_false, Nat.reduceAdd, Nat.reduceBEq, Nat.reduceLeDiff, Nat.reduceLT, Nat.reduceMul, Nat.reduceSub, Int.reduceEq, Int.reduceLT, Int.reduceLE, Int.reduceNeg, hw, r1, gb, e, e2', List.replicate_succ, List.filter_replicate, List.all_replicate, ite_self]
          refine ⟨by first | trivial | omega, by first | trivial | rfl, trivial⟩
      · obtain rfl : i = 32 := by omega
        have g1 := fun Hp d => fz_i (dl B 32) 0 Hp d (dl B 32).length (dl B 32).length false rfl
        have h44 := fun H => s49 n H (deK s) (deD s) (deT s) (s.extract 8 40) 1 (dl B 32) false (.inl rfl) (Nat.le_trans (dl_len B 32) (by decide))
        simp only [go_sem, Int.cast_ofNat_Int, Int.reduceToNat, Bool.true_xor, Bool.false_xor, Bool.xor_true, Bool.xor_false, Nat.reduceAdd, Nat.reduceBEq, Nat.reduceLeDiff, Nat.reduceLT, Nat.reduceMul, Nat.reduceSub, Int.reduceEq, Int.reduceLT, Int.reduceLE, Int.reduceNeg, g1, allS_one, h44]
        cases hc : cmB (deK s) (deD s) (deT s) (s.extract 8 40) (dl B 32) with
        | false => simp only [go_sem, Int.cast_ofNat_Int, Int.reduceToNat, Bool.true_xor, Bool.false_xor, Bool.xor_true, Bool.xor_false, Nat.reduceAdd, Nat.reduceBEq, Nat.reduceLeDiff, Nat.reduceLT, Nat.reduceMul, Nat.reduceSub, Int.reduceEq, Int.reduceLT, Int.reduceLE, Int.reduceNeg]
        | true => simp only [go_sem, Int.cast_ofNat_Int, Int.reduceToNat, Bool.true_xor, Bool.false_xor, Bool.xor_true, Bool.xor_false, Nat.reduceAdd, Nat.reduceBEq, Nat.reduceLeDiff, Nat.reduceLT, Nat.reduceMul, Nat.reduceSub, Int.reduceEq, Int.reduceLT, Int.reduceLE, Int.reduceNeg, g1, allS_one]
  · have h1 : decide ((s.size : Int) = 44) = false := decide_eq_false (by omega)
    have h2 : decide (s.size = 44) = false := decide_eq_false hs
    simp only [go_sem, Int.cast_ofNat_Int, Int.reduceToNat, Bool.true_xor, Bool.false_xor, Bool.xor_true, Bool.xor_false, Nat.reduceAdd, Nat.reduceBEq, Nat.reduceLeDiff, Nat.reduceLT, Nat.reduceMul, Nat.reduceSub, Int.reduceEq, Int.reduceLT, Int.reduceLE, Int.reduceNeg, h1, h2]
/-! The law. -/
def fwC (x : ByteArray) (L : List Int) : Bool := decide ((x.size : Int) ≤ 100) && decide ((L.length : Int) ≤ 40)
end Go.Sh
namespace Go.Sh
set_option linter.unusedSectionVars false
set_option linter.unnecessarySimpa false
set_option linter.unusedVariables false
set_option linter.unusedSimpArgs false
set_option maxRecDepth 100000
set_option maxHeartbeats 4000000
theorem ba_toList {a b : ByteArray} (h : a.data.toList = b.data.toList) : a = b := by
  apply ByteArray.ext
  exact Array.toList_inj.1 h
theorem ex_list (s : ByteArray) (i j : Nat) : (s.extract i j).data.toList = (s.data.toList.drop i).take (j - i) := by
  rw [ByteArray.data_extract, Array.toList_extract, List.extract_eq_take_drop]
theorem ba_len (s : ByteArray) : s.data.toList.length = s.size := Array.length_toList
theorem ba_app (a b : ByteArray) : (a ++ b).data.toList = a.data.toList ++ b.data.toList := by rw [ByteArray.data_append, Array.toList_append]
theorem ex_mid (a b c : ByteArray) (i j : Nat) (hi : a.size = i) (hj : a.size + b.size = j) : (a ++ b ++ c).extract i j = b := by
  subst hi
  subst hj
  apply ba_toList
  rw [ex_list, ba_app, ba_app, ← ba_len a, ← ba_len b, List.append_assoc, List.drop_left, Nat.add_sub_cancel_left, List.take_left]
theorem ex_join (s : ByteArray) (i j k : Nat) (h1 : i ≤ j) (h2 : j ≤ k) : s.extract i j ++ s.extract j k = s.extract i k := by
  apply ba_toList
  rw [ba_app, ex_list, ex_list, ex_list, show k - i = (j - i) + (k - j) by omega, List.take_add, List.drop_drop, show i + (j - i) = j by omega]
theorem ex_all (s : ByteArray) : s.extract 0 s.size = s := by
  apply ba_toList
  rw [ex_list, ← ba_len, List.drop_zero, Nat.sub_zero, List.take_length]
theorem ba_assoc (a b c : ByteArray) : a ++ b ++ c = a ++ (b ++ c) := by apply ba_toList; simp only [ba_app, List.append_assoc]
theorem ba_nil (a : ByteArray) : (⟨#[]⟩ : ByteArray) ++ a = a := by apply ba_toList; simp [ba_app]
theorem ba_nil' (a : ByteArray) : a ++ (⟨#[]⟩ : ByteArray) = a := by apply ba_toList; simp [ba_app]
theorem cmB_spec {k d s : Int} {x : ByteArray} {L : List Int} (h : cmB k d s x L = true) : 1 ≤ k ∧ k ≤ 1048576 ∧ (1 ≤ d ∧ d ≤ 2) ∧ (0 ≤ s ∧ s ≤ 1073741824) ∧ x.size = 32 ∧ lsB L = true := by
  have h2 := cmB_ls h
  unfold cmB idB at h
  simp only [Bool.and_eq_true, Bool.or_eq_true, decide_eq_true_eq] at h
  refine ⟨h.1.1.1.1, h.1.1.1.2, ?_, ?_, by omega, h2.1⟩
  · rcases h.2 with h | h <;> omega
  · rcases h.2 with h | h <;> omega
section
variable {k d s : Int} {x : ByteArray} {L : List Int} (h : cmB k d s x L = true)
include h
theorem en_size : (enB k d s x L).size = 44 := by
  obtain ⟨_, _, _, _, hx, _⟩ := cmB_spec h
  simp only [enB, ByteArray.size_append, nbB_size, hx]
theorem en_D : deD (enB k d s x L) = d := by
  obtain ⟨_, _, hd, _, hx, _⟩ := cmB_spec h
  have e : enB k d s x L = ⟨#[]⟩ ++ nbB d 1 ++ (nbB k 3 ++ nbB s 4 ++ x ++ nbB (bt L L.length) 4) := by rw [ba_nil]; unfold enB; simp only [ba_assoc]
  unfold deD
  rw [e, ex_mid _ _ _ 0 1 rfl (by rw [nbB_size]; rfl)]
  obtain ⟨n, rfl⟩ : ∃ n : Nat, d = n := ⟨d.toNat, by omega⟩
  exact vl_nb1 (by omega)
theorem en_K : deK (enB k d s x L) = k := by
  obtain ⟨_, _, hd, _, hx, _⟩ := cmB_spec h
  have e : enB k d s x L = nbB d 1 ++ nbB k 3 ++ (nbB s 4 ++ x ++ nbB (bt L L.length) 4) := by unfold enB; simp only [ba_assoc]
  unfold deK
  rw [e, ex_mid _ _ _ 1 4 (nbB_size _ _) (by rw [nbB_size, nbB_size])]
  obtain ⟨n, rfl⟩ : ∃ n : Nat, k = n := ⟨k.toNat, by omega⟩
  exact vl_nb3 (by omega)
theorem en_T : deT (enB k d s x L) = s := by
  obtain ⟨_, _, hd, hs, hx, _⟩ := cmB_spec h
  have e : enB k d s x L = (nbB d 1 ++ nbB k 3) ++ nbB s 4 ++ (x ++ nbB (bt L L.length) 4) := by unfold enB; simp only [ba_assoc]
  unfold deT
  rw [e, ex_mid _ _ _ 4 8 (by rw [ByteArray.size_append, nbB_size, nbB_size]) (by rw [ByteArray.size_append, nbB_size, nbB_size, nbB_size])]
  obtain ⟨n, rfl⟩ : ∃ n : Nat, s = n := ⟨s.toNat, by omega⟩
  exact vl_nb4 (by omega)
theorem en_X : (enB k d s x L).extract 8 40 = x := by
  obtain ⟨_, _, hd, hs, hx, _⟩ := cmB_spec h
  unfold enB
  exact ex_mid _ _ _ 8 40 (by simp only [ByteArray.size_append, nbB_size]) (by simp only [ByteArray.size_append, nbB_size, hx])
theorem en_L : deL (enB k d s x L) = L := by
  obtain ⟨_, _, hd, hs, hx, hL⟩ := cmB_spec h
  have e : enB k d s x L = (nbB d 1 ++ nbB k 3 ++ nbB s 4 ++ x) ++ nbB (bt L L.length) 4 ++ ⟨#[]⟩ := by rw [ba_nil']; rfl
  unfold deL
  rw [e, ex_mid _ _ _ 40 44 (by simp only [ByteArray.size_append, nbB_size, hx]) (by simp only [ByteArray.size_append, nbB_size, hx])]
  obtain ⟨h1, h2⟩ := bt_nat (fun (i : Nat) x hx => lsB_rng hL (i := i) (x := x) hx) L.length (Nat.le_refl _)
  rw [h1, vl_nb4 (by omega), ← h1]
  exact dl_bt hL
theorem de_en : deB (enB k d s x L) = true ∧ deV (enB k d s x L) = .tup [.agg (cm k d s x 1 L false), .int .i64 0] := by
  have : deB (enB k d s x L) = true := by unfold deB; rw [en_size h, en_D h, en_K h, en_T h, en_X h, en_L h, h]; rfl
  refine ⟨this, ?_⟩
  unfold deV
  rw [this, en_D h, en_K h, en_T h, en_X h, en_L h]
  rfl
end
/-- What was read is written again. -/
theorem en_de {s : ByteArray} (h : deB s = true) : enB (deK s) (deD s) (deT s) (s.extract 8 40) (deL s) = s := by
  unfold deB at h
  simp only [Bool.and_eq_true, decide_eq_true_eq] at h
  obtain ⟨hs, _⟩ := h
  have e1 : (s.extract 0 1).size = 1 := by rw [ByteArray.size_extract]; omega
  have e2 : (s.extract 1 4).size = 3 := by rw [ByteArray.size_extract]; omega
  have e3 : (s.extract 4 8).size = 4 := by rw [ByteArray.size_extract]; omega
  have e4 : (s.extract 40 44).size = 4 := by rw [ByteArray.size_extract]; omega
  have h4 : ∃ B : Nat, vl (s.extract 40 44) 4 = B ∧ B < 2 ^ 32 := by
    have h0 : (((s.extract 40 44).data[0]?).getD 0).toNat < 256 := UInt8.toNat_lt _
    have h1 : (((s.extract 40 44).data[1]?).getD 0).toNat < 256 := UInt8.toNat_lt _
    have h2 : (((s.extract 40 44).data[2]?).getD 0).toNat < 256 := UInt8.toNat_lt _
    have h3 : (((s.extract 40 44).data[3]?).getD 0).toNat < 256 := UInt8.toNat_lt _
    exact ⟨_, vl_four _, by omega⟩
  obtain ⟨B, hB, hB2⟩ := h4
  unfold enB
  have hb : nbB (bt (deL s) (deL s).length) 4 = s.extract 40 44 := by
    unfold deL
    rw [hB, bt_dl hB2, ← hB]
    exact nb_vl4 e4
  rw [hb, show nbB (deD s) 1 = s.extract 0 1 from nb_vl1 e1, show nbB (deK s) 3 = s.extract 1 4 from nb_vl3 e2, show nbB (deT s) 4 = s.extract 4 8 from nb_vl4 e3]
  rw [ex_join s 0 1 4 (by omega) (by omega), ex_join s 0 4 8 (by omega) (by omega), ex_join s 0 8 40 (by omega) (by omega), ex_join s 0 40 44 (by omega) (by omega), ← hs, ex_all]
theorem deB_cm {s : ByteArray} (h : deB s = true) : cmB (deK s) (deD s) (deT s) (s.extract 8 40) (deL s) = true := by
  unfold deB at h
  simp only [Bool.and_eq_true] at h
  exact h.2
end Go.Sh
namespace Go.Sh
set_option linter.unusedSectionVars false
set_option linter.unnecessarySimpa false
set_option linter.unusedVariables false
set_option linter.unusedSimpArgs false
set_option maxRecDepth 100000
set_option maxHeartbeats 4000000
theorem s5 (k d s : Int) (x : ByteArray) (L : List Int) (f : Bool) (data : ByteArray) : call1 T 41 (.fn 5) [.agg (cm k d s x 1 L f), .str data] heap0 = some (.bool true, heap0) := by
  refine call_pure e5 (by rfl) ?_
  have h13 := fun H => s13 39 H k d s x 1 L f
  cases hf : decide ((x.size : Int) ≤ 100) && decide ((L.length : Int) ≤ 40) with
  | false => rw [hf] at h13; simp only [c5, heap0, go_sem, Int.cast_ofNat_Int, Int.reduceToNat, Bool.true_xor, Bool.false_xor, Bool.xor_true, Bool.xor_false, Nat.reduceAdd, Nat.reduceBEq, Nat.reduceLeDiff, Nat.reduceLT, Nat.reduceMul, Nat.reduceSub, Int.reduceEq, Int.reduceLT, Int.reduceLE, Int.reduceNeg, s10, h13]
  | true =>
    rw [hf] at h13
    simp only [Bool.and_eq_true, decide_eq_true_eq] at hf
    have hL : L.length ≤ 1000 := by omega
    cases hx : decide (100 < (data.size : Int)) with
    | true => simp only [c5, heap0, go_sem, Int.cast_ofNat_Int, Int.reduceToNat, Bool.true_xor, Bool.false_xor, Bool.xor_true, Bool.xor_false, Nat.reduceAdd, Nat.reduceBEq, Nat.reduceLeDiff, Nat.reduceLT, Nat.reduceMul, Nat.reduceSub, Int.reduceEq, Int.reduceLT, Int.reduceLE, Int.reduceNeg, s10, h13, hx]
    | false =>
      have h17 := fun H => s17 37 H k d s x 1 L f (.inl rfl) hL
      have h18 := fun H => s18 37 H k d s x 1 L f (.inl rfl) hL
      have h19 := fun H => s19 37 H data
      have h20 := fun H => s20 37 H data
      have hz : ∀ H, call1 T 40 (.fn 21) [.agg cmZ, .agg cmZ] H = some (.bool true, H) := fun H => s21 38 H 0 0 0 ⟨#[]⟩ 0 0 [] true true (.inr rfl) (.inr rfl) (by simp)
      have hlen := dl_len (vl (data.extract 40 44) 4) 32
      have hq := fun H => s21 38 H (deK data) (deD data) (deT data) (data.extract 8 40) 1 1 (deL data) false false (.inl rfl) (.inl rfl) (Nat.le_trans hlen (by omega))
      have hr := fun H => s21 38 H k d s x 1 1 L false f (.inl rfl) (.inl rfl) hL
      have h17' := fun H => s17 37 H (deK data) (deD data) (deT data) (data.extract 8 40) 1 (deL data) false (.inl rfl) (Nat.le_trans hlen (by omega))
      have h19' := fun H => s19 37 H (enB k d s x L)
      cases hc : cmB k d s x L with
      | false =>
        have he : enV k d s x L = .tup [.str ⟨#[]⟩, .int .i64 1] := by unfold enV; rw [hc]; rfl
        rw [he] at h17 h18
        cases hb : deB data with
        | false =>
          have hv : deV data = .tup [.agg cmZ, .int .i64 10] := by unfold deV; rw [hb]; rfl
          rw [hv] at h19 h20
          simp only [c5, heap0, go_sem, Int.cast_ofNat_Int, Int.reduceToNat, Bool.true_xor, Bool.false_xor, Bool.xor_true, Bool.xor_false, Nat.reduceAdd, Nat.reduceBEq, Nat.reduceLeDiff, Nat.reduceLT, Nat.reduceMul, Nat.reduceSub, Int.reduceEq, Int.reduceLT, Int.reduceLE, Int.reduceNeg, s10, h13, hx, h17, h18, h19, h20, dself, hz]
        | true =>
          have hv : deV data = .tup [.agg (cm (deK data) (deD data) (deT data) (data.extract 8 40) 1 (deL data) false), .int .i64 0] := by unfold deV; rw [hb]; rfl
          have he' : enV (deK data) (deD data) (deT data) (data.extract 8 40) (deL data) = .tup [.str data, .int .i64 0] := by unfold enV; rw [deB_cm hb, en_de hb]; rfl
          rw [hv] at h19 h20
          rw [he'] at h17'
          simp only [c5, heap0, go_sem, Int.cast_ofNat_Int, Int.reduceToNat, Bool.true_xor, Bool.false_xor, Bool.xor_true, Bool.xor_false, Nat.reduceAdd, Nat.reduceBEq, Nat.reduceLeDiff, Nat.reduceLT, Nat.reduceMul, Nat.reduceSub, Int.reduceEq, Int.reduceLT, Int.reduceLE, Int.reduceNeg, s10, h13, hx, h17, h18, h19, h20, dself, hq, h17']
      | true =>
        have he : enV k d s x L = .tup [.str (enB k d s x L), .int .i64 0] := by unfold enV; rw [hc]; rfl
        obtain ⟨_, hd⟩ := de_en hc
        rw [he] at h17 h18
        rw [hd] at h19'
        cases hb : deB data with
        | false =>
          have hv : deV data = .tup [.agg cmZ, .int .i64 10] := by unfold deV; rw [hb]; rfl
          rw [hv] at h19 h20
          simp only [c5, heap0, go_sem, Int.cast_ofNat_Int, Int.reduceToNat, Bool.true_xor, Bool.false_xor, Bool.xor_true, Bool.xor_false, Nat.reduceAdd, Nat.reduceBEq, Nat.reduceLeDiff, Nat.reduceLT, Nat.reduceMul, Nat.reduceSub, Int.reduceEq, Int.reduceLT, Int.reduceLE, Int.reduceNeg, s10, h13, hx, h17, h18, h19, h20, dself, hz, h19', hr]
        | true =>
          have hv : deV data = .tup [.agg (cm (deK data) (deD data) (deT data) (data.extract 8 40) 1 (deL data) false), .int .i64 0] := by unfold deV; rw [hb]; rfl
          have he' : enV (deK data) (deD data) (deT data) (data.extract 8 40) (deL data) = .tup [.str data, .int .i64 0] := by unfold enV; rw [deB_cm hb, en_de hb]; rfl
          rw [hv] at h19 h20
          rw [he'] at h17'
          simp only [c5, heap0, go_sem, Int.cast_ofNat_Int, Int.reduceToNat, Bool.true_xor, Bool.false_xor, Bool.xor_true, Bool.xor_false, Nat.reduceAdd, Nat.reduceBEq, Nat.reduceLeDiff, Nat.reduceLT, Nat.reduceMul, Nat.reduceSub, Int.reduceEq, Int.reduceLT, Int.reduceLE, Int.reduceNeg, s10, h13, hx, h17, h18, h19, h20, dself, hq, h17', h19', hr]
abbrev cmD : Bool × List DT := (true, [.int .i64, .int .i64, .int .i64, .str, .lst [.int .i64]])
theorem law5 (xs : List SV) (h : FitsAll [cmD, (false, [.str])] xs) : ∃ m, call1 T m (.fn 5) xs heap0 = some (.bool true, heap0) := by
  obtain ⟨x1, r1, rfl, h1, h⟩ := fitsAll_cons h
  obtain ⟨x2, r2, rfl, h2, h⟩ := fitsAll_cons h
  cases fitsAll_nil h
  obtain ⟨cs, rfl, g⟩ := fitsA_agg h1
  obtain ⟨k, r, rfl, _, g⟩ := fitsL_i g
  obtain ⟨d, r, rfl, _, g⟩ := fitsL_i g
  obtain ⟨s, r, rfl, _, g⟩ := fitsL_i g
  obtain ⟨x, r, rfl, _, g⟩ := fitsL_s g
  obtain ⟨L, f, r, rfl, _, q1, g⟩ := fitsL_l g
  obtain rfl := fitsL_nil' g
  obtain ⟨N, rfl⟩ := iS_of q1
  obtain ⟨y, rfl, _⟩ := fits_str (fitsA_one h2)
  exact ⟨41, s5 k d s x N f y⟩
end Go.Sh
namespace Go.Sh
set_option linter.unusedSectionVars false
set_option linter.unnecessarySimpa false
set_option linter.unusedVariables false
set_option linter.unusedSimpArgs false
set_option maxRecDepth 100000
set_option maxHeartbeats 4000000
theorem ls2 : lsB [2] = true := by decide
abbrev b2 (t : Bool) (k s : Int) : List SV := bd idX 1 [2] false 1 [true] true 1 [t] true k s
theorem b2_ok (t : Bool) : BdOk 1 [2] 1 [true] 1 [t] := ⟨.inl rfl, .inl rfl, .inl rfl, by decide, by simp, by simp⟩
theorem b2_v {t : Bool} {k s : Int} (h0 : 0 ≤ k) (h1 : k ≤ 1000) (h2 : 0 ≤ s) (h3 : s ≤ 1000) (h4 : k = 0 → s = 0 ∧ t = false) : bdB idX [2] [true] [t] k s = true := by
  unfold bdB
  rw [idB_X, ls2, decide_eq_true h0, decide_eq_true (show k ≤ 1048576 by omega), decide_eq_true h2, decide_eq_true (show s ≤ 1073741824 by omega)]
  by_cases hk : k = 0
  · obtain ⟨rfl, rfl⟩ := h4 hk
    subst hk
    rfl
  · rw [decide_eq_false hk]
    rfl
theorem idx2 : idx1 (fun y => decide ((2 : Int) = y)) [2] = 0 := by rfl
theorem nw2 : nwV idX [2] = .tup [.agg (bd idX 1 [2] false 1 [false] true 1 [false] true 0 0), .int .i64 0] := by
  unfold nwV; rw [idB_X, ls2]; rfl
theorem rp2 : rpV idX [2] [false] [false] 0 0 2 true idX = .tup [.agg (b2 false 0 0), .int .i64 0] := by
  have hv : bdB idX [2] [false] [false] 0 0 = true := by unfold bdB; rw [idB_X, ls2]; rfl
  unfold rpV
  rw [hv, idx2, decide_eq_true (show idX = idX from rfl)]
  rfl
theorem ak2 {t : Bool} {k s m : Int} (hv : bdB idX [2] [true] [t] k s = true) : akV idX [2] [true] [t] k s 2 true m = .tup [.agg (b2 (bif decide (m = k) && decide (0 < m) then true else t) k s), .int .i64 0] := by
  unfold akV
  rw [hv, idx2]
  cases decide (m = k) && decide (0 < m) <;> rfl
theorem or2 {t : Bool} {k s u : Int} (hv : bdB idX [2] [true] [t] k s = true) (h0 : 0 ≤ k) (h1 : k ≤ 1000) (h2 : 1 ≤ u) (h3 : u ≤ 1000) : orV idX [2] [true] [t] k s true u = .tup [.agg (b2 false (k + 1) u), .agg (cm (k + 1) 1 u idX 1 [2] false), .int .i64 0] := by
  unfold orV
  rw [hv, show hasB false [true] = false from rfl, decide_eq_false (show ¬ u < 1 by omega), decide_eq_false (show ¬ 1073741824 < u by omega)]
  unfold sdV
  rw [decide_eq_false (show ¬ k = 1048576 by omega), w64_id (show -9223372036854775808 ≤ k + 1 by omega) (by omega)]
  rfl
theorem wd2 {t : Bool} {k s : Int} (hv : bdB idX [2] [true] [t] k s = true) (h0 : 0 ≤ k) (h1 : k ≤ 1000) : wdV idX [2] [true] [t] k s true = bif decide (s = 0) then .tup [.agg bdZ, .agg cmZ, .int .i64 12] else .tup [.agg (b2 false (k + 1) 0), .agg (cm (k + 1) 2 0 idX 1 [2] false), .int .i64 0] := by
  unfold wdV
  rw [hv]
  unfold sdV
  rw [decide_eq_false (show ¬ k = 1048576 by omega), w64_id (show -9223372036854775808 ≤ k + 1 by omega) (by omega)]
  rfl
/-- Number, slot and acknowledgement behind i commands. -/
def stN (Ws : List Bool) : Nat → Int × Int × Bool
  | 0 => (0, 0, false)
  | i + 1 => match Ws[i]? with
    | some true => bif decide ((stN Ws i).2.1 = 0) then stN Ws i else ((stN Ws i).1 + 1, 0, true)
    | some false => ((stN Ws i).1 + 1, 10 + i, true)
    | none => stN Ws i
theorem stN_ok (Ws : List Bool) : ∀ i, 0 ≤ (stN Ws i).1 ∧ (stN Ws i).1 ≤ i ∧ 0 ≤ (stN Ws i).2.1 ∧ (stN Ws i).2.1 ≤ 9 + i ∧ ((stN Ws i).1 = 0 → (stN Ws i).2.1 = 0 ∧ (stN Ws i).2.2 = false)
  | 0 => by simp [stN]
  | i + 1 => by
    obtain ⟨h1, h2, h3, h4, h5⟩ := stN_ok Ws i
    simp only [stN]
    split
    · cases hc : decide ((stN Ws i).2.1 = 0) with
      | true => exact ⟨h1, by simp only [cond_true]; omega, h3, by simp only [cond_true]; omega, h5⟩
      | false => exact ⟨by simp only [cond_false]; omega, by simp only [cond_false]; omega, by simp, by simp only [cond_false]; omega, fun h => by simp only [cond_false] at h; omega⟩
    · exact ⟨by simp only; omega, by simp only; omega, by simp only; omega, by simp only; omega, fun h => by simp only at h; omega⟩
    · exact ⟨h1, by omega, h3, by omega, h5⟩
section
variable {k s : Int} (h0 : 1 ≤ k) (h1 : k ≤ 1000) (h2 : 0 ≤ s) (h3 : s ≤ 1000)
include h0 h1 h2 h3
theorem ack2 {m : Int} (hm : m < k) (H : Heap) : call1 T 40 (.fn 34) [.agg (b2 false k s), .int .i64 2, .int .i64 m] H = some (.tup [.agg (b2 false k s), .int .i64 0], H) := by
  have := s34 35 idX 1 [2] false 1 [true] true 1 [false] true k s (b2_ok false) 2 m H
  rw [ak2 (b2_v (by omega) h1 h2 h3 (fun h => by omega)), decide_eq_false (show ¬ m = k by omega)] at this
  exact this
theorem ack2' (H : Heap) : call1 T 40 (.fn 34) [.agg (b2 false k s), .int .i64 2, .int .i64 k] H = some (.tup [.agg (b2 true k s), .int .i64 0], H) := by
  have := s34 35 idX 1 [2] false 1 [true] true 1 [false] true k s (b2_ok false) 2 k H
  rw [ak2 (b2_v (by omega) h1 h2 h3 (fun h => by omega)), decide_eq_true (show k = k from rfl), decide_eq_true (show 0 < k by omega)] at this
  exact this
theorem agr2 (H : Heap) : call1 T 40 (.fn 30) [.agg (b2 false k s)] H = some (.bool false, H) := by
  have := s30 (i := idX) (f1 := false) (f2 := true) (f3 := true) (k := k) (s := s) (b2_ok false) 36 H
  rw [show hasB false [false] = true from rfl] at this
  rw [this]; simp
theorem agr2' (H : Heap) : call1 T 40 (.fn 30) [.agg (b2 true k s)] H = some (.bool (!decide (s = 0)), H) := by
  have := s30 (i := idX) (f1 := false) (f2 := true) (f3 := true) (k := k) (s := s) (b2_ok true) 36 H
  rw [show hasB false [true] = false from rfl, b2_v (by omega) h1 h2 h3 (fun h => by omega)] at this
  rw [this]; simp
end
theorem s7 (Ws : List Bool) (f : Bool) (old : Int) (ho : 0 ≤ old ∧ old ≤ 255) (hW : Ws.length ≤ maxLen) : call1 T 41 (.fn 7) [.lst 1 (bbS Ws) f, .int .u8 old] heap0 = some (.bool true, heap0) := by
  refine call_pure e7 (by rfl) ?_
  cases hx : decide (20 < (Ws.length : Int)) with
  | true => simp only [c7, heap0, go_sem, Int.cast_ofNat_Int, Int.reduceToNat, Bool.true_xor, Bool.false_xor, Bool.xor_true, Bool.xor_false, Nat.reduceAdd, Nat.reduceBEq, Nat.reduceLeDiff, Nat.reduceLT, Nat.reduceMul, Nat.reduceSub, Int.reduceEq, Int.reduceLT, Int.reduceLE, Int.reduceNeg, s10, hx]
  | false =>
    have hlen : Ws.length ≤ 20 := by simp only [decide_eq_false_iff_not] at hx; omega
    have h23 : ∀ H, call1 T 40 (.fn 23) [.str idX, .lst 1 [[.int .i64 2]] true] H = some (.tup [.agg (bd idX 1 [2] false 1 [false] true 1 [false] true 0 0), .int .i64 0], H) := fun H => nw2 ▸ s23 37 idX 1 [2] true (.inl rfl) (by decide) H
    have h32 : ∀ H, call1 T 40 (.fn 32) [.agg (bd idX 1 [2] false 1 [false] true 1 [false] true 0 0), .int .i64 2, .str idX] H = some (.tup [.agg (b2 false 0 0), .int .i64 0], H) := fun H => rp2 ▸ s32 35 idX 1 [2] false 1 [false] true 1 [false] true 0 0 ⟨.inl rfl, .inl rfl, .inl rfl, by decide, by decide, by decide⟩ 2 idX H
    have wo : w64 old = old := w64_id (by omega) (by omega)
    simp only [c7, heap0, go_sem, Int.cast_ofNat_Int, Int.reduceToNat, Bool.true_xor, Bool.false_xor, Bool.xor_true, Bool.xor_false, Nat.reduceAdd, Nat.reduceBEq, Nat.reduceLeDiff, Nat.reduceLT, Nat.reduceMul, Nat.reduceSub, Int.reduceEq, Int.reduceLT, Int.reduceLE, Int.reduceNeg, s10, hx, s11x, h23, h32]
    refine loop_rule (fun i => ([(1, .int .u8 old), (5, .ptr 0 0 0 0), (37, .lst 1 (bbS Ws) f), (38, .int .i64 Ws.length), (39, .int .i64 i)], ⟨[.box (b2 (stN Ws i).2.2 (stN Ws i).1 (stN Ws i).2.1)], [], 0⟩)) (fun _ => True) Ws.length ?_ trivial ?_
    · simp only [go_sem, Int.cast_ofNat_Int, Int.reduceToNat, Bool.true_xor, Bool.false_xor, Bool.xor_true, Bool.xor_false, Nat.reduceAdd, Nat.reduceBEq, Nat.reduceLeDiff, Nat.reduceLT, Nat.reduceMul, Nat.reduceSub, Int.reduceEq, Int.reduceLT, Int.reduceLE, Int.reduceNeg] <;> rfl
    · intro i hi _
      rcases Nat.lt_or_ge i Ws.length with hlt | hge
      · obtain ⟨w, hw⟩ := getS hlt
        have hs := w64_suc hlt hW
        obtain ⟨g1, g2, g3, g4, g5⟩ := stN_ok Ws i
        have hst : stN Ws (i + 1) = match some w with
          | some true => bif decide ((stN Ws i).2.1 = 0) then stN Ws i else ((stN Ws i).1 + 1, 0, true)
          | some false => ((stN Ws i).1 + 1, 10 + i, true)
          | none => stN Ws i := by rw [← hw]; rfl
        generalize hp : stN Ws i = p at *
        obtain ⟨k, s, t⟩ := p
        simp only at g1 g2 g3 g4 g5 hst
        have hv := b2_v (t := t) g1 (show k ≤ 1000 by omega) g3 (show s ≤ 1000 by omega) g5
        have h38 : ∀ H, call1 T 40 (.fn 38) [.agg (b2 t k s)] H = some (bif decide (s = 0) then .tup [.agg bdZ, .agg cmZ, .int .i64 12] else .tup [.agg (b2 false (k + 1) 0), .agg (cm (k + 1) 2 0 idX 1 [2] false), .int .i64 0], H) :=
          fun H => wd2 hv g1 (by omega) ▸ s38 34 idX 1 [2] false 1 [true] true 1 [t] true k s (b2_ok t) H
        have h36 : ∀ H, call1 T 40 (.fn 36) [.agg (b2 t k s), .int .i64 (10 + i)] H = some (.tup [.agg (b2 false (k + 1) (10 + i)), .agg (cm (k + 1) 1 (10 + i) idX 1 [2] false), .int .i64 0], H) :=
          fun H => or2 (u := 10 + i) hv g1 (by omega) (by omega) (by omega) ▸ s36 34 idX 1 [2] false 1 [true] true 1 [t] true k s (b2_ok t) (10 + i) H
        have hK : w64 (k + 1) = k + 1 := w64_id (by omega) (by omega)
        have hr0 : decide (k + 1 = 0) = false := decide_eq_false (by omega)
        have hm0 : 0 ≤ old.tmod (k + 1) := Int.tmod_nonneg _ (by omega)
        have hm1 : old.tmod (k + 1) < k + 1 := Int.tmod_lt_of_pos _ (by omega)
        have h34m := fun s' h0 h1 => ack2 (k := k + 1) (s := s') (m := old.tmod (k + 1)) (by omega) (by omega) h0 h1 (by omega)
        have h34K := fun s' h0 h1 => ack2' (k := k + 1) (s := s') (by omega) (by omega) h0 h1
        have h30f := fun s' h0 h1 => agr2 (k := k + 1) (s := s') (by omega) (by omega) h0 h1
        have h30t := fun s' h0 h1 => agr2' (k := k + 1) (s := s') (by omega) (by omega) h0 h1
        cases w with
        | true =>
          cases hc : decide (s = 0) with
          | true =>
            rw [hc] at h38 hst
            simp only [cond_true] at h38 hst
            simp only [go_sem, Int.cast_ofNat_Int, Int.reduceToNat, Bool.true_xor, Bool.false_xor, Bool.xor_true, Bool.xor_false, Nat.reduceAdd, Nat.reduceBEq, Nat.reduceLeDiff, Nat.reduceLT, Nat.reduceMul, Nat.reduceSub, Int.reduceEq, Int.reduceLT, Int.reduceLE, Int.reduceNeg, hlt, hw, hp, h38, hs, hc, hst]
            refine ⟨by first | trivial | omega, by first | trivial | rfl, trivial⟩
          | false =>
            rw [hc] at h38 hst
            simp only [cond_false] at h38 hst
            have h34m := h34m 0 (by omega) (by omega)
            have h34K := h34K 0 (by omega) (by omega)
            have h30f := h30f 0 (by omega) (by omega)
            have h30t : ∀ H, call1 T 40 (.fn 30) [.agg (b2 true (k + 1) 0)] H = some (.bool false, H) := h30t 0 (by omega) (by omega)
            simp only [go_sem, Int.cast_ofNat_Int, Int.reduceToNat, Bool.true_xor, Bool.false_xor, Bool.xor_true, Bool.xor_false, Nat.reduceAdd, Nat.reduceBEq, Nat.reduceLeDiff, Nat.reduceLT, Nat.reduceMul, Nat.reduceSub, Int.reduceEq, Int.reduceLT, Int.reduceLE, Int.reduceNeg, hlt, hw, hp, h38, hs, hc, hst, hK, dself, h30f, wo, hr0, beq_self_eq_true]
            cases hq : decide (0 < old.tmod (k + 1)) with
            | true =>
              simp only [go_sem, Int.cast_ofNat_Int, Int.reduceToNat, Bool.true_xor, Bool.false_xor, Bool.xor_true, Bool.xor_false, Nat.reduceAdd, Nat.reduceBEq, Nat.reduceLeDiff, Nat.reduceLT, Nat.reduceMul, Nat.reduceSub, Int.reduceEq, Int.reduceLT, Int.reduceLE, Int.reduceNeg, h34m, h30f, h34K, h30t, hst, hs, hq]
              refine ⟨by first | trivial | omega, by first | trivial | rfl, trivial⟩
            | false =>
              simp only [go_sem, Int.cast_ofNat_Int, Int.reduceToNat, Bool.true_xor, Bool.false_xor, Bool.xor_true, Bool.xor_false, Nat.reduceAdd, Nat.reduceBEq, Nat.reduceLeDiff, Nat.reduceLT, Nat.reduceMul, Nat.reduceSub, Int.reduceEq, Int.reduceLT, Int.reduceLE, Int.reduceNeg, h34K, h30t, hst, hs, hq]
              refine ⟨by first | trivial | omega, by first | trivial | rfl, trivial⟩
        | false =>
          have w1 : w64 (10 + (i : Int)) = 10 + i := w64_id (by omega) (by omega)
          have hz : decide ((10 : Int) + i = 0) = false := decide_eq_false (by omega)
          have h34m := h34m (10 + i) (by omega) (by omega)
          have h34K := h34K (10 + i) (by omega) (by omega)
          have h30f := h30f (10 + i) (by omega) (by omega)
          have h30t : ∀ H, call1 T 40 (.fn 30) [.agg (b2 true (k + 1) (10 + i))] H = some (.bool true, H) := by
            have := h30t (10 + i) (by omega) (by omega)
            rw [hz] at this
            exact this
          simp only at hst
          simp only [go_sem, Int.cast_ofNat_Int, Int.reduceToNat, Bool.true_xor, Bool.false_xor, Bool.xor_true, Bool.xor_false, Nat.reduceAdd, Nat.reduceBEq, Nat.reduceLeDiff, Nat.reduceLT, Nat.reduceMul, Nat.reduceSub, Int.reduceEq, Int.reduceLT, Int.reduceLE, Int.reduceNeg, hlt, hw, hp, h36, hs, hst, hK, dself, h30f, wo, hr0, w1, hz, beq_self_eq_true]
          cases hq : decide (0 < old.tmod (k + 1)) with
          | true =>
            simp only [go_sem, Int.cast_ofNat_Int, Int.reduceToNat, Bool.true_xor, Bool.false_xor, Bool.xor_true, Bool.xor_false, Nat.reduceAdd, Nat.reduceBEq, Nat.reduceLeDiff, Nat.reduceLT, Nat.reduceMul, Nat.reduceSub, Int.reduceEq, Int.reduceLT, Int.reduceLE, Int.reduceNeg, h34m, h30f, h34K, h30t, hst, hs, hq]
            refine ⟨by first | trivial | omega, by first | trivial | rfl, trivial⟩
          | false =>
            simp only [go_sem, Int.cast_ofNat_Int, Int.reduceToNat, Bool.true_xor, Bool.false_xor, Bool.xor_true, Bool.xor_false, Nat.reduceAdd, Nat.reduceBEq, Nat.reduceLeDiff, Nat.reduceLT, Nat.reduceMul, Nat.reduceSub, Int.reduceEq, Int.reduceLT, Int.reduceLE, Int.reduceNeg, h34K, h30t, hst, hs, hq]
            refine ⟨by first | trivial | omega, by first | trivial | rfl, trivial⟩
      · obtain rfl : i = Ws.length := by omega
        have hd : decide (Ws.length < Ws.length) = false := decide_eq_false (by omega)
        simp only [go_sem, Int.cast_ofNat_Int, Int.reduceToNat, Bool.true_xor, Bool.false_xor, Bool.xor_true, Bool.xor_false, Nat.reduceAdd, Nat.reduceBEq, Nat.reduceLeDiff, Nat.reduceLT, Nat.reduceMul, Nat.reduceSub, Int.reduceEq, Int.reduceLT, Int.reduceLE, Int.reduceNeg, hd]
theorem law7 (xs : List SV) (h : FitsAll [(false, [.lst [.bool]]), (false, [.int .u8])] xs) : ∃ m, call1 T m (.fn 7) xs heap0 = some (.bool true, heap0) := by
  obtain ⟨x1, r1, rfl, h1, h⟩ := fitsAll_cons h
  obtain ⟨x2, r2, rfl, h2, h⟩ := fitsAll_cons h
  cases fitsAll_nil h
  obtain ⟨L, f, rfl, hL, q⟩ := fits_lst (fitsA_one h1)
  obtain ⟨W, rfl⟩ := bbS_of q
  obtain ⟨o, rfl, ho⟩ := fits_int (fitsA_one h2)
  exact ⟨41, s7 W f o (u8_wf ho) (by rw [bbS_len] at hL; exact hL)⟩
end Go.Sh
namespace Go.Sh
set_option linter.unusedSectionVars false
set_option linter.unnecessarySimpa false
set_option linter.unusedVariables false
set_option linter.unusedSimpArgs false
set_option maxRecDepth 100000
set_option maxHeartbeats 4000000
/-- A delivery. -/
abbrev Dl := Int × Int × Int
def dlR (r : Dl) : List SV := [.int .u8 r.1, .int .u8 r.2.1, .int .u8 r.2.2]
def dS (M : List Dl) : List (List SV) := M.map dlR
@[go_sem] theorem dS_len {M : List Dl} : (dS M).length = M.length := by simp [dS]
@[go_sem] theorem dS_get (M : List Dl) (i : Nat) : (dS M)[i]? = (M[i]?).map dlR := by simp [dS]
theorem dS_set (M : List Dl) (i : Nat) (r : Dl) : (dS M).set i (dlR r) = dS (M.set i r) := by simp [dS, List.map_set]
theorem dS_refs (M : List Dl) : SV.refs.refsL (dS M).flatten = 0 := by
  refine refs_flat (fun cs hcs c hc => ?_)
  simp only [dS, List.mem_map] at hcs
  obtain ⟨r, _, rfl⟩ := hcs
  simp only [dlR, List.mem_cons, List.mem_nil_iff, or_false] at hc
  rcases hc with rfl | rfl | rfl <;> rfl
abbrev dH (M : List Dl) : Heap := ⟨[.arr 0 3 (dS M) false], [], 0⟩
/-- The same deliveries, or fewer of them, in as many places. -/
def Sub (M' M : List Dl) : Prop := M'.length = M.length ∧ ∀ r ∈ M', r ∈ M
theorem Sub.refl (M : List Dl) : Sub M M := ⟨rfl, fun _ h => h⟩
theorem Sub.trans {A B C : List Dl} (h : Sub A B) (h' : Sub B C) : Sub A C := ⟨h.1.trans h'.1, fun r hr => h'.2 r (h.2 r hr)⟩
theorem Sub.set {M' M : List Dl} (h : Sub M' M) (i : Nat) {r : Dl} (hr : r ∈ M) : Sub (M'.set i r) M := ⟨by rw [List.length_set]; exact h.1, fun q hq => by
  rcases List.mem_or_eq_of_mem_set hq with h1 | h1
  · exact h.2 q h1
  · subst h1; exact hr⟩
def cmpD (a b : Dl) : Int := w64 (w64 a.2.2 - w64 b.2.2)
theorem s66 (n : Nat) (H : Heap) (a b : Dl) : call1 T (n + 1) (.fn 66) [.agg (dlR a), .agg (dlR b)] H = some (.int .i64 (cmpD a b), H) := by
  refine call_pure e66 (by rfl) ?_
  simp only [c66, heap0, go_sem, Int.cast_ofNat_Int, Int.reduceToNat, Bool.true_xor, Bool.false_xor, Bool.xor_true, Bool.xor_false, Nat.reduceAdd, Nat.reduceBEq, Nat.reduceLeDiff, Nat.reduceLT, Nat.reduceMul, Nat.reduceSub, Int.reduceEq, Int.reduceLT, Int.reduceLE, Int.reduceNeg, dlR, cmpD]
/-- Two deliveries change places. -/
def sw (M : List Dl) (i j : Nat) : List Dl := match M[i]?, M[j]? with
  | some x, some y => (M.set i y).set j x
  | _, _ => M
theorem sw_len (M : List Dl) (i j : Nat) : (sw M i j).length = M.length := by
  unfold sw
  split <;> simp
theorem sw_sub (M : List Dl) (i j : Nat) : Sub (sw M i j) M := by
  unfold sw
  split
  · rename_i x y hx hy
    exact ((Sub.refl M).set i (List.mem_of_getElem? hy)).set j (List.mem_of_getElem? hx)
  · exact Sub.refl M
theorem sw_eq {M : List Dl} {i j : Nat} {x y : Dl} (hx : M[i]? = some x) (hy : M[j]? = some y) : sw M i j = (M.set i y).set j x := by unfold sw; rw [hx, hy]
def swR (M : List Dl) (a b : Nat) : Nat → List Dl
  | 0 => M
  | i + 1 => sw (swR M a b i) (a + i) (b + i)
theorem swR_len (M : List Dl) (a b : Nat) : ∀ i, (swR M a b i).length = M.length
  | 0 => rfl
  | i + 1 => (sw_len _ _ _).trans (swR_len M a b i)
theorem swR_sub (M : List Dl) (a b : Nat) : ∀ i, Sub (swR M a b i) M
  | 0 => Sub.refl M
  | i + 1 => (sw_sub _ _ _).trans (swR_sub M a b i)
theorem drefs (r : Dl) : SV.refs.refsL (dlR r) = 0 := rfl
theorem dlen3 (r : Dl) : (dlR r).length = 3 := rfl
theorem dtake3 (r : Dl) : List.take 3 (dlR r) = dlR r := rfl
theorem ddrop3 (r : Dl) : List.drop 3 (dlR r) = [] := rfl
theorem s90 (k : Nat) (M : List Dl) (a b n : Nat) (ha : a + n ≤ M.length) (hb : b + n ≤ M.length) (hM : M.length ≤ 1000) : call1 T (k + 1) (.fn 90) [.slc 0 0 0 M.length, .int .i64 a, .int .i64 b, .int .i64 n, .fn 66 []] (dH M) = some (.tup [], dH (swR M a b n)) := by
  refine call_in e90 (by rfl) ?_
  simp only [c90, go_sem, Int.cast_ofNat_Int, Int.reduceToNat, Bool.true_xor, Bool.false_xor, Bool.xor_true, Bool.xor_false, Nat.reduceAdd, Nat.reduceBEq, Nat.reduceLeDiff, Nat.reduceLT, Nat.reduceMul, Nat.reduceSub, Int.reduceEq, Int.reduceLT, Int.reduceLE, Int.reduceNeg]
  refine loop_rule (fun i => ([(0, .slc 0 0 0 M.length), (1, .int .i64 a), (2, .int .i64 b), (3, .int .i64 n), (10, .int .i64 i)], ⟨[.arr 0 3 (dS (swR M a b i)) false], [], 0⟩)) (fun _ => True) n ?_ trivial ?_
  · simp only [go_sem, Int.cast_ofNat_Int, Int.reduceToNat, Bool.true_xor, Bool.false_xor, Bool.xor_true, Bool.xor_false, Nat.reduceAdd, Nat.reduceBEq, Nat.reduceLeDiff, Nat.reduceLT, Nat.reduceMul, Nat.reduceSub, Int.reduceEq, Int.reduceLT, Int.reduceLE, Int.reduceNeg] <;> rfl
  · intro i hi _
    rcases Nat.lt_or_ge i n with hlt | hge
    · have hs := w64_suc hlt (Nat.le_trans (show n ≤ 1000 by omega) mx)
      have a1 : w64 ((a : Int) + (i : Nat)) = ((a + i : Nat) : Int) := by rw [w64_id (by omega) (by omega)]; omega
      have a2 : w64 ((b : Int) + (i : Nat)) = ((b + i : Nat) : Int) := by rw [w64_id (by omega) (by omega)]; omega
      have hl := swR_len M a b i
      obtain ⟨x, hx⟩ := getS (show a + i < (swR M a b i).length by omega)
      obtain ⟨y, hy⟩ := getS (show b + i < (swR M a b i).length by omega)
      have l1 : a + i < M.length := by omega
      have l2 : b + i < M.length := by omega
      have hsw : swR M a b (i + 1) = ((swR M a b i).set (a + i) y).set (b + i) x := sw_eq hx hy
      have hg2 : ((swR M a b i).set (a + i) y)[b + i]? = some (if a + i = b + i then y else y) := by
        by_cases e : a + i = b + i
        · rw [e, List.getElem?_set_self (by omega)]; simp
        · rw [List.getElem?_set_ne e, hy]; simp
      simp only [ite_self] at hg2
      simp only [go_sem, Int.cast_ofNat_Int, Int.reduceToNat, Bool.true_xor, Bool.false_xor, Bool.xor_true, Bool.xor_false, Nat.reduceAdd, Nat.reduceBEq, Nat.reduceLeDiff, Nat.reduceLT, Nat.reduceMul, Nat.reduceSub, Int.reduceEq, Int.reduceLT, Int.reduceLE, Int.reduceNeg, hlt, a1, a2, l1, l2, hl, hx, hy, hs, dlen3, dtake3, ddrop3, List.append_nil, dS_set, List.length_set, hg2, ← hsw, drefs]
      refine ⟨by first | trivial | omega, by first | trivial | rfl, trivial⟩
    · obtain rfl : i = n := by omega
      have hd : decide (i < i) = false := decide_eq_false (by omega)
      simp only [go_sem, Int.cast_ofNat_Int, Int.reduceToNat, Bool.true_xor, Bool.false_xor, Bool.xor_true, Bool.xor_false, Nat.reduceAdd, Nat.reduceBEq, Nat.reduceLeDiff, Nat.reduceLT, Nat.reduceMul, Nat.reduceSub, Int.reduceEq, Int.reduceLT, Int.reduceLE, Int.reduceNeg, hd]
/-! Insertion. -/
def lessAt (M : List Dl) (i j : Nat) : Bool := match M[i]?, M[j]? with
  | some x, some y => decide (cmpD x y < 0)
  | _, _ => false
theorem lessAt_eq {M : List Dl} {i j : Nat} {x y : Dl} (hx : M[i]? = some x) (hy : M[j]? = some y) : lessAt M i j = decide (cmpD x y < 0) := by unfold lessAt; rw [hx, hy]
def insI (a : Nat) : Nat → List Dl → List Dl
  | 0, M => M
  | j + 1, M => bif decide (a < j + 1) && lessAt M (j + 1) j then insI a j (sw M (j + 1) j) else M
theorem insI_sub (a : Nat) : ∀ j M, Sub (insI a j M) M
  | 0, M => Sub.refl M
  | j + 1, M => by
    unfold insI
    cases decide (a < j + 1) && lessAt M (j + 1) j
    · exact Sub.refl M
    · exact (insI_sub a j _).trans (sw_sub _ _ _)
def insQ (M : List Dl) (j : Nat) : Nat → List Dl
  | 0 => M
  | q + 1 => sw (insQ M j q) (j - q) (j - q - 1)
theorem insQ_len (M : List Dl) (j : Nat) : ∀ q, (insQ M j q).length = M.length
  | 0 => rfl
  | q + 1 => (sw_len _ _ _).trans (insQ_len M j q)
def insS (M : List Dl) (a : Nat) : Nat → List Dl
  | 0 => M
  | i + 1 => insI a (a + 1 + i) (insS M a i)
theorem insS_sub (M : List Dl) (a : Nat) : ∀ i, Sub (insS M a i) M
  | 0 => Sub.refl M
  | i + 1 => (insI_sub _ _ _).trans (insS_sub M a i)
theorem s85 (k : Nat) (M : List Dl) (a b : Nat) (hab : a ≤ b) (hb : b ≤ M.length) (hM : M.length ≤ 1000) : call1 T (k + 2) (.fn 85) [.slc 0 0 0 M.length, .int .i64 a, .int .i64 b, .fn 66 []] (dH M) = some (.tup [], dH (insS M a (b - (a + 1)))) := by
  refine call_in e85 (by rfl) ?_
  have a0 : w64 ((a : Int) + 1) = ((a + 1 + 0 : Nat) : Int) := by rw [w64_id (by omega) (by omega)]; omega
  simp only [c85, go_sem, Int.cast_ofNat_Int, Int.reduceToNat, Bool.true_xor, Bool.false_xor, Bool.xor_true, Bool.xor_false, Nat.reduceAdd, Nat.reduceBEq, Nat.reduceLeDiff, Nat.reduceLT, Nat.reduceMul, Nat.reduceSub, Int.reduceEq, Int.reduceLT, Int.reduceLE, Int.reduceNeg, a0]
  refine loop_rule (fun i => ([(0, .slc 0 0 0 M.length), (1, .int .i64 a), (2, .int .i64 b), (3, .fn 66 []), (8, .int .i64 (a + 1 + i : Nat))], dH (insS M a i))) (fun _ => True) (b - (a + 1)) ?_ trivial ?_
  · simp only [go_sem, Int.cast_ofNat_Int, Int.reduceToNat, Bool.true_xor, Bool.false_xor, Bool.xor_true, Bool.xor_false, Nat.reduceAdd, Nat.reduceBEq, Nat.reduceLeDiff, Nat.reduceLT, Nat.reduceMul, Nat.reduceSub, Int.reduceEq, Int.reduceLT, Int.reduceLE, Int.reduceNeg] <;> rfl
  · intro i hi _
    rcases Nat.lt_or_ge i (b - (a + 1)) with hlt | hge
    · have hlen := (insS_sub M a i).1
      have hj : a + 1 + i < b := by omega
      have w1 : w64 (((a + 1 + i : Nat) : Int) + 1) = ((a + 1 + (i + 1) : Nat) : Int) := by rw [w64_id (by omega) (by omega)]; omega
      simp only [go_sem, Int.cast_ofNat_Int, Int.reduceToNat, Bool.true_xor, Bool.false_xor, Bool.xor_true, Bool.xor_false, Nat.reduceAdd, Nat.reduceBEq, Nat.reduceLeDiff, Nat.reduceLT, Nat.reduceMul, Nat.reduceSub, Int.reduceEq, Int.reduceLT, Int.reduceLE, Int.reduceNeg, hj]
      generalize hR : insS M a i = R at *
      have hSi : insS M a (i + 1) = insI a (a + 1 + i) R := by rw [← hR]; rfl
      generalize hJ : a + 1 + i = J at *
      refine loop_post (fun q => ([(0, .slc 0 0 0 M.length), (1, .int .i64 a), (2, .int .i64 b), (3, .fn 66 []), (8, .int .i64 J), (9, .int .i64 ((J - q : Nat) : Int))], dH (insQ R J q))) (fun q => insI a (J - q) (insQ R J q) = insI a J R) J ?_ ?_ ?_
      · simp only [go_sem, Int.cast_ofNat_Int, Int.reduceToNat, Bool.true_xor, Bool.false_xor, Bool.xor_true, Bool.xor_false, Nat.reduceAdd, Nat.reduceBEq, Nat.reduceLeDiff, Nat.reduceLT, Nat.reduceMul, Nat.reduceSub, Int.reduceEq, Int.reduceLT, Int.reduceLE, Int.reduceNeg] <;> rfl
      · rfl
      · intro q hq hP
        have hXl := (insQ_len R J q).trans hlen
        generalize hX : insQ R J q = X at *
        generalize hj' : J - q = j at *
        have wo : ∀ j' : Nat, j = j' + 1 → w64 ((j : Int) - 1) = (j' : Nat) := fun j' h => by rw [w64_id (by omega) (by omega)]; omega
        have exit1 : (bif decide (a < j) && lessAt X j (j - 1) then true else false) = false → insS M a (i + 1) = X := by
          intro h
          rw [hSi, ← hP]
          cases j with
          | zero => rfl
          | succ j =>
            unfold insI
            simp only [Nat.add_sub_cancel] at h
            cases hc : (decide (a < j + 1) && lessAt X (j + 1) j) with
            | false => rfl
            | true => rw [hc] at h; cases h
        cases h1 : decide (a < j) with
        | false =>
          have hf := exit1 (by rw [h1]; rfl)
          simp only [go_sem, Int.cast_ofNat_Int, Int.reduceToNat, Bool.true_xor, Bool.false_xor, Bool.xor_true, Bool.xor_false, Nat.reduceAdd, Nat.reduceBEq, Nat.reduceLeDiff, Nat.reduceLT, Nat.reduceMul, Nat.reduceSub, Int.reduceEq, Int.reduceLT, Int.reduceLE, Int.reduceNeg, hX, hj', h1, w1, hf]
          exact ⟨by first | trivial | omega, by first | trivial | rfl, trivial⟩
        | true =>
          simp only [decide_eq_true_eq] at h1
          obtain ⟨j', rfl⟩ : ∃ j', j = j' + 1 := ⟨j - 1, by omega⟩
          have hw := wo j' rfl
          have l1 : j' + 1 < M.length := by omega
          have l2 : j' < M.length := by omega
          obtain ⟨x, hx⟩ := getS (show j' + 1 < X.length by omega)
          obtain ⟨y, hy⟩ := getS (show j' < X.length by omega)
          have hd1 : decide (a < j' + 1) = true := decide_eq_true h1
          cases h2 : decide (cmpD x y < 0) with
          | false =>
            have hf := exit1 (by rw [Nat.add_sub_cancel, lessAt_eq hx hy, h2, hd1]; rfl)
            simp only [go_sem, Int.cast_ofNat_Int, Int.reduceToNat, Bool.true_xor, Bool.false_xor, Bool.xor_true, Bool.xor_false, Nat.reduceAdd, Nat.reduceBEq, Nat.reduceLeDiff, Nat.reduceLT, Nat.reduceMul, Nat.reduceSub, Int.reduceEq, Int.reduceLT, Int.reduceLE, Int.reduceNeg, hX, hj', hd1, hw, l1, l2, hXl, hx, hy, dlen3, dtake3, s66, h2, w1, hf]
            exact ⟨by first | trivial | omega, by first | trivial | rfl, trivial⟩
          | true =>
            have hsw : sw X (j' + 1) j' = (X.set (j' + 1) y).set j' x := sw_eq hx hy
            have hg2 : (X.set (j' + 1) y)[j']? = some y := by rw [List.getElem?_set_ne (by omega), hy]
            have e1 : J - (q + 1) = j' := by omega
            have e2 : insQ R J (q + 1) = sw X (j' + 1) j' := by
              show sw (insQ R J q) (J - q) (J - q - 1) = _
              rw [hX, hj', Nat.add_sub_cancel]
            have e3 : insI a j' (sw X (j' + 1) j') = insI a J R := by
              rw [← hP]
              conv => rhs; unfold insI
              rw [lessAt_eq hx hy, h2, hd1]
              rfl
            simp only [go_sem, Int.cast_ofNat_Int, Int.reduceToNat, Bool.true_xor, Bool.false_xor, Bool.xor_true, Bool.xor_false, Nat.reduceAdd, Nat.reduceBEq, Nat.reduceLeDiff, Nat.reduceLT, Nat.reduceMul, Nat.reduceSub, Int.reduceEq, Int.reduceLT, Int.reduceLE, Int.reduceNeg, hX, hj', hd1, hw, l1, l2, hXl, hx, hy, dlen3, dtake3, ddrop3, drefs, s66, h2, List.append_nil, dS_set, List.length_set, hg2, ← hsw, e1, e2, e3]
            exact ⟨by first | trivial | omega, by first | trivial | rfl, trivial⟩
    · obtain rfl : i = b - (a + 1) := by omega
      have hd : decide (a + 1 + (b - (a + 1)) < b) = false := decide_eq_false (by omega)
      simp only [go_sem, Int.cast_ofNat_Int, Int.reduceToNat, Bool.true_xor, Bool.false_xor, Bool.xor_true, Bool.xor_false, Nat.reduceAdd, Nat.reduceBEq, Nat.reduceLeDiff, Nat.reduceLT, Nat.reduceMul, Nat.reduceSub, Int.reduceEq, Int.reduceLT, Int.reduceLE, Int.reduceNeg, hd]
end Go.Sh
namespace Go.Sh
set_option linter.unusedSectionVars false
set_option linter.unnecessarySimpa false
set_option linter.unusedVariables false
set_option linter.unusedSimpArgs false
set_option maxRecDepth 100000
set_option maxHeartbeats 4000000
theorem call_inP {T : FuncId → Option Fun1} {f : FuncId} {F : Fun1} {xs : List SV} {n : Nat} {H : Heap} {Q : SV × Heap → Prop} (hT : T f = some F) (hp : pure0 F xs = false)
    (h : post (runK (call1 T n) (fin1 F.res (fun v H' => leave1 F.keep H v H')) F.body [] (env0 xs) ⟨H.bl, [], min H.ro H.bl.length⟩ ()) Q) : ∃ r, call1 T (n + 1) (.fn f) xs H = some r ∧ Q r := by
  obtain ⟨r, h1, h2⟩ := h
  exact ⟨r, call_in hT hp h1, h2⟩
/-- One step of a rotation. -/
def roN (m : Nat) (p : List Dl × Nat × Nat) : List Dl × Nat × Nat :=
  bif decide (p.2.2 < p.2.1) then (swR p.1 (m - p.2.1) m p.2.2, p.2.1 - p.2.2, p.2.2) else (swR p.1 (m - p.2.1) (m + p.2.2 - p.2.1) p.2.1, p.2.1, p.2.2 - p.2.1)
def roQ (m : Nat) (p : List Dl × Nat × Nat) : Nat → List Dl × Nat × Nat
  | 0 => p
  | q + 1 => roN m (roQ m p q)
def SubR (M : List Dl) (r : SV × Heap) : Prop := ∃ M', Sub M' M ∧ r = (.tup [], dH M')
theorem s89 (k : Nat) (M : List Dl) (a m b : Nat) (h1 : a < m) (h2 : m < b) (hb : b ≤ M.length) (hM : M.length ≤ 1000) : ∃ M', Sub M' M ∧ call1 T (k + 2) (.fn 89) [.slc 0 0 0 M.length, .int .i64 a, .int .i64 m, .int .i64 b, .fn 66 []] (dH M) = some (.tup [], dH M') := by
  suffices h : ∃ r, call1 T (k + 2) (.fn 89) [.slc 0 0 0 M.length, .int .i64 a, .int .i64 m, .int .i64 b, .fn 66 []] (dH M) = some r ∧ SubR M r by
    obtain ⟨r, h3, M', h4, rfl⟩ := h
    exact ⟨M', h4, h3⟩
  refine call_inP e89 (by rfl) ?_
  have a0 : w64 ((m : Int) - a) = ((m - a : Nat) : Int) := by rw [w64_id (by omega) (by omega)]; omega
  have a1 : w64 ((b : Int) - m) = ((b - m : Nat) : Int) := by rw [w64_id (by omega) (by omega)]; omega
  simp only [c89, go_sem, Int.cast_ofNat_Int, Int.reduceToNat, Bool.true_xor, Bool.false_xor, Bool.xor_true, Bool.xor_false, Nat.reduceAdd, Nat.reduceBEq, Nat.reduceLeDiff, Nat.reduceLT, Nat.reduceMul, Nat.reduceSub, Int.reduceEq, Int.reduceLT, Int.reduceLE, Int.reduceNeg, a0, a1]
  refine loop_post (fun q => ([(0, .slc 0 0 0 M.length), (2, .int .i64 m), (4, .fn 66 []), (10, .int .i64 (roQ m (M, m - a, b - m) q).2.1), (11, .int .i64 (roQ m (M, m - a, b - m) q).2.2)], dH (roQ m (M, m - a, b - m) q).1))
    (fun q => let p := roQ m (M, m - a, b - m) q; Sub p.1 M ∧ 1 ≤ p.2.1 ∧ p.2.1 ≤ m - a ∧ 1 ≤ p.2.2 ∧ p.2.2 ≤ b - m ∧ p.2.1 + p.2.2 + q ≤ b - a) (b - a) ?_ ?_ ?_
  · simp only [go_sem, Int.cast_ofNat_Int, Int.reduceToNat, Bool.true_xor, Bool.false_xor, Bool.xor_true, Bool.xor_false, Nat.reduceAdd, Nat.reduceBEq, Nat.reduceLeDiff, Nat.reduceLT, Nat.reduceMul, Nat.reduceSub, Int.reduceEq, Int.reduceLT, Int.reduceLE, Int.reduceNeg] <;> rfl
  · exact ⟨Sub.refl M, by show 1 ≤ m - a; omega, Nat.le_refl _, by show 1 ≤ b - m; omega, Nat.le_refl _, by show m - a + (b - m) + 0 ≤ b - a; omega⟩
  · intro q hq hP
    have hst : roQ m (M, m - a, b - m) (q + 1) = roN m (roQ m (M, m - a, b - m) q) := rfl
    generalize hp : roQ m (M, m - a, b - m) q = p at *
    obtain ⟨X, i, j⟩ := p
    simp only at hP
    obtain ⟨p1, p2, p3, p4, p5, p6⟩ := hP
    have hXl := p1.1
    have b1 : w64 ((m : Int) - i) = ((m - i : Nat) : Int) := by rw [w64_id (by omega) (by omega)]; omega
    cases hij : decide (i = j) with
    | true =>
      simp only [decide_eq_true_eq] at hij
      subst hij
      have h90 := s90 k X (m - i) m i (by omega) (by omega) (by omega)
      rw [hXl] at h90
      simp only [go_sem, Int.cast_ofNat_Int, Int.reduceToNat, Bool.true_xor, Bool.false_xor, Bool.xor_true, Bool.xor_false, Nat.reduceAdd, Nat.reduceBEq, Nat.reduceLeDiff, Nat.reduceLT, Nat.reduceMul, Nat.reduceSub, Int.reduceEq, Int.reduceLT, Int.reduceLE, Int.reduceNeg, hp, dself, b1, h90]
      exact ⟨_, (swR_sub X (m - i) m i).trans p1, rfl⟩
    | false =>
      have hne : i ≠ j := by simpa using hij
      have hij2 : decide ((i : Int) = j) = false := decide_eq_false (by omega)
      cases hgt : decide (j < i) with
      | true =>
        simp only [decide_eq_true_eq] at hgt
        have hgt2 : decide (j < i) = true := decide_eq_true hgt
        have h90 := s90 k X (m - i) m j (by omega) (by omega) (by omega)
        rw [hXl] at h90
        have b2 : w64 ((i : Int) - j) = ((i - j : Nat) : Int) := by rw [w64_id (by omega) (by omega)]; omega
        have hst2 : roN m (X, i, j) = (swR X (m - i) m j, i - j, j) := by unfold roN; rw [hgt2]; rfl
        simp only [go_sem, Int.cast_ofNat_Int, Int.reduceToNat, Bool.true_xor, Bool.false_xor, Bool.xor_true, Bool.xor_false, Nat.reduceAdd, Nat.reduceBEq, Nat.reduceLeDiff, Nat.reduceLT, Nat.reduceMul, Nat.reduceSub, Int.reduceEq, Int.reduceLT, Int.reduceLE, Int.reduceNeg, hp, hij, hij2, b1, hgt2, h90, b2, hst, hst2]
        exact ⟨by omega, rfl, (swR_sub X (m - i) m j).trans p1, by omega, by omega, by omega, by omega, by omega⟩
      | false =>
        have hlt : i < j := by simp only [decide_eq_false_iff_not] at hgt; omega
        have h90 := s90 k X (m - i) (m + j - i) i (by omega) (by omega) (by omega)
        rw [hXl] at h90
        have b2 : w64 ((j : Int) - i) = ((j - i : Nat) : Int) := by rw [w64_id (by omega) (by omega)]; omega
        have b3 : w64 ((m : Int) + j) = ((m + j : Nat) : Int) := by rw [w64_id (by omega) (by omega)]; omega
        have b4 : w64 (((m + j : Nat) : Int) - i) = ((m + j - i : Nat) : Int) := by rw [w64_id (by omega) (by omega)]; omega
        have hst2 : roN m (X, i, j) = (swR X (m - i) (m + j - i) i, i, j - i) := by unfold roN; rw [hgt]; rfl
        simp only [go_sem, Int.cast_ofNat_Int, Int.reduceToNat, Bool.true_xor, Bool.false_xor, Bool.xor_true, Bool.xor_false, Nat.reduceAdd, Nat.reduceBEq, Nat.reduceLeDiff, Nat.reduceLT, Nat.reduceMul, Nat.reduceSub, Int.reduceEq, Int.reduceLT, Int.reduceLE, Int.reduceNeg, hp, hij, hij2, b1, hgt, h90, b2, b3, b4, hst, hst2]
        exact ⟨by omega, rfl, (swR_sub X (m - i) (m + j - i) i).trans p1, by omega, by omega, by omega, by omega, by omega⟩
end Go.Sh
