

import Derived.Test.YtomapffoalmodaaC1
namespace Go.Sh
set_option linter.unusedSectionVars false
set_option linter.unnecessarySimpa false
set_option linter.unusedVariables false
set_option linter.unusedSimpArgs false
set_option maxRecDepth 100000
set_option maxHeartbeats 4000000
def idB (s : ByteArray) : Bool := decide ((s.size : Int) = 32)
theorem s42 (n : Nat) (H : Heap) (s : ByteArray) : call1 T (n + 1) (.fn 42) [.str s] H = some (.bool (idB s), H) := by
  refine call_pure e42 (by rfl) ?_
  simp only [c42, heap0, go_sem, Int.cast_ofNat_Int, Int.reduceToNat, Bool.true_xor, Bool.false_xor, Bool.xor_true, Bool.xor_false, Nat.reduceAdd, Nat.reduceBEq, Nat.reduceLeDiff, Nat.reduceLT, Nat.reduceMul, Nat.reduceSub, Int.reduceEq, Int.reduceLT, Int.reduceLE, Int.reduceNeg, idB]
theorem s56 (n : Nat) (H : Heap) (s : ByteArray) : call1 T (n + 1) (.fn 56) [.str s] H = some (.bool (idB s), H) := by
  refine call_pure e56 (by rfl) ?_
  simp only [c56, heap0, go_sem, Int.cast_ofNat_Int, Int.reduceToNat, Bool.true_xor, Bool.false_xor, Bool.xor_true, Bool.xor_false, Nat.reduceAdd, Nat.reduceBEq, Nat.reduceLeDiff, Nat.reduceLT, Nat.reduceMul, Nat.reduceSub, Int.reduceEq, Int.reduceLT, Int.reduceLE, Int.reduceNeg, idB]
/-- A device. -/
abbrev dv (r c : ByteArray) (a : Bool) (x : ByteArray) (s k : Int) : List SV := [.str r, .str c, .bool a, .str x, .int .i64 s, .int .i64 k]
theorem s43 (n : Nat) (H : Heap) (r c : ByteArray) (a : Bool) (x : ByteArray) (s k : Int) : call1 T (n + 1) (.fn 43) [.agg (dv r c a x s k)] H = some (.agg (dv r c false ⟨#[]⟩ 0 k), H) := by
  refine call_pure e43 (by rfl) ?_
  simp only [c43, heap0, go_sem, Int.cast_ofNat_Int, Int.reduceToNat, Bool.true_xor, Bool.false_xor, Bool.xor_true, Bool.xor_false, Nat.reduceAdd, Nat.reduceBEq, Nat.reduceLeDiff, Nat.reduceLT, Nat.reduceMul, Nat.reduceSub, Int.reduceEq, Int.reduceLT, Int.reduceLE, Int.reduceNeg, dv]
def emB (s : ByteArray) : Bool := decide (s = ⟨#[]⟩) || idB s
theorem s47 (n : Nat) (H : Heap) (s : ByteArray) : call1 T (n + 2) (.fn 47) [.str s] H = some (.bool (emB s), H) := by
  refine call_pure e47 (by rfl) ?_
  simp only [c47, heap0, go_sem, Int.cast_ofNat_Int, Int.reduceToNat, Bool.true_xor, Bool.false_xor, Bool.xor_true, Bool.xor_false, Nat.reduceAdd, Nat.reduceBEq, Nat.reduceLeDiff, Nat.reduceLT, Nat.reduceMul, Nat.reduceSub, Int.reduceEq, Int.reduceLT, Int.reduceLE, Int.reduceNeg, s42, emB]
  repeat' (with_reducible refine fork_split (fun _ => ?_) (fun _ => ?_) <;> simp only [*, go_sem, Int.cast_ofNat_Int, Int.reduceToNat, Bool.true_xor, Bool.false_xor, Bool.xor_true, Bool.xor_false, Nat.reduceAdd, Nat.reduceBEq, Nat.reduceLeDiff, Nat.reduceLT, Nat.reduceMul, Nat.reduceSub, Int.reduceEq, Int.reduceLT, Int.reduceLE, Int.reduceNeg, s42])
/-- Whether a device is right. -/
def dvB (r c : ByteArray) (a : Bool) (x : ByteArray) (s k : Int) : Bool :=
  emB r && emB c && decide (0 ≤ k) && decide (k ≤ 1048576) && bif a then idB x && decide (x = c) && decide (1 ≤ s) && decide (s ≤ 1073741824) else decide (x = ⟨#[]⟩) && decide (s = 0)
end Go.Sh
namespace Go.Sh
set_option linter.unusedSectionVars false
set_option linter.unnecessarySimpa false
set_option linter.unusedVariables false
set_option linter.unusedSimpArgs false
set_option maxRecDepth 100000
set_option maxHeartbeats 4000000
theorem s16 (n : Nat) (H : Heap) (r c : ByteArray) (a : Bool) (x : ByteArray) (s k : Int) : call1 T (n + 3) (.fn 16) [.agg (dv r c a x s k)] H = some (.int .i64 (bif dvB r c a x s k then 0 else 1), H) := by
  refine call_pure e16 (by rfl) ?_
  simp only [c16, heap0, go_sem, Int.cast_ofNat_Int, Int.reduceToNat, Bool.true_xor, Bool.false_xor, Bool.xor_true, Bool.xor_false, Nat.reduceAdd, Nat.reduceBEq, Nat.reduceLeDiff, Nat.reduceLT, Nat.reduceMul, Nat.reduceSub, Int.reduceEq, Int.reduceLT, Int.reduceLE, Int.reduceNeg, s42, s47, dv]
  cases hx : idB x <;> cases hr : emB r <;> cases hc : emB c <;> cases a <;> simp only [go_sem, Int.cast_ofNat_Int, Int.reduceToNat, Bool.true_xor, Bool.false_xor, Bool.xor_true, Bool.xor_false, Nat.reduceAdd, Nat.reduceBEq, Nat.reduceLeDiff, Nat.reduceLT, Nat.reduceMul, Nat.reduceSub, Int.reduceEq, Int.reduceLT, Int.reduceLE, Int.reduceNeg, s42, s47, hx, hr, hc, dvB]
  repeat' (with_reducible refine fork_split (fun _ => ?_) (fun _ => ?_) <;> simp only [*, go_sem, Int.cast_ofNat_Int, Int.reduceToNat, Bool.true_xor, Bool.false_xor, Bool.xor_true, Bool.xor_false, Nat.reduceAdd, Nat.reduceBEq, Nat.reduceLeDiff, Nat.reduceLT, Nat.reduceMul, Nat.reduceSub, Int.reduceEq, Int.reduceLT, Int.reduceLE, Int.reduceNeg, s42, s47])
  all_goals (refine congrArg some (congrArg (SV.int .i64) ?_); first | (simp_all; done) | (simp only [Bool.cond_eq_ite]; clear hr hc hx; grind))
end Go.Sh
namespace Go.Sh
set_option linter.unusedSectionVars false
set_option linter.unnecessarySimpa false
set_option linter.unusedVariables false
set_option linter.unusedSimpArgs false
set_option maxRecDepth 100000
set_option maxHeartbeats 4000000
/-- Whether a list of nodes is right. -/
def lsP (L : List Int) (i : Nat) : Prop := ∀ x, L[i]? = some x → 0 ≤ x ∧ x < 32 ∧ (0 < i → ∀ y, L[i - 1]? = some y → y < x)
instance (L : List Int) (i : Nat) : Decidable (lsP L i) := by
  unfold lsP
  cases L[i]? with
  | none => exact isTrue (by simp)
  | some x => exact decidable_of_iff (0 ≤ x ∧ x < 32 ∧ (0 < i → ∀ y, L[i - 1]? = some y → y < x)) (by simp)
def lsB (L : List Int) : Bool := decide (0 < L.length) && decide (∀ i, i < L.length → lsP L i)
theorem lsB_yes {L : List Int} (h : 0 < L.length) (h2 : ∀ i, i < L.length → lsP L i) : lsB L = true := by
  unfold lsB; rw [decide_eq_true h, decide_eq_true h2]; rfl
theorem lsB_no {L : List Int} {i : Nat} (h : i < L.length) (h2 : ¬ lsP L i) : lsB L = false := by
  have : decide (∀ i, i < L.length → lsP L i) = false := decide_eq_false (fun h3 => h2 (h3 i h))
  unfold lsB; rw [this]; simp
theorem lsB_nil : lsB [] = false := by simp [lsB]
theorem s54 (n : Nat) (H : Heap) (z : Nat) (L : List Int) (f : Bool) (hz : z = 1 ∨ L = []) (hL : L.length ≤ maxLen) : call1 T (n + 1) (.fn 54) [.lst z (iS L) f] H = some (.bool (lsB L), H) := by
  refine call_pure e54 (by rfl) ?_
  simp only [c54, heap0, go_sem, Int.cast_ofNat_Int, Int.reduceToNat, Bool.true_xor, Bool.false_xor, Bool.xor_true, Bool.xor_false, Nat.reduceAdd, Nat.reduceBEq, Nat.reduceLeDiff, Nat.reduceLT, Nat.reduceMul, Nat.reduceSub, Int.reduceEq, Int.reduceLT, Int.reduceLE, Int.reduceNeg]
  refine loop_rule (fun i => ([(0, .lst z (iS L) f), (5, .lst z (iS L) f), (6, .int .i64 L.length), (7, .int .i64 i)], ⟨[], [], 0⟩)) (fun i => ∀ j, j < i → lsP L j) L.length ?_ (fun j h => by omega) ?_
  · simp only [go_sem, Int.cast_ofNat_Int, Int.reduceToNat, Bool.true_xor, Bool.false_xor, Bool.xor_true, Bool.xor_false, Nat.reduceAdd, Nat.reduceBEq, Nat.reduceLeDiff, Nat.reduceLT, Nat.reduceMul, Nat.reduceSub, Int.reduceEq, Int.reduceLT, Int.reduceLE, Int.reduceNeg] <;> rfl
  · intro i hi hI
    rcases Nat.lt_or_ge i L.length with hlt | hge
    · obtain ⟨x, hx⟩ := getS hlt
      obtain rfl : z = 1 := hz.resolve_right (by rintro rfl; simp at hlt)
      have hs := w64_suc hlt hL
      have key : (0 ≤ x ∧ x < 32 ∧ (0 < i → ∀ y, L[i - 1]? = some y → y < x)) → lsP L i := fun h x' hx' => by rw [hx] at hx'; cases hx'; exact h
      have key2 : ¬ (0 ≤ x ∧ x < 32 ∧ (0 < i → ∀ y, L[i - 1]? = some y → y < x)) → ¬ lsP L i := fun h h2 => h (h2 x hx)
      simp only [go_sem, Int.cast_ofNat_Int, Int.reduceToNat, Bool.true_xor, Bool.false_xor, Bool.xor_true, Bool.xor_false, Nat.reduceAdd, Nat.reduceBEq, Nat.reduceLeDiff, Nat.reduceLT, Nat.reduceMul, Nat.reduceSub, Int.reduceEq, Int.reduceLT, Int.reduceLE, Int.reduceNeg, hlt, hx]
      with_reducible refine post_fork (fun h1 => ?_) (fun h1 => ?_) <;> simp only [go_sem, Int.cast_ofNat_Int, Int.reduceToNat, Bool.true_xor, Bool.false_xor, Bool.xor_true, Bool.xor_false, Nat.reduceAdd, Nat.reduceBEq, Nat.reduceLeDiff, Nat.reduceLT, Nat.reduceMul, Nat.reduceSub, Int.reduceEq, Int.reduceLT, Int.reduceLE, Int.reduceNeg, h1]
      · rw [lsB_no hlt (key2 (by rintro ⟨h, _⟩; simp at h1; omega))]
      with_reducible refine post_fork (fun h2 => ?_) (fun h2 => ?_) <;> simp only [go_sem, Int.cast_ofNat_Int, Int.reduceToNat, Bool.true_xor, Bool.false_xor, Bool.xor_true, Bool.xor_false, Nat.reduceAdd, Nat.reduceBEq, Nat.reduceLeDiff, Nat.reduceLT, Nat.reduceMul, Nat.reduceSub, Int.reduceEq, Int.reduceLT, Int.reduceLE, Int.reduceNeg, h2]
      · rw [lsB_no hlt (key2 (by rintro ⟨_, h, _⟩; simp at h2; omega))]
      cases i with
      | zero =>
        simp only [go_sem, Int.cast_ofNat_Int, Int.reduceToNat, Bool.true_xor, Bool.false_xor, Bool.xor_true, Bool.xor_false, Nat.reduceAdd, Nat.reduceBEq, Nat.reduceLeDiff, Nat.reduceLT, Nat.reduceMul, Nat.reduceSub, Int.reduceEq, Int.reduceLT, Int.reduceLE, Int.reduceNeg, hs]
        refine ⟨hlt, rfl, fun j hj => ?_⟩
        obtain rfl : j = 0 := by omega
        exact key ⟨by simpa using h1, by simpa using h2, fun h => by omega⟩
      | succ i =>
        have hlt' : i < L.length := by omega
        obtain ⟨y, hy⟩ := getS hlt'
        have h01 : decide ((0 : Int) < ((i + 1 : Nat) : Int)) = true := decide_eq_true (by omega)
        have hm : maxLen = 9223372036854775807 := rfl
        have hpr : w64 (((i + 1 : Nat) : Int) - 1) = (i : Nat) := by rw [w64_id (by omega) (by omega)]; omega
        simp only [go_sem, Int.cast_ofNat_Int, Int.reduceToNat, Bool.true_xor, Bool.false_xor, Bool.xor_true, Bool.xor_false, Nat.reduceAdd, Nat.reduceBEq, Nat.reduceLeDiff, Nat.reduceLT, Nat.reduceMul, Nat.reduceSub, Int.reduceEq, Int.reduceLT, Int.reduceLE, Int.reduceNeg, h01, hpr, hy, hlt', hlt]
        with_reducible refine post_fork (fun h3 => ?_) (fun h3 => ?_) <;> simp only [go_sem, Int.cast_ofNat_Int, Int.reduceToNat, Bool.true_xor, Bool.false_xor, Bool.xor_true, Bool.xor_false, Nat.reduceAdd, Nat.reduceBEq, Nat.reduceLeDiff, Nat.reduceLT, Nat.reduceMul, Nat.reduceSub, Int.reduceEq, Int.reduceLT, Int.reduceLE, Int.reduceNeg, h3]
        · rw [lsB_no hlt (key2 (by
            rintro ⟨_, _, h⟩
            have := h (by omega) y hy
            simp at h3; omega))]
        · simp only [hs]
          refine ⟨by omega, by first | trivial | rfl, fun j hj => ?_⟩
          rcases Nat.lt_or_ge j (i + 1) with h4 | h4
          · exact hI j h4
          · obtain rfl : j = i + 1 := by omega
            refine key ⟨by simpa using h1, by simpa using h2, fun _ y' hy' => ?_⟩
            simp only [Nat.add_sub_cancel] at hy'
            rw [hy] at hy'; cases hy'
            simpa using h3
    · obtain rfl : i = L.length := by omega
      have hd : decide (L.length < L.length) = false := decide_eq_false (by omega)
      simp only [go_sem, Int.cast_ofNat_Int, Int.reduceToNat, Bool.true_xor, Bool.false_xor, Bool.xor_true, Bool.xor_false, Nat.reduceAdd, Nat.reduceBEq, Nat.reduceLeDiff, Nat.reduceLT, Nat.reduceMul, Nat.reduceSub, Int.reduceEq, Int.reduceLT, Int.reduceLE, Int.reduceNeg, hd]
      refine congrArg some (congrArg SV.bool ?_)
      unfold lsB
      rw [decide_eq_true (p := ∀ i, i < L.length → lsP L i) hI]
      simp
end Go.Sh
namespace Go.Sh
set_option linter.unusedSectionVars false
set_option linter.unnecessarySimpa false
set_option linter.unusedVariables false
set_option linter.unusedSimpArgs false
set_option maxRecDepth 100000
set_option maxHeartbeats 4000000
theorem s57 (n : Nat) (H : Heap) (z : Nat) (L : List Int) (f : Bool) (hz : z = 1 ∨ L = []) (hL : L.length ≤ maxLen) : call1 T (n + 1) (.fn 57) [.lst z (iS L) f] H = some (.bool (lsB L), H) := by
  refine call_pure e57 (by rfl) ?_
  simp only [c57, heap0, go_sem, Int.cast_ofNat_Int, Int.reduceToNat, Bool.true_xor, Bool.false_xor, Bool.xor_true, Bool.xor_false, Nat.reduceAdd, Nat.reduceBEq, Nat.reduceLeDiff, Nat.reduceLT, Nat.reduceMul, Nat.reduceSub, Int.reduceEq, Int.reduceLT, Int.reduceLE, Int.reduceNeg]
  refine loop_rule (fun i => ([(0, .lst z (iS L) f), (3, .int .i64 i)], ⟨[], [], 0⟩)) (fun i => ∀ j, j < i → lsP L j) L.length ?_ (fun j h => by omega) ?_
  · simp only [go_sem, Int.cast_ofNat_Int, Int.reduceToNat, Bool.true_xor, Bool.false_xor, Bool.xor_true, Bool.xor_false, Nat.reduceAdd, Nat.reduceBEq, Nat.reduceLeDiff, Nat.reduceLT, Nat.reduceMul, Nat.reduceSub, Int.reduceEq, Int.reduceLT, Int.reduceLE, Int.reduceNeg] <;> rfl
  · intro i hi hI
    rcases Nat.lt_or_ge i L.length with hlt | hge
    · obtain ⟨x, hx⟩ := getS hlt
      obtain rfl : z = 1 := hz.resolve_right (by rintro rfl; simp at hlt)
      have hs := w64_suc hlt hL
      have key : (0 ≤ x ∧ x < 32 ∧ (0 < i → ∀ y, L[i - 1]? = some y → y < x)) → lsP L i := fun h x' hx' => by rw [hx] at hx'; cases hx'; exact h
      have key2 : ¬ (0 ≤ x ∧ x < 32 ∧ (0 < i → ∀ y, L[i - 1]? = some y → y < x)) → ¬ lsP L i := fun h h2 => h (h2 x hx)
      simp only [go_sem, Int.cast_ofNat_Int, Int.reduceToNat, Bool.true_xor, Bool.false_xor, Bool.xor_true, Bool.xor_false, Nat.reduceAdd, Nat.reduceBEq, Nat.reduceLeDiff, Nat.reduceLT, Nat.reduceMul, Nat.reduceSub, Int.reduceEq, Int.reduceLT, Int.reduceLE, Int.reduceNeg, hlt, hx]
      with_reducible refine post_fork (fun h1 => ?_) (fun h1 => ?_) <;> simp only [go_sem, Int.cast_ofNat_Int, Int.reduceToNat, Bool.true_xor, Bool.false_xor, Bool.xor_true, Bool.xor_false, Nat.reduceAdd, Nat.reduceBEq, Nat.reduceLeDiff, Nat.reduceLT, Nat.reduceMul, Nat.reduceSub, Int.reduceEq, Int.reduceLT, Int.reduceLE, Int.reduceNeg, h1]
      · rw [lsB_no hlt (key2 (by rintro ⟨h, _⟩; simp at h1; omega))]
      simp only [go_sem, Int.cast_ofNat_Int, Int.reduceToNat, Bool.true_xor, Bool.false_xor, Bool.xor_true, Bool.xor_false, Nat.reduceAdd, Nat.reduceBEq, Nat.reduceLeDiff, Nat.reduceLT, Nat.reduceMul, Nat.reduceSub, Int.reduceEq, Int.reduceLT, Int.reduceLE, Int.reduceNeg, hlt, hx]
      with_reducible refine post_fork (fun h2 => ?_) (fun h2 => ?_) <;> simp only [go_sem, Int.cast_ofNat_Int, Int.reduceToNat, Bool.true_xor, Bool.false_xor, Bool.xor_true, Bool.xor_false, Nat.reduceAdd, Nat.reduceBEq, Nat.reduceLeDiff, Nat.reduceLT, Nat.reduceMul, Nat.reduceSub, Int.reduceEq, Int.reduceLT, Int.reduceLE, Int.reduceNeg, h2]
      · rw [lsB_no hlt (key2 (by rintro ⟨_, h, _⟩; simp at h2; omega))]
      cases i with
      | zero =>
        simp only [go_sem, Int.cast_ofNat_Int, Int.reduceToNat, Bool.true_xor, Bool.false_xor, Bool.xor_true, Bool.xor_false, Nat.reduceAdd, Nat.reduceBEq, Nat.reduceLeDiff, Nat.reduceLT, Nat.reduceMul, Nat.reduceSub, Int.reduceEq, Int.reduceLT, Int.reduceLE, Int.reduceNeg, hs]
        refine ⟨hlt, rfl, fun j hj => ?_⟩
        obtain rfl : j = 0 := by omega
        exact key ⟨by simpa using h1, by simpa using h2, fun h => by omega⟩
      | succ i =>
        have hlt' : i < L.length := by omega
        obtain ⟨y, hy⟩ := getS hlt'
        have h01 : decide ((0 : Int) < ((i + 1 : Nat) : Int)) = true := decide_eq_true (by omega)
        have hm : maxLen = 9223372036854775807 := rfl
        have hpr : w64 (((i + 1 : Nat) : Int) - 1) = (i : Nat) := by rw [w64_id (by omega) (by omega)]; omega
        simp only [go_sem, Int.cast_ofNat_Int, Int.reduceToNat, Bool.true_xor, Bool.false_xor, Bool.xor_true, Bool.xor_false, Nat.reduceAdd, Nat.reduceBEq, Nat.reduceLeDiff, Nat.reduceLT, Nat.reduceMul, Nat.reduceSub, Int.reduceEq, Int.reduceLT, Int.reduceLE, Int.reduceNeg, h01, hpr, hy, hlt', hlt, hx]
        with_reducible refine post_fork (fun h3 => ?_) (fun h3 => ?_) <;> simp only [go_sem, Int.cast_ofNat_Int, Int.reduceToNat, Bool.true_xor, Bool.false_xor, Bool.xor_true, Bool.xor_false, Nat.reduceAdd, Nat.reduceBEq, Nat.reduceLeDiff, Nat.reduceLT, Nat.reduceMul, Nat.reduceSub, Int.reduceEq, Int.reduceLT, Int.reduceLE, Int.reduceNeg, h3]
        · rw [lsB_no hlt (key2 (by
            rintro ⟨_, _, h⟩
            have := h (by omega) y hy
            simp at h3; omega))]
        · simp only [hs]
          refine ⟨by omega, by first | trivial | rfl, fun j hj => ?_⟩
          rcases Nat.lt_or_ge j (i + 1) with h4 | h4
          · exact hI j h4
          · obtain rfl : j = i + 1 := by omega
            refine key ⟨by simpa using h1, by simpa using h2, fun _ y' hy' => ?_⟩
            simp only [Nat.add_sub_cancel] at hy'
            rw [hy] at hy'; cases hy'
            simpa using h3
    · obtain rfl : i = L.length := by omega
      have hd : decide (L.length < L.length) = false := decide_eq_false (by omega)
      simp only [go_sem, Int.cast_ofNat_Int, Int.reduceToNat, Bool.true_xor, Bool.false_xor, Bool.xor_true, Bool.xor_false, Nat.reduceAdd, Nat.reduceBEq, Nat.reduceLeDiff, Nat.reduceLT, Nat.reduceMul, Nat.reduceSub, Int.reduceEq, Int.reduceLT, Int.reduceLE, Int.reduceNeg, hd]
      refine congrArg some (congrArg SV.bool ?_)
      unfold lsB
      rw [decide_eq_true (p := ∀ i, i < L.length → lsP L i) hI]
      simp
/-- A command: number, kind, slot, identifier, nodes. -/
abbrev cm (k d s : Int) (x : ByteArray) (z : Nat) (L : List Int) (f : Bool) : List SV := [.int .i64 k, .int .i64 d, .int .i64 s, .str x, .lst z (iS L) f]
def cmB (k d s : Int) (x : ByteArray) (L : List Int) : Bool :=
  decide (1 ≤ k) && decide (k ≤ 1048576) && idB x && lsB L && (decide (d = 1) && decide (1 ≤ s) && decide (s ≤ 1073741824) || decide (d = 2) && decide (s = 0))
theorem s44 (n : Nat) (H : Heap) (k d s : Int) (x : ByteArray) (z : Nat) (L : List Int) (f : Bool) (hz : z = 1 ∨ L = []) (hL : L.length ≤ maxLen) : call1 T (n + 2) (.fn 44) [.agg (cm k d s x z L f)] H = some (.bool (cmB k d s x L), H) := by
  refine call_pure e44 (by rfl) ?_
  have h54 := fun H => s54 n H z L f hz hL
  simp only [c44, heap0, go_sem, Int.cast_ofNat_Int, Int.reduceToNat, Bool.true_xor, Bool.false_xor, Bool.xor_true, Bool.xor_false, Nat.reduceAdd, Nat.reduceBEq, Nat.reduceLeDiff, Nat.reduceLT, Nat.reduceMul, Nat.reduceSub, Int.reduceEq, Int.reduceLT, Int.reduceLE, Int.reduceNeg, s42, h54, cm]
  repeat' (with_reducible refine fork_split (fun _ => ?_) (fun _ => ?_) <;> simp only [*, go_sem, Int.cast_ofNat_Int, Int.reduceToNat, Bool.true_xor, Bool.false_xor, Bool.xor_true, Bool.xor_false, Nat.reduceAdd, Nat.reduceBEq, Nat.reduceLeDiff, Nat.reduceLT, Nat.reduceMul, Nat.reduceSub, Int.reduceEq, Int.reduceLT, Int.reduceLE, Int.reduceNeg, s42, h54])
  all_goals
    clear h54
    refine congrArg some (congrArg SV.bool ?_)
    simp only [cmB]
    generalize idB x = X at *
    generalize lsB L = Y at *
    clear hz hL
    grind
theorem s49 (n : Nat) (H : Heap) (k d s : Int) (x : ByteArray) (z : Nat) (L : List Int) (f : Bool) (hz : z = 1 ∨ L = []) (hL : L.length ≤ maxLen) : call1 T (n + 2) (.fn 49) [.agg (cm k d s x z L f)] H = some (.bool (cmB k d s x L), H) := by
  refine call_pure e49 (by rfl) ?_
  have h57 := fun H => s57 n H z L f hz hL
  simp only [c49, heap0, go_sem, Int.cast_ofNat_Int, Int.reduceToNat, Bool.true_xor, Bool.false_xor, Bool.xor_true, Bool.xor_false, Nat.reduceAdd, Nat.reduceBEq, Nat.reduceLeDiff, Nat.reduceLT, Nat.reduceMul, Nat.reduceSub, Int.reduceEq, Int.reduceLT, Int.reduceLE, Int.reduceNeg, s56, h57, cm]
  repeat' (with_reducible refine fork_split (fun _ => ?_) (fun _ => ?_) <;> simp only [*, go_sem, Int.cast_ofNat_Int, Int.reduceToNat, Bool.true_xor, Bool.false_xor, Bool.xor_true, Bool.xor_false, Nat.reduceAdd, Nat.reduceBEq, Nat.reduceLeDiff, Nat.reduceLT, Nat.reduceMul, Nat.reduceSub, Int.reduceEq, Int.reduceLT, Int.reduceLE, Int.reduceNeg, s56, h57])
  all_goals
    clear h57
    refine congrArg some (congrArg SV.bool ?_)
    simp only [cmB]
    generalize idB x = X at *
    generalize lsB L = Y at *
    clear hz hL
    grind
end Go.Sh
namespace Go.Sh
set_option linter.unusedSectionVars false
set_option linter.unnecessarySimpa false
set_option linter.unusedVariables false
set_option linter.unusedSimpArgs false
set_option maxRecDepth 100000
set_option maxHeartbeats 4000000
abbrev dvZ : List SV := dv ⟨#[]⟩ ⟨#[]⟩ false ⟨#[]⟩ 0 0
/-- What a device has once an image is complete on it. -/
def cpV (r c : ByteArray) (a : Bool) (x : ByteArray) (s k : Int) (i : ByteArray) : SV :=
  bif dvB r c a x s k && idB i then .tup [.agg (bif a && !decide (x = i) then dv r i false ⟨#[]⟩ 0 k else dv r i a x s k), .int .i64 0] else .tup [.agg dvZ, .int .i64 1]
theorem s12 (n : Nat) (H : Heap) (r c : ByteArray) (a : Bool) (x : ByteArray) (s k : Int) (i : ByteArray) : call1 T (n + 4) (.fn 12) [.agg (dv r c a x s k), .str i] H = some (cpV r c a x s k i, H) := by
  refine call_pure e12 (by rfl) ?_
  simp only [c12, heap0, go_sem, Int.cast_ofNat_Int, Int.reduceToNat, Bool.true_xor, Bool.false_xor, Bool.xor_true, Bool.xor_false, Nat.reduceAdd, Nat.reduceBEq, Nat.reduceLeDiff, Nat.reduceLT, Nat.reduceMul, Nat.reduceSub, Int.reduceEq, Int.reduceLT, Int.reduceLE, Int.reduceNeg, s16, s42]
  cases h : dvB r c a x s k <;> cases hi : idB i <;> cases a <;> simp only [go_sem, Int.cast_ofNat_Int, Int.reduceToNat, Bool.true_xor, Bool.false_xor, Bool.xor_true, Bool.xor_false, Nat.reduceAdd, Nat.reduceBEq, Nat.reduceLeDiff, Nat.reduceLT, Nat.reduceMul, Nat.reduceSub, Int.reduceEq, Int.reduceLT, Int.reduceLE, Int.reduceNeg, s42, hi, cpV, h]
  cases hx : decide (x = i) <;> simp only [go_sem, Int.cast_ofNat_Int, Int.reduceToNat, Bool.true_xor, Bool.false_xor, Bool.xor_true, Bool.xor_false, Nat.reduceAdd, Nat.reduceBEq, Nat.reduceLeDiff, Nat.reduceLT, Nat.reduceMul, Nat.reduceSub, Int.reduceEq, Int.reduceLT, Int.reduceLE, Int.reduceNeg, s43, hx]
theorem x45 : T 45 = some (stdCF 73) := e45
theorem x73 : T 73 = some (stdIdxF false 1) := e73
theorem s46 (n : Nat) (x0 x1 x3 : SBlk) (ro : Nat) (q y : Int) : call1 T (n + 1) (.fn 46) [.int .i64 y, .ptr 2 0 0 0] ⟨[x0, x1, .box [.int .i64 q], x3], [], ro⟩ = some (.bool (decide (y = q)), ⟨[x0, x1, .box [.int .i64 q], x3], [], ro⟩) := by
  refine call_in e46 (by rfl) ?_
  simp only [c46, go_sem, Int.cast_ofNat_Int, Int.reduceToNat, Bool.true_xor, Bool.false_xor, Bool.xor_true, Bool.xor_false, Nat.reduceAdd, Nat.reduceBEq, Nat.reduceLeDiff, Nat.reduceLT, Nat.reduceMul, Nat.reduceSub, Int.reduceEq, Int.reduceLT, Int.reduceLE, Int.reduceNeg]
theorem s45 (n : Nat) (x0 x1 x3 : SBlk) (es : List (Nat × Nat)) (ro : Nat) (q : Int) (z : Nat) (L : List Int) (f : Bool) (hz : z = 1 ∨ L = []) (hL : L.length ≤ maxLen) :
    call1 T (n + 3) (.fn 45) [.lst z (iS L) f, .fn 46 [.ptr 2 0 0 0]] ⟨[x0, x1, .box [.int .i64 q], x3], es, ro⟩ = some (.bool (decide (q ∈ L)), ⟨[x0, x1, .box [.int .i64 q], x3], es, ro⟩) := by
  have := stdCF_ok (T := T) (f := 45) (g := 73) (n := n + 1) (H := ⟨[x0, x1, .box [.int .i64 q], x3], es, ro⟩) (ag := false) (z := 1) (id := 46) (caps := [.ptr 2 0 0 0])
    (v := .lst z (iS L) f) (L := iS L) (p := fun r => match r with | [.int _ y] => decide (y = q) | _ => false) x45 x73 (.lst z f (hz.imp id (by rintro rfl; rfl))) (iS_row L) (fun _ => rfl)
    (by rw [iS_len]; exact hL)
    (fun r hr bl ro' hbl => by
      have hbl : bl = [x0, x1, .box [.int .i64 q], x3] := by
        rcases hbl with ⟨_, _, h2⟩ | h
        · simp [SV.refs.refsL, SV.refs] at h2
        · exact h
      subst hbl
      simp only [iS, List.mem_map] at hr
      obtain ⟨m, hm, rfl⟩ := hr
      exact s46 n x0 x1 x3 ro' q m)
    (by simp [SV.refs.refsL, SV.refs])
  rw [this]
  refine congrArg some (Prod.ext (congrArg SV.bool ?_) rfl)
  simp only [iS, List.any_map]
  rw [Bool.eq_iff_iff]
  simp [List.any_eq_true, Function.comp]
/-- What a device has that has taken a command. -/
def tkV (r c : ByteArray) (a : Bool) (x : ByteArray) (s k : Int) (k' d' s' : Int) (x' : ByteArray) (L : List Int) (q t : Int) : SV :=
  bif !dvB r c a x s k || !cmB k' d' s' x' L then .tup [.agg dvZ, .int .i64 1]
  else bif decide (q < 0) || decide (32 ≤ q) || decide (t < 0) || decide (1073741824 < t) then .tup [.agg dvZ, .int .i64 2]
  else bif decide (k' ≤ k) then .tup [.agg (dv r c a x s k), .int .i64 23]
  else bif !decide (q ∈ L) then .tup [.agg (dv r c a x s k'), .int .i64 0]
  else bif decide (d' = 2) then (bif a && decide (x = x') then .tup [.agg (dv r c false ⟨#[]⟩ 0 k'), .int .i64 0] else .tup [.agg (dv r c a x s k'), .int .i64 0])
  else bif !decide (c = x') then .tup [.agg (dv r c a x s k'), .int .i64 7]
  else bif decide (s' ≤ t) then .tup [.agg (dv r c a x s k'), .int .i64 15]
  else .tup [.agg (dv r c true x' s' k'), .int .i64 0]
theorem s14 (n : Nat) (H : Heap) (r c : ByteArray) (a : Bool) (x : ByteArray) (s k : Int) (k' d' s' : Int) (x' : ByteArray) (z : Nat) (L : List Int) (f : Bool) (q t : Int) (hz : z = 1 ∨ L = []) (hL : L.length ≤ maxLen) :
    call1 T (n + 4) (.fn 14) [.agg (dv r c a x s k), .agg (cm k' d' s' x' z L f), .int .i64 q, .int .i64 t] H = some (tkV r c a x s k k' d' s' x' L q t, H) := by
  refine call_pure e14 (by rfl) ?_
  have h44 := fun H => s44 (n + 1) H k' d' s' x' z L f hz hL
  have h45 := fun x0 x1 x3 es ro => s45 n x0 x1 x3 es ro q z L f hz hL
  simp only [c14, heap0, go_sem, Int.cast_ofNat_Int, Int.reduceToNat, Bool.true_xor, Bool.false_xor, Bool.xor_true, Bool.xor_false, Nat.reduceAdd, Nat.reduceBEq, Nat.reduceLeDiff, Nat.reduceLT, Nat.reduceMul, Nat.reduceSub, Int.reduceEq, Int.reduceLT, Int.reduceLE, Int.reduceNeg, s16, h44]
  cases h1 : dvB r c a x s k with
  | false => simp only [go_sem, Int.cast_ofNat_Int, Int.reduceToNat, Bool.true_xor, Bool.false_xor, Bool.xor_true, Bool.xor_false, Nat.reduceAdd, Nat.reduceBEq, Nat.reduceLeDiff, Nat.reduceLT, Nat.reduceMul, Nat.reduceSub, Int.reduceEq, Int.reduceLT, Int.reduceLE, Int.reduceNeg, tkV, h1]
  | true =>
    cases h2 : cmB k' d' s' x' L with
    | false => simp only [go_sem, Int.cast_ofNat_Int, Int.reduceToNat, Bool.true_xor, Bool.false_xor, Bool.xor_true, Bool.xor_false, Nat.reduceAdd, Nat.reduceBEq, Nat.reduceLeDiff, Nat.reduceLT, Nat.reduceMul, Nat.reduceSub, Int.reduceEq, Int.reduceLT, Int.reduceLE, Int.reduceNeg, h44, tkV, h1, h2]
    | true =>
      simp only [go_sem, Int.cast_ofNat_Int, Int.reduceToNat, Bool.true_xor, Bool.false_xor, Bool.xor_true, Bool.xor_false, Nat.reduceAdd, Nat.reduceBEq, Nat.reduceLeDiff, Nat.reduceLT, Nat.reduceMul, Nat.reduceSub, Int.reduceEq, Int.reduceLT, Int.reduceLE, Int.reduceNeg, h44, tkV, h1, h2]
      cases h3 : decide (q < 0) <;> simp only [go_sem, Int.cast_ofNat_Int, Int.reduceToNat, Bool.true_xor, Bool.false_xor, Bool.xor_true, Bool.xor_false, Nat.reduceAdd, Nat.reduceBEq, Nat.reduceLeDiff, Nat.reduceLT, Nat.reduceMul, Nat.reduceSub, Int.reduceEq, Int.reduceLT, Int.reduceLE, Int.reduceNeg, h3]
      cases h4 : decide (32 ≤ q) <;> simp only [go_sem, Int.cast_ofNat_Int, Int.reduceToNat, Bool.true_xor, Bool.false_xor, Bool.xor_true, Bool.xor_false, Nat.reduceAdd, Nat.reduceBEq, Nat.reduceLeDiff, Nat.reduceLT, Nat.reduceMul, Nat.reduceSub, Int.reduceEq, Int.reduceLT, Int.reduceLE, Int.reduceNeg, h3, h4]
      cases h5 : decide (t < 0) <;> simp only [go_sem, Int.cast_ofNat_Int, Int.reduceToNat, Bool.true_xor, Bool.false_xor, Bool.xor_true, Bool.xor_false, Nat.reduceAdd, Nat.reduceBEq, Nat.reduceLeDiff, Nat.reduceLT, Nat.reduceMul, Nat.reduceSub, Int.reduceEq, Int.reduceLT, Int.reduceLE, Int.reduceNeg, h3, h4, h5]
      cases h6 : decide (1073741824 < t) <;> simp only [go_sem, Int.cast_ofNat_Int, Int.reduceToNat, Bool.true_xor, Bool.false_xor, Bool.xor_true, Bool.xor_false, Nat.reduceAdd, Nat.reduceBEq, Nat.reduceLeDiff, Nat.reduceLT, Nat.reduceMul, Nat.reduceSub, Int.reduceEq, Int.reduceLT, Int.reduceLE, Int.reduceNeg, h3, h4, h5, h6]
      cases h7 : decide (k' ≤ k) <;> simp only [go_sem, Int.cast_ofNat_Int, Int.reduceToNat, Bool.true_xor, Bool.false_xor, Bool.xor_true, Bool.xor_false, Nat.reduceAdd, Nat.reduceBEq, Nat.reduceLeDiff, Nat.reduceLT, Nat.reduceMul, Nat.reduceSub, Int.reduceEq, Int.reduceLT, Int.reduceLE, Int.reduceNeg, h3, h4, h5, h6, h7, h45]
      cases h8 : decide (q ∈ L) <;> simp only [go_sem, Int.cast_ofNat_Int, Int.reduceToNat, Bool.true_xor, Bool.false_xor, Bool.xor_true, Bool.xor_false, Nat.reduceAdd, Nat.reduceBEq, Nat.reduceLeDiff, Nat.reduceLT, Nat.reduceMul, Nat.reduceSub, Int.reduceEq, Int.reduceLT, Int.reduceLE, Int.reduceNeg, h3, h4, h5, h6, h7, h8, h45]
      cases h9 : decide (d' = 2) <;> simp only [go_sem, Int.cast_ofNat_Int, Int.reduceToNat, Bool.true_xor, Bool.false_xor, Bool.xor_true, Bool.xor_false, Nat.reduceAdd, Nat.reduceBEq, Nat.reduceLeDiff, Nat.reduceLT, Nat.reduceMul, Nat.reduceSub, Int.reduceEq, Int.reduceLT, Int.reduceLE, Int.reduceNeg, h3, h4, h5, h6, h7, h8, h9]
      · cases hA : decide (c = x') <;> simp only [go_sem, Int.cast_ofNat_Int, Int.reduceToNat, Bool.true_xor, Bool.false_xor, Bool.xor_true, Bool.xor_false, Nat.reduceAdd, Nat.reduceBEq, Nat.reduceLeDiff, Nat.reduceLT, Nat.reduceMul, Nat.reduceSub, Int.reduceEq, Int.reduceLT, Int.reduceLE, Int.reduceNeg, h3, h4, h5, h6, h7, h8, h9, hA]
        cases hB : decide (s' ≤ t) <;> simp only [go_sem, Int.cast_ofNat_Int, Int.reduceToNat, Bool.true_xor, Bool.false_xor, Bool.xor_true, Bool.xor_false, Nat.reduceAdd, Nat.reduceBEq, Nat.reduceLeDiff, Nat.reduceLT, Nat.reduceMul, Nat.reduceSub, Int.reduceEq, Int.reduceLT, Int.reduceLE, Int.reduceNeg, h3, h4, h5, h6, h7, h8, h9, hA, hB]
      · cases a <;> simp only [go_sem, Int.cast_ofNat_Int, Int.reduceToNat, Bool.true_xor, Bool.false_xor, Bool.xor_true, Bool.xor_false, Nat.reduceAdd, Nat.reduceBEq, Nat.reduceLeDiff, Nat.reduceLT, Nat.reduceMul, Nat.reduceSub, Int.reduceEq, Int.reduceLT, Int.reduceLE, Int.reduceNeg, h3, h4, h5, h6, h7, h8, h9]
        cases hA : decide (x = x') <;> simp only [go_sem, Int.cast_ofNat_Int, Int.reduceToNat, Bool.true_xor, Bool.false_xor, Bool.xor_true, Bool.xor_false, Nat.reduceAdd, Nat.reduceBEq, Nat.reduceLeDiff, Nat.reduceLT, Nat.reduceMul, Nat.reduceSub, Int.reduceEq, Int.reduceLT, Int.reduceLE, Int.reduceNeg, s43, h3, h4, h5, h6, h7, h8, h9, hA]
/-- What a device does in a slot. -/
def stV (r c : ByteArray) (a : Bool) (x : ByteArray) (s k : Int) (t : Int) : SV :=
  bif !dvB r c a x s k then .tup [.agg dvZ, .bool false, .int .i64 1]
  else bif decide (t < 0) || decide (1073741824 < t) then .tup [.agg dvZ, .bool false, .int .i64 2]
  else bif !a || decide (t < s) then .tup [.agg (dv r c a x s k), .bool false, .int .i64 0]
  else .tup [.agg (dv (bif decide (t = s) then x else r) c false ⟨#[]⟩ 0 k), .bool (decide (t = s)), .int .i64 0]
theorem s15 (n : Nat) (H : Heap) (r c : ByteArray) (a : Bool) (x : ByteArray) (s k : Int) (t : Int) :
    call1 T (n + 4) (.fn 15) [.agg (dv r c a x s k), .int .i64 t] H = some (stV r c a x s k t, H) := by
  refine call_pure e15 (by rfl) ?_
  simp only [c15, heap0, go_sem, Int.cast_ofNat_Int, Int.reduceToNat, Bool.true_xor, Bool.false_xor, Bool.xor_true, Bool.xor_false, Nat.reduceAdd, Nat.reduceBEq, Nat.reduceLeDiff, Nat.reduceLT, Nat.reduceMul, Nat.reduceSub, Int.reduceEq, Int.reduceLT, Int.reduceLE, Int.reduceNeg, s16]
  cases h1 : dvB r c a x s k <;> simp only [go_sem, Int.cast_ofNat_Int, Int.reduceToNat, Bool.true_xor, Bool.false_xor, Bool.xor_true, Bool.xor_false, Nat.reduceAdd, Nat.reduceBEq, Nat.reduceLeDiff, Nat.reduceLT, Nat.reduceMul, Nat.reduceSub, Int.reduceEq, Int.reduceLT, Int.reduceLE, Int.reduceNeg, stV, h1]
  cases h3 : decide (t < 0) <;> simp only [go_sem, Int.cast_ofNat_Int, Int.reduceToNat, Bool.true_xor, Bool.false_xor, Bool.xor_true, Bool.xor_false, Nat.reduceAdd, Nat.reduceBEq, Nat.reduceLeDiff, Nat.reduceLT, Nat.reduceMul, Nat.reduceSub, Int.reduceEq, Int.reduceLT, Int.reduceLE, Int.reduceNeg, h3]
  cases h4 : decide (1073741824 < t) <;> simp only [go_sem, Int.cast_ofNat_Int, Int.reduceToNat, Bool.true_xor, Bool.false_xor, Bool.xor_true, Bool.xor_false, Nat.reduceAdd, Nat.reduceBEq, Nat.reduceLeDiff, Nat.reduceLT, Nat.reduceMul, Nat.reduceSub, Int.reduceEq, Int.reduceLT, Int.reduceLE, Int.reduceNeg, h3, h4]
  cases a <;> simp only [go_sem, Int.cast_ofNat_Int, Int.reduceToNat, Bool.true_xor, Bool.false_xor, Bool.xor_true, Bool.xor_false, Nat.reduceAdd, Nat.reduceBEq, Nat.reduceLeDiff, Nat.reduceLT, Nat.reduceMul, Nat.reduceSub, Int.reduceEq, Int.reduceLT, Int.reduceLE, Int.reduceNeg, h3, h4]
  cases h5 : decide (t < s) <;> simp only [go_sem, Int.cast_ofNat_Int, Int.reduceToNat, Bool.true_xor, Bool.false_xor, Bool.xor_true, Bool.xor_false, Nat.reduceAdd, Nat.reduceBEq, Nat.reduceLeDiff, Nat.reduceLT, Nat.reduceMul, Nat.reduceSub, Int.reduceEq, Int.reduceLT, Int.reduceLE, Int.reduceNeg, h3, h4, h5]
  cases h6 : decide (t = s) <;> simp only [go_sem, Int.cast_ofNat_Int, Int.reduceToNat, Bool.true_xor, Bool.false_xor, Bool.xor_true, Bool.xor_false, Nat.reduceAdd, Nat.reduceBEq, Nat.reduceLeDiff, Nat.reduceLT, Nat.reduceMul, Nat.reduceSub, Int.reduceEq, Int.reduceLT, Int.reduceLE, Int.reduceNeg, s43, h3, h4, h5, h6]
end Go.Sh
namespace Go.Sh
set_option linter.unusedSectionVars false
set_option linter.unnecessarySimpa false
set_option linter.unusedVariables false
set_option linter.unusedSimpArgs false
set_option maxRecDepth 100000
set_option maxHeartbeats 4000000
theorem dvB_zero : dvB ⟨#[]⟩ ⟨#[]⟩ false ⟨#[]⟩ 0 0 = true := by decide
theorem cpV_zero : cpV ⟨#[]⟩ ⟨#[]⟩ false ⟨#[]⟩ 0 0 idX = .tup [.agg (dv ⟨#[]⟩ idX false ⟨#[]⟩ 0 0), .int .i64 0] := by
  unfold cpV; rw [dvB_zero]; rfl
theorem idB_X : idB idX = true := by rfl
theorem emB_X : emB idX = true := by rfl
theorem emB_E : emB ⟨#[]⟩ = true := by rfl
theorem ls5 : lsB [5] = true := by decide
theorem dvB_idle {k : Int} (h0 : 0 ≤ k) (h1 : k ≤ 1048576) : dvB ⟨#[]⟩ idX false ⟨#[]⟩ 0 k = true := by
  unfold dvB; rw [emB_E, emB_X, decide_eq_true h0, decide_eq_true h1]; rfl
theorem dvB_arm {k s : Int} (h0 : 0 ≤ k) (h1 : k ≤ 1048576) (h2 : 1 ≤ s) (h3 : s ≤ 1073741824) : dvB ⟨#[]⟩ idX true idX s k = true := by
  unfold dvB; rw [emB_E, emB_X, idB_X, decide_eq_true h0, decide_eq_true h1, decide_eq_true h2, decide_eq_true h3]; simp
theorem cmB_act {k s : Int} {L : List Int} (h0 : 1 ≤ k) (h1 : k ≤ 1048576) (h2 : 1 ≤ s) (h3 : s ≤ 1073741824) (hL : lsB L = true) : cmB k 1 s idX L = true := by
  unfold cmB; rw [idB_X, hL, decide_eq_true h0, decide_eq_true h1, decide_eq_true h2, decide_eq_true h3]; rfl
theorem cmB_can {k : Int} {L : List Int} (h0 : 1 ≤ k) (h1 : k ≤ 1048576) (hL : lsB L = true) : cmB k 2 0 idX L = true := by
  unfold cmB; rw [idB_X, hL, decide_eq_true h0, decide_eq_true h1]; rfl
/-- A device that has the image and takes the command to start it. -/
theorem tk_act {k k' s : Int} {L : List Int} {q t : Int} (hd : dvB ⟨#[]⟩ idX false ⟨#[]⟩ 0 k = true) (hc : cmB k' 1 s idX L = true) (hk : k < k') (h0 : 0 ≤ q) (h1 : q < 32) (h2 : 0 ≤ t) (h3 : t < s) (h4 : s ≤ 1073741824) (hq : q ∈ L) :
    tkV ⟨#[]⟩ idX false ⟨#[]⟩ 0 k k' 1 s idX L q t = .tup [.agg (dv ⟨#[]⟩ idX true idX s k'), .int .i64 0] := by
  unfold tkV
  rw [hd, hc, decide_eq_false (show ¬ q < 0 by omega), decide_eq_false (show ¬ 32 ≤ q by omega), decide_eq_false (show ¬ t < 0 by omega), decide_eq_false (show ¬ 1073741824 < t by omega), decide_eq_false (show ¬ k' ≤ k by omega), decide_eq_true hq,
    decide_eq_true (show idX = idX from rfl), decide_eq_false (show ¬ s ≤ t by omega)]
  rfl
theorem s4 (a b s : Int) (ha : 0 ≤ a ∧ a ≤ 255) (hb : 0 ≤ b ∧ b ≤ 255) (hs : 0 ≤ s ∧ s ≤ 255) : call1 T 41 (.fn 4) [.int .u8 a, .int .u8 b, .int .u8 s] heap0 = some (.bool true, heap0) := by
  refine call_pure e4 (by rfl) ?_
  have wa : w64 a = a := w64_id (by omega) (by omega)
  have wb : w64 b = b := w64_id (by omega) (by omega)
  have ws : w64 s = s := w64_id (by omega) (by omega)
  have wa1 : w64 (1 + a) = 1 + a := w64_id (by omega) (by omega)
  have wb1 : w64 (1 + b) = 1 + b := w64_id (by omega) (by omega)
  have h14 := fun n H r c a x s k k' d' s' x' f q t => s14 n H r c a x s k k' d' s' x' 1 [5] f q t (.inl rfl) (by decide)
  simp only [cm, iS, List.map_cons, List.map_nil] at h14
  simp only [c4, heap0, go_sem, Int.cast_ofNat_Int, Int.reduceToNat, Bool.true_xor, Bool.false_xor, Bool.xor_true, Bool.xor_false, Nat.reduceAdd, Nat.reduceBEq, Nat.reduceLeDiff, Nat.reduceLT, Nat.reduceMul, Nat.reduceSub, Int.reduceEq, Int.reduceLT, Int.reduceLE, Int.reduceNeg, s10]
  cases h1 : decide (s < 3) <;> simp only [go_sem, Int.cast_ofNat_Int, Int.reduceToNat, Bool.true_xor, Bool.false_xor, Bool.xor_true, Bool.xor_false, Nat.reduceAdd, Nat.reduceBEq, Nat.reduceLeDiff, Nat.reduceLT, Nat.reduceMul, Nat.reduceSub, Int.reduceEq, Int.reduceLT, Int.reduceLE, Int.reduceNeg, s10, h1]
  simp only [decide_eq_false_iff_not] at h1
  have t1 := tk_act (k := 0) (k' := 1 + a) (s := s) (L := [5]) (q := 5) (t := 0) (dvB_idle (by omega) (by omega)) (cmB_act (by omega) (by omega) (by omega) (by omega) ls5) (by omega) (by omega) (by omega) (by omega) (by omega) (by omega) (by simp)
  have t2 : tkV ⟨#[]⟩ idX true idX s (1 + a) (1 + b) 2 0 idX [5] 5 1 = bif decide (1 + b ≤ 1 + a) then .tup [.agg (dv ⟨#[]⟩ idX true idX s (1 + a)), .int .i64 23] else .tup [.agg (dv ⟨#[]⟩ idX false ⟨#[]⟩ 0 (1 + b)), .int .i64 0] := by
    unfold tkV
    rw [dvB_arm (by omega) (by omega) (by omega) (by omega), cmB_can (by omega) (by omega) ls5, decide_eq_true (show idX = idX from rfl)]
    rfl
  simp only [go_sem, Int.cast_ofNat_Int, Int.reduceToNat, Bool.true_xor, Bool.false_xor, Bool.xor_true, Bool.xor_false, Nat.reduceAdd, Nat.reduceBEq, Nat.reduceLeDiff, Nat.reduceLT, Nat.reduceMul, Nat.reduceSub, Int.reduceEq, Int.reduceLT, Int.reduceLE, Int.reduceNeg, s11x, s12, cpV_zero, wa, wb, ws, wa1, wb1, h14, t1, t2]
  cases h2 : decide (1 + b ≤ 1 + a) with
  | true =>
    have t3 : stV ⟨#[]⟩ idX true idX s (1 + a) s = .tup [.agg (dv idX idX false ⟨#[]⟩ 0 (1 + a)), .bool true, .int .i64 0] := by
      unfold stV
      rw [dvB_arm (by omega) (by omega) (by omega) (by omega), decide_eq_false (show ¬ s < 0 by omega), decide_eq_false (show ¬ 1073741824 < s by omega), decide_eq_false (show ¬ s < s by omega), decide_eq_true (show s = s from rfl)]
      rfl
    have h3 : decide (a < b) = false := by simp only [decide_eq_true_eq, decide_eq_false_iff_not] at h2 ⊢; omega
    simp only [go_sem, Int.cast_ofNat_Int, Int.reduceToNat, Bool.true_xor, Bool.false_xor, Bool.xor_true, Bool.xor_false, Nat.reduceAdd, Nat.reduceBEq, Nat.reduceLeDiff, Nat.reduceLT, Nat.reduceMul, Nat.reduceSub, Int.reduceEq, Int.reduceLT, Int.reduceLE, Int.reduceNeg, s15, t3, ws, h2, h3]
  | false =>
    have t3 : stV ⟨#[]⟩ idX false ⟨#[]⟩ 0 (1 + b) s = .tup [.agg (dv ⟨#[]⟩ idX false ⟨#[]⟩ 0 (1 + b)), .bool false, .int .i64 0] := by
      unfold stV
      rw [dvB_idle (by omega) (by omega), decide_eq_false (show ¬ s < 0 by omega), decide_eq_false (show ¬ 1073741824 < s by omega)]
      rfl
    have h3 : decide (a < b) = true := by simp only [decide_eq_true_eq, decide_eq_false_iff_not] at h2 ⊢; omega
    simp only [go_sem, Int.cast_ofNat_Int, Int.reduceToNat, Bool.true_xor, Bool.false_xor, Bool.xor_true, Bool.xor_false, Nat.reduceAdd, Nat.reduceBEq, Nat.reduceLeDiff, Nat.reduceLT, Nat.reduceMul, Nat.reduceSub, Int.reduceEq, Int.reduceLT, Int.reduceLE, Int.reduceNeg, s15, t3, ws, h2, h3]
theorem u8_wf {n : Int} (h : (Lit.int .u8 n).wf = true) : 0 ≤ n ∧ n ≤ 255 := by
  have h1 : IntKind.u8.min = 0 := rfl
  have h2 : IntKind.u8.max = 255 := rfl
  simp [Lit.wf, h1, h2] at h
  omega
theorem law4 (xs : List SV) (h : FitsAll [(false, [.int .u8]), (false, [.int .u8]), (false, [.int .u8])] xs) : ∃ m, call1 T m (.fn 4) xs heap0 = some (.bool true, heap0) := by
  obtain ⟨x1, r1, rfl, h1, h⟩ := fitsAll_cons h
  obtain ⟨x2, r2, rfl, h2, h⟩ := fitsAll_cons h
  obtain ⟨x3, r3, rfl, h3, h⟩ := fitsAll_cons h
  cases fitsAll_nil h
  obtain ⟨a, rfl, ha⟩ := fits_int (fitsA_one h1)
  obtain ⟨b, rfl, hb⟩ := fits_int (fitsA_one h2)
  obtain ⟨s, rfl, hs⟩ := fits_int (fitsA_one h3)
  exact ⟨41, s4 a b s (u8_wf ha) (u8_wf hb) (u8_wf hs)⟩
end Go.Sh
