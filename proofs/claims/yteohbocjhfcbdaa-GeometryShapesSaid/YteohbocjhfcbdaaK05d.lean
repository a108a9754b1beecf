import Derived.Test.YteohbocjhfcbdaaK05c
namespace Go.Sh
set_option linter.unusedSectionVars false
set_option linter.unnecessarySimpa false
set_option linter.unusedVariables false
set_option maxRecDepth 100000
set_option maxHeartbeats 4000000
set_option linter.unusedSimpArgs false
def Near (a : Int) : Prop := -20000 ≤ a ∧ a ≤ 20000
theorem far_iff {a b : Int} : farI a b = false ↔ Near a ∧ Near b := by
  unfold farI Near
  simp only [Bool.or_eq_false_iff, decide_eq_false_iff_not]
  omega
theorem wmul {u v : Int} (hu : u.natAbs ≤ 40000) (hv : v.natAbs ≤ 40000) : (u * v).natAbs ≤ 1600000000 := by
  rw [Int.natAbs_mul]; exact Nat.mul_le_mul hu hv
theorem turn_eq {a b c d x y : Int} (ha : Near a) (hb : Near b) (hc : Near c) (hd : Near d) (hx : Near x) (hy : Near y) : turnR a b c d x y = turnI a b c d x y := by
  unfold Near at *
  have e1 : w64 (c - a) = c - a := w64_id (by omega) (by omega)
  have e2 : w64 (y - b) = y - b := w64_id (by omega) (by omega)
  have e3 : w64 (d - b) = d - b := w64_id (by omega) (by omega)
  have e4 : w64 (x - a) = x - a := w64_id (by omega) (by omega)
  have b1 := wmul (u := c - a) (v := y - b) (by omega) (by omega)
  have b2 := wmul (u := d - b) (v := x - a) (by omega) (by omega)
  unfold turnR turnI cmpI
  rw [e1, e2, e3, e4]
  generalize (c - a) * (y - b) = P at *
  generalize (d - b) * (x - a) = Q at *
  have e5 : w64 P = P := w64_id (by omega) (by omega)
  have e6 : w64 Q = Q := w64_id (by omega) (by omega)
  have e7 : w64 (P - Q) = P - Q := w64_id (by omega) (by omega)
  rw [e5, e6, e7]
  repeat' split
  all_goals omega
theorem cmp_self (P : Int) : cmpI P P = 0 := by unfold cmpI; rw [if_neg (by omega), if_neg (by omega)]
theorem on_eq (p q a b c d : Int) : onI p q a b c d = (decide (turnI a b c d p q = 0) && withinI p q a b c d) := by
  unfold onI
  rw [Bool.eq_iff_iff]
  simp only [Bool.or_eq_true, Bool.and_eq_true, decide_eq_true_eq]
  constructor
  · rintro ((⟨rfl, rfl⟩ | ⟨rfl, rfl⟩) | h)
    · refine ⟨?_, ?_⟩
      · unfold turnI
        have : w64 0 = 0 := by decide
        simp only [Int.sub_self, this, Int.mul_zero, cmp_self]
      · unfold withinI; simp only [Bool.and_eq_true, decide_eq_true_eq]; omega
    · refine ⟨?_, ?_⟩
      · unfold turnI
        rw [Int.mul_comm (w64 (q - b)), cmp_self]
      · unfold withinI; simp only [Bool.and_eq_true, decide_eq_true_eq]; omega
    · exact h
  · exact fun h => .inr h
theorem cross_eq {a b c d x y z t : Int} (ha : Near a) (hb : Near b) (hc : Near c) (hd : Near d) (hx : Near x) (hy : Near y) (hz : Near z) (ht : Near t) : crossI a b c d x y z t = crossR a b c d x y z t := by
  unfold crossI crossR
  simp only [on_eq, turn_eq ha hb hc hd hx hy, turn_eq ha hb hc hd hz ht, turn_eq hx hy hz ht ha hb, turn_eq hx hy hz ht hc hd]
  generalize (decide (turnI a b c d x y = 0) && withinI x y a b c d) = A
  generalize (decide (turnI a b c d z t = 0) && withinI z t a b c d) = B
  generalize (decide (turnI x y z t a b = 0) && withinI a b x y z t) = C
  generalize (decide (turnI x y z t c d = 0) && withinI c d x y z t) = D
  generalize (decide (w64 (turnI a b c d x y * turnI a b c d z t) < 0) && decide (w64 (turnI x y z t a b * turnI x y z t c d) < 0)) = E
  cases A <;> cases B <;> cases C <;> cases D <;> cases E <;> rfl
theorem s11 (H : Heap) : call1 T 40 (.fn 11) [] H = some (.bool true, H) := pure_any e11 (by rfl) (callB_up (T := T) 100 40 (.fn 11) [] heap0 (.bool true, heap0) (by kernel_rfl))
theorem s3 (a b c d x y z t f : Int) : call1 T 41 (.fn 3) [pt a b, pt c d, wl x y z t f] heap0 = some (.bool true, heap0) := by
  refine call_pure e3 (by rfl) ?_
  have h12 := fun H => s12 36 H [(a, b), (c, d), (x, y), (z, t)] false (by simp [maxLen])
  have h11 := s11
  simp only [ptsS, List.map_cons, List.map_nil] at h12
  simp only [c3, heap0, go_sem, Nat.reduceAdd, Nat.reduceBEq, Nat.reduceLeDiff, Nat.reduceLT, Nat.reduceMul, Nat.reduceSub, h11, h12]
  have h15 := fun H => s15 35 H a b c d x y z t f
  have h16 := fun H => s16 38 H a b c d x y z t f
  have h13 := fun H => s13 39 H a b c d
  have h14 := fun H => s14 39 H a b c d
  repeat' (with_reducible refine fork_split (fun _ => ?_) (fun _ => ?_) <;> simp only [*, go_sem, Nat.reduceAdd, Nat.reduceBEq, Nat.reduceLeDiff, Nat.reduceLT, Nat.reduceMul, Nat.reduceSub])
  rename_i hf
  simp only [List.any_cons, List.any_nil, Bool.or_false, Bool.or_eq_false_iff, far_iff] at hf
  obtain ⟨⟨ha, hb⟩, ⟨hc, hd⟩, ⟨hx, hy⟩, hz, ht⟩ := hf
  rw [cross_eq ha hb hc hd hx hy hz ht]
  simp
theorem law3 (xs : List SV) (h : FitsAll [(true, [.int .i64, .int .i64]), (true, [.int .i64, .int .i64]), (true, [.int .i64, .int .i64, .int .i64, .int .i64, .int .i64])] xs) : ∃ m, call1 T m (.fn 3) xs heap0 = some (.bool true, heap0) := by
  obtain ⟨x1, r1, rfl, h1, h⟩ := fitsAll_cons h
  obtain ⟨x2, r2, rfl, h2, h⟩ := fitsAll_cons h
  obtain ⟨x3, r3, rfl, h3, h⟩ := fitsAll_cons h
  cases fitsAll_nil h
  obtain ⟨c1, rfl, k1⟩ := fitsA_agg h1
  obtain ⟨c2, rfl, k2⟩ := fitsA_agg h2
  obtain ⟨c3, rfl, k3⟩ := fitsA_agg h3
  obtain ⟨a, _, rfl, _, k1⟩ := fitsL_i k1
  obtain ⟨b, _, rfl, _, k1⟩ := fitsL_i k1
  cases fitsL_nil' k1
  obtain ⟨c, _, rfl, _, k2⟩ := fitsL_i k2
  obtain ⟨d, _, rfl, _, k2⟩ := fitsL_i k2
  cases fitsL_nil' k2
  obtain ⟨x, _, rfl, _, k3⟩ := fitsL_i k3
  obtain ⟨y, _, rfl, _, k3⟩ := fitsL_i k3
  obtain ⟨z, _, rfl, _, k3⟩ := fitsL_i k3
  obtain ⟨t, _, rfl, _, k3⟩ := fitsL_i k3
  obtain ⟨f, _, rfl, _, k3⟩ := fitsL_i k3
  cases fitsL_nil' k3
  exact ⟨41, s3 a b c d x y z t f⟩
end Go.Sh
