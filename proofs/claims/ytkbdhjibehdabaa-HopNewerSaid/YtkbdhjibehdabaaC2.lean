

import Derived.Test.YtkbdhjibehdabaaC1
namespace Go.Sh
set_option linter.unusedSectionVars false
set_option linter.unnecessarySimpa false
set_option linter.unusedVariables false
set_option linter.unusedSimpArgs false
set_option maxRecDepth 100000
set_option maxHeartbeats 4000000
def nxv (v : Int) : Int := (w64 (v + 1)).tmod 256
def nxE (v a b : Int) (C : List Int) (u : Int) (D : List Int) : Int := bif okH v a b C && okH (nxv v) b u D then 0 else 1
def nxV (v a b : Int) (C : List Int) (u : Int) (D : List Int) : SV := bif okH v a b C && okH (nxv v) b u D then hl (nxv v) b u 1 D false else hl 0 0 0 0 [] true
theorem s17 (n : Nat) (H : Heap) (v a b : Int) (C : List Int) (f : Bool) (u : Int) (D : List Int) (g : Bool) (hC : C.length ≤ 1000) (hD : D.length ≤ 1000) : call1 T (n + 5) (.fn 17) [hl v a b 1 C f, .int .i64 u, .lst 1 (iS D) g] H = some (.tup [nxV v a b C u D, .int .i64 (nxE v a b C u D)], H) := by
  refine call_pure e17 (by rfl) ?_
  have h15 := fun H => s15 (n + 3) H D g hD
  have h1 := fun H => s24 n H v a b C f (Nat.le_trans hC (by decide))
  have h2 := fun H => s24 n H (nxv v) b u D false (Nat.le_trans hD (by decide))
  have hn : (w64 (v + 1)).tmod 256 = nxv v := rfl
  simp only [c17, heap0, go_sem, Int.cast_ofNat_Int, Int.reduceToNat, Nat.reduceAdd, Nat.reduceBEq, Nat.reduceLeDiff, Nat.reduceLT, Nat.reduceMul, Nat.reduceSub, Int.reduceEq, Int.reduceLT, Int.reduceLE, Int.reduceNeg, h15, hn, put1, h1]
  cases hok : okH v a b C with
  | false => simp only [go_sem, Int.cast_ofNat_Int, Int.reduceToNat, Nat.reduceAdd, Nat.reduceBEq, Nat.reduceLeDiff, Nat.reduceLT, Nat.reduceMul, Nat.reduceSub, Int.reduceEq, Int.reduceLT, Int.reduceLE, Int.reduceNeg, ckH_no hok, put1, nxV, nxE, hok]; rfl
  | true =>
    simp only [go_sem, Int.cast_ofNat_Int, Int.reduceToNat, Nat.reduceAdd, Nat.reduceBEq, Nat.reduceLeDiff, Nat.reduceLT, Nat.reduceMul, Nat.reduceSub, Int.reduceEq, Int.reduceLT, Int.reduceLE, Int.reduceNeg, ckH_yes hok, h2]
    cases hok2 : okH (nxv v) b u D with
    | false => simp only [go_sem, Int.cast_ofNat_Int, Int.reduceToNat, Nat.reduceAdd, Nat.reduceBEq, Nat.reduceLeDiff, Nat.reduceLT, Nat.reduceMul, Nat.reduceSub, Int.reduceEq, Int.reduceLT, Int.reduceLE, Int.reduceNeg, ckH_no hok2, put1, nxV, nxE, hok, hok2]; rfl
    | true => simp only [go_sem, Int.cast_ofNat_Int, Int.reduceToNat, Nat.reduceAdd, Nat.reduceBEq, Nat.reduceLeDiff, Nat.reduceLT, Nat.reduceMul, Nat.reduceSub, Int.reduceEq, Int.reduceLT, Int.reduceLE, Int.reduceNeg, ckH_yes hok2, put1, nxV, nxE, hok, hok2]
theorem s18 (n : Nat) (H : Heap) (v a b : Int) (C : List Int) (f : Bool) (u : Int) (D : List Int) (g : Bool) (hC : C.length ≤ 1000) (hD : D.length ≤ 1000) : call1 T (n + 4) (.fn 18) [hl v a b 1 C f, .int .i64 u, .lst 1 (iS D) g] H = some (.tup [nxV v a b C u D, .int .i64 (nxE v a b C u D)], H) := by
  refine call_pure e18 (by rfl) ?_
  have h1 := fun H => s25 n H v a b C f (Nat.le_trans hC (by decide))
  have h2 := fun H => s25 n H (nxv v) b u D false (Nat.le_trans hD (by decide))
  have hn : (w64 (v + 1)).tmod 256 = nxv v := rfl
  have hr : decide (D.length * 8 ≤ mostLen) = true := decide_eq_true (room8' hD)
  have hfz := fun H v => (Still.ints D).fz 0 H 5 v D.length 1 false (by rw [iS_len])
  have hfz2 := fun H v => (Still.ints D).fz 0 H 4 v D.length 1 false (by rw [iS_len])
  simp only [c18, heap0, go_sem, Int.cast_ofNat_Int, Int.reduceToNat, Nat.reduceAdd, Nat.reduceBEq, Nat.reduceLeDiff, Nat.reduceLT, Nat.reduceMul, Nat.reduceSub, Int.reduceEq, Int.reduceLT, Int.reduceLE, Int.reduceNeg, hn, put1, h1]
  cases hok : okH v a b C with
  | false => simp only [go_sem, Int.cast_ofNat_Int, Int.reduceToNat, Nat.reduceAdd, Nat.reduceBEq, Nat.reduceLeDiff, Nat.reduceLT, Nat.reduceMul, Nat.reduceSub, Int.reduceEq, Int.reduceLT, Int.reduceLE, Int.reduceNeg, ckH_no hok, put1, nxV, nxE, hok]; rfl
  | true =>
    simp only [go_sem, Int.cast_ofNat_Int, Int.reduceToNat, Nat.reduceAdd, Nat.reduceBEq, Nat.reduceLeDiff, Nat.reduceLT, Nat.reduceMul, Nat.reduceSub, Int.reduceEq, Int.reduceLT, Int.reduceLE, Int.reduceNeg, ckH_yes hok, hn, hr, put1, hfz, h2]
    cases hok2 : okH (nxv v) b u D with
    | false => simp only [go_sem, Int.cast_ofNat_Int, Int.reduceToNat, Nat.reduceAdd, Nat.reduceBEq, Nat.reduceLeDiff, Nat.reduceLT, Nat.reduceMul, Nat.reduceSub, Int.reduceEq, Int.reduceLT, Int.reduceLE, Int.reduceNeg, ckH_no hok2, put1, nxV, nxE, hok, hok2]; rfl
    | true => simp only [go_sem, Int.cast_ofNat_Int, Int.reduceToNat, Nat.reduceAdd, Nat.reduceBEq, Nat.reduceLeDiff, Nat.reduceLT, Nat.reduceMul, Nat.reduceSub, Int.reduceEq, Int.reduceLT, Int.reduceLE, Int.reduceNeg, ckH_yes hok2, put1, nxV, nxE, hok, hok2, hfz2]
theorem nxv_eq {v : Int} (h0 : 0 ≤ v) (h1 : v ≤ 255) : nxv v = (v + 1) % 256 := by
  unfold nxv
  rw [w64_id (by omega) (by omega), Int.tmod_eq_emod_of_nonneg (by omega)]
theorem iS_nil : iS [] = [] := rfl
theorem new_out {x y : Int} (h : ¬ ((0 ≤ x ∧ x ≤ 255) ∧ 0 ≤ y ∧ y ≤ 255)) : newB x y = false := by
  rw [Bool.eq_false_iff]
  intro hb
  simp only [newB, Bool.and_eq_true, decide_eq_true_eq] at hb
  exact h ⟨⟨hb.1.1.1.1.1, hb.1.1.1.1.2⟩, hb.1.1.1.2, hb.1.1.2⟩
theorem new_in {x y : Int} (h : (0 ≤ x ∧ x ≤ 255) ∧ 0 ≤ y ∧ y ≤ 255) : newB x y = decide (1 ≤ (x - y) % 256 ∧ (x - y) % 256 ≤ 127) := by
  rw [Bool.eq_iff_iff]
  simp only [newB, Bool.and_eq_true, decide_eq_true_eq]
  omega
theorem new_three {x y : Int} (h : (0 ≤ x ∧ x ≤ 255) ∧ 0 ≤ y ∧ y ≤ 255) : (newB x y = true ∧ newB y x = false ∧ max (x - y) (y - x) ≠ 0 ∧ max (x - y) (y - x) ≠ 128) ∨ (newB x y = false ∧ newB y x = true ∧ max (x - y) (y - x) ≠ 0 ∧ max (x - y) (y - x) ≠ 128) ∨
    (newB x y = false ∧ newB y x = false ∧ (max (x - y) (y - x) = 0 ∨ max (x - y) (y - x) = 128)) := by
  rw [new_in h, new_in ⟨h.2, h.1⟩]
  simp only [decide_eq_true_eq, decide_eq_false_iff_not]
  omega
theorem ca_two {v a b : Int} {C : List Int} {f : Bool} {u : Int} (h1 : okH v a b C = true) (h2 : okH (nxv v) b u C = true) : caE [⟨v, a, b, C, f⟩, ⟨nxv v, b, u, C, false⟩] = 0 := by
  have e0 : errAt [⟨v, a, b, C, f⟩, ⟨nxv v, b, u, C, false⟩] 0 = 0 := by simp [errAt, h1]
  have e1 : errAt [⟨v, a, b, C, f⟩, ⟨nxv v, b, u, C, false⟩] 1 = 0 := by
    show (bif okH (nxv v) b u C then (bif decide (b = b) then (bif decide (nxv v = nxv v) then 0 else 23) else 5) else 1 : Int) = 0
    simp [h2]
  have : fstE (errAt [⟨v, a, b, C, f⟩, ⟨nxv v, b, u, C, false⟩]) 2 = 0 := fstE_none (fun j hj => by
    rcases (show j = 0 ∨ j = 1 by omega) with rfl | rfl
    · exact e0
    · exact e1)
  simpa [caE] using this
theorem s8 (v a b : Int) (C : List Int) (f : Bool) (u x y : Int) : call1 T 41 (.fn 8) [hl v a b 1 C f, .int .i64 u, .agg [.int .i64 x, .int .i64 y]] heap0 = some (.bool true, heap0) := by
  refine call_pure e8 (by rfl) ?_
  have h11 := s11
  simp only [c8, heap0, go_sem, Int.cast_ofNat_Int, Int.reduceToNat, Nat.reduceAdd, Nat.reduceBEq, Nat.reduceLeDiff, Nat.reduceLT, Nat.reduceMul, Nat.reduceSub, Int.reduceEq, Int.reduceLT, Int.reduceLE, Int.reduceNeg, h11]
  with_reducible refine fork_split (fun h => ?_) (fun h => ?_)
  · simp only [go_sem, Int.cast_ofNat_Int, Int.reduceToNat, Nat.reduceAdd, Nat.reduceBEq, Nat.reduceLeDiff, Nat.reduceLT, Nat.reduceMul, Nat.reduceSub, Int.reduceEq, Int.reduceLT, Int.reduceLE, Int.reduceNeg]
  · have hC : C.length ≤ 20 := by simp only [decide_eq_false_iff_not] at h; omega
    have h26 := fun H a b => s26 39 H a b
    have h15 := fun H => s15 39 H C f (by omega)
    have h17 := fun H => s17 35 H v a b C f u C false (by omega) (by omega)
    have hm0 : ∀ z : Int, ¬ z = 0 → decide (z = 0) = false := fun z h => decide_eq_false h
    cases hok : (okH v a b C && okH (nxv v) b u C) with
    | false =>
      simp only [nxV, nxE, hok, cond_false, hl, iS_nil] at h17
      by_cases hxy : (0 ≤ x ∧ x ≤ 255) ∧ 0 ≤ y ∧ y ≤ 255
      · have q1 : decide (0 ≤ x) = true := decide_eq_true hxy.1.1
        have q2 : decide (x ≤ 255) = true := decide_eq_true hxy.1.2
        have q3 : decide (0 ≤ y) = true := decide_eq_true hxy.2.1
        have q4 : decide (y ≤ 255) = true := decide_eq_true hxy.2.2
        have w1 : w64 (x - y) = x - y := w64_id (by omega) (by omega)
        have w2 : w64 (y - x) = y - x := w64_id (by omega) (by omega)
        rcases new_three hxy with ⟨n1, n2, n3, n4⟩ | ⟨n1, n2, n3, n4⟩ | ⟨n1, n2, n3 | n3⟩
        · simp only [go_sem, Int.cast_ofNat_Int, Int.reduceToNat, Nat.reduceAdd, Nat.reduceBEq, Nat.reduceLeDiff, Nat.reduceLT, Nat.reduceMul, Nat.reduceSub, Int.reduceEq, Int.reduceLT, Int.reduceLE, Int.reduceNeg, q1, q2, q3, q4, w1, w2, h26, n1, n2, decide_eq_false n3, decide_eq_false n4, h15, h17, put1]
        · simp only [go_sem, Int.cast_ofNat_Int, Int.reduceToNat, Nat.reduceAdd, Nat.reduceBEq, Nat.reduceLeDiff, Nat.reduceLT, Nat.reduceMul, Nat.reduceSub, Int.reduceEq, Int.reduceLT, Int.reduceLE, Int.reduceNeg, q1, q2, q3, q4, w1, w2, h26, n1, n2, decide_eq_false n3, decide_eq_false n4, h15, h17, put1]
        · simp only [go_sem, Int.cast_ofNat_Int, Int.reduceToNat, Nat.reduceAdd, Nat.reduceBEq, Nat.reduceLeDiff, Nat.reduceLT, Nat.reduceMul, Nat.reduceSub, Int.reduceEq, Int.reduceLT, Int.reduceLE, Int.reduceNeg, q1, q2, q3, q4, w1, w2, h26, n1, n2, n3, h15, h17, put1]
        · simp only [go_sem, Int.cast_ofNat_Int, Int.reduceToNat, Nat.reduceAdd, Nat.reduceBEq, Nat.reduceLeDiff, Nat.reduceLT, Nat.reduceMul, Nat.reduceSub, Int.reduceEq, Int.reduceLT, Int.reduceLE, Int.reduceNeg, q1, q2, q3, q4, w1, w2, h26, n1, n2, n3, h15, h17, put1]
      · have n1 := new_out hxy
        cases e1 : decide (0 ≤ x) with
        | false => simp only [go_sem, Int.cast_ofNat_Int, Int.reduceToNat, Nat.reduceAdd, Nat.reduceBEq, Nat.reduceLeDiff, Nat.reduceLT, Nat.reduceMul, Nat.reduceSub, Int.reduceEq, Int.reduceLT, Int.reduceLE, Int.reduceNeg, e1, h26, n1, h15, h17, put1]
        | true =>
          cases e2 : decide (x ≤ 255) with
          | false => simp only [go_sem, Int.cast_ofNat_Int, Int.reduceToNat, Nat.reduceAdd, Nat.reduceBEq, Nat.reduceLeDiff, Nat.reduceLT, Nat.reduceMul, Nat.reduceSub, Int.reduceEq, Int.reduceLT, Int.reduceLE, Int.reduceNeg, e1, e2, h26, n1, h15, h17, put1]
          | true =>
            cases e3 : decide (0 ≤ y) with
            | false => simp only [go_sem, Int.cast_ofNat_Int, Int.reduceToNat, Nat.reduceAdd, Nat.reduceBEq, Nat.reduceLeDiff, Nat.reduceLT, Nat.reduceMul, Nat.reduceSub, Int.reduceEq, Int.reduceLT, Int.reduceLE, Int.reduceNeg, e1, e2, e3, h26, n1, h15, h17, put1]
            | true =>
              cases e4 : decide (y ≤ 255) with
              | false => simp only [go_sem, Int.cast_ofNat_Int, Int.reduceToNat, Nat.reduceAdd, Nat.reduceBEq, Nat.reduceLeDiff, Nat.reduceLT, Nat.reduceMul, Nat.reduceSub, Int.reduceEq, Int.reduceLT, Int.reduceLE, Int.reduceNeg, e1, e2, e3, e4, h26, n1, h15, h17, put1]
              | true => exact absurd ⟨⟨of_decide_eq_true e1, of_decide_eq_true e2⟩, of_decide_eq_true e3, of_decide_eq_true e4⟩ hxy
    | true =>
      have hok1 : okH v a b C = true ∧ okH (nxv v) b u C = true := by simpa using hok
      obtain ⟨⟨hv0, hv1⟩, _⟩ := okH_spec hok1.1
      obtain ⟨⟨hw0, hw1⟩, _⟩ := okH_spec hok1.2
      have hnv := nxv_eq hv0 hv1
      have n5 : newB (nxv v) v = true := by rw [new_in ⟨⟨hw0, hw1⟩, hv0, hv1⟩, decide_eq_true_eq, hnv]; omega
      have n6 : newB v (nxv v) = false := by rw [new_in ⟨⟨hv0, hv1⟩, hw0, hw1⟩, decide_eq_false_iff_not, hnv]; omega
      have h27 := fun H => s27 35 H [⟨v, a, b, C, f⟩, ⟨nxv v, b, u, C, false⟩] true (by simp [maxLen]) (fun h hh => by
        simp only [List.mem_cons, List.not_mem_nil, or_false] at hh
        rcases hh with rfl | rfl <;> (show C.length ≤ 1000; omega))
      rw [ca_two hok1.1 hok1.2] at h27
      simp only [hpsS, List.map_cons, List.map_nil] at h27
      simp only [nxV, nxE, hok, cond_true] at h17
      by_cases hxy : (0 ≤ x ∧ x ≤ 255) ∧ 0 ≤ y ∧ y ≤ 255
      · have q1 : decide (0 ≤ x) = true := decide_eq_true hxy.1.1
        have q2 : decide (x ≤ 255) = true := decide_eq_true hxy.1.2
        have q3 : decide (0 ≤ y) = true := decide_eq_true hxy.2.1
        have q4 : decide (y ≤ 255) = true := decide_eq_true hxy.2.2
        have w1 : w64 (x - y) = x - y := w64_id (by omega) (by omega)
        have w2 : w64 (y - x) = y - x := w64_id (by omega) (by omega)
        rcases new_three hxy with ⟨n1, n2, n3, n4⟩ | ⟨n1, n2, n3, n4⟩ | ⟨n1, n2, n3 | n3⟩
        · simp only [go_sem, Int.cast_ofNat_Int, Int.reduceToNat, Nat.reduceAdd, Nat.reduceBEq, Nat.reduceLeDiff, Nat.reduceLT, Nat.reduceMul, Nat.reduceSub, Int.reduceEq, Int.reduceLT, Int.reduceLE, Int.reduceNeg, q1, q2, q3, q4, w1, w2, h26, n1, n2, decide_eq_false n3, decide_eq_false n4, h15, h17, put1, n5, n6, h27]
        · simp only [go_sem, Int.cast_ofNat_Int, Int.reduceToNat, Nat.reduceAdd, Nat.reduceBEq, Nat.reduceLeDiff, Nat.reduceLT, Nat.reduceMul, Nat.reduceSub, Int.reduceEq, Int.reduceLT, Int.reduceLE, Int.reduceNeg, q1, q2, q3, q4, w1, w2, h26, n1, n2, decide_eq_false n3, decide_eq_false n4, h15, h17, put1, n5, n6, h27]
        · simp only [go_sem, Int.cast_ofNat_Int, Int.reduceToNat, Nat.reduceAdd, Nat.reduceBEq, Nat.reduceLeDiff, Nat.reduceLT, Nat.reduceMul, Nat.reduceSub, Int.reduceEq, Int.reduceLT, Int.reduceLE, Int.reduceNeg, q1, q2, q3, q4, w1, w2, h26, n1, n2, n3, h15, h17, put1, n5, n6, h27]
        · simp only [go_sem, Int.cast_ofNat_Int, Int.reduceToNat, Nat.reduceAdd, Nat.reduceBEq, Nat.reduceLeDiff, Nat.reduceLT, Nat.reduceMul, Nat.reduceSub, Int.reduceEq, Int.reduceLT, Int.reduceLE, Int.reduceNeg, q1, q2, q3, q4, w1, w2, h26, n1, n2, n3, h15, h17, put1, n5, n6, h27]
      · have n1 := new_out hxy
        cases e1 : decide (0 ≤ x) with
        | false => simp only [go_sem, Int.cast_ofNat_Int, Int.reduceToNat, Nat.reduceAdd, Nat.reduceBEq, Nat.reduceLeDiff, Nat.reduceLT, Nat.reduceMul, Nat.reduceSub, Int.reduceEq, Int.reduceLT, Int.reduceLE, Int.reduceNeg, e1, h26, n1, h15, h17, put1, n5, n6, h27]
        | true =>
          cases e2 : decide (x ≤ 255) with
          | false => simp only [go_sem, Int.cast_ofNat_Int, Int.reduceToNat, Nat.reduceAdd, Nat.reduceBEq, Nat.reduceLeDiff, Nat.reduceLT, Nat.reduceMul, Nat.reduceSub, Int.reduceEq, Int.reduceLT, Int.reduceLE, Int.reduceNeg, e1, e2, h26, n1, h15, h17, put1, n5, n6, h27]
          | true =>
            cases e3 : decide (0 ≤ y) with
            | false => simp only [go_sem, Int.cast_ofNat_Int, Int.reduceToNat, Nat.reduceAdd, Nat.reduceBEq, Nat.reduceLeDiff, Nat.reduceLT, Nat.reduceMul, Nat.reduceSub, Int.reduceEq, Int.reduceLT, Int.reduceLE, Int.reduceNeg, e1, e2, e3, h26, n1, h15, h17, put1, n5, n6, h27]
            | true =>
              cases e4 : decide (y ≤ 255) with
              | false => simp only [go_sem, Int.cast_ofNat_Int, Int.reduceToNat, Nat.reduceAdd, Nat.reduceBEq, Nat.reduceLeDiff, Nat.reduceLT, Nat.reduceMul, Nat.reduceSub, Int.reduceEq, Int.reduceLT, Int.reduceLE, Int.reduceNeg, e1, e2, e3, e4, h26, n1, h15, h17, put1, n5, n6, h27]
              | true => exact absurd ⟨⟨of_decide_eq_true e1, of_decide_eq_true e2⟩, of_decide_eq_true e3, of_decide_eq_true e4⟩ hxy
theorem law8 (xs : List SV) (h : FitsAll [hopD, (false, [.int .i64]), (true, [.int .i64, .int .i64])] xs) : ∃ m, call1 T m (.fn 8) xs heap0 = some (.bool true, heap0) := by
  obtain ⟨x1, r1, rfl, h1, h⟩ := fitsAll_cons h
  obtain ⟨x2, r2, rfl, h2, h⟩ := fitsAll_cons h
  obtain ⟨x3, r3, rfl, h3, h⟩ := fitsAll_cons h
  cases fitsAll_nil h
  obtain ⟨v, a, b, C, f, rfl, _⟩ := hop_of h1
  obtain ⟨u, rfl, _⟩ := fits_int (fitsA_one h2)
  obtain ⟨cs, rfl, k⟩ := fitsA_agg h3
  obtain ⟨x, _, rfl, _, k⟩ := fitsL_i k
  obtain ⟨y, _, rfl, _, k⟩ := fitsL_i k
  cases fitsL_nil' k
  exact ⟨41, s8 v a b C f u x y⟩
end Go.Sh
