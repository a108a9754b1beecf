

import Derived.Test.YtkbdhjibehdabaaC1
namespace Go.Sh
set_option linter.unusedSectionVars false
set_option linter.unnecessarySimpa false
set_option linter.unusedVariables false
set_option linter.unusedSimpArgs false
set_option maxRecDepth 100000
set_option maxHeartbeats 4000000
def nxv (v : Int) : Int := (w64 (v + 1)).tmod 256
def nxE (v a b : Int) (C : List Int) (u : Int) (D : List Int) : Int := bif okH v a b C && okH (nxv v) b u D then 0 else 1
def nxV (v a b : Int) (C : List Int) (u : Int) (D : List Int) : SV := bif okH v a b C && okH (nxv v) b u D then hl (nxv v) b u 1 D false else hl 0 0 0 0 [] true
theorem s17 (n : Nat) (H : Heap) (v a b : Int) (C : List Int) (f : Bool) (u : Int) (D : List Int) (g : Bool) (hC : C.length ≤ 1000) (hD : D.length ≤ 1000) : call1 T (n + 5) (.fn 17) [hl v a b 1 C f, .int .i64 u, .lst 1 (iS D) g] H = some (.tup [nxV v a b C u D, .int .i64 (nxE v a b C u D)], H) := by
  refine call_pure e17 (by rfl) ?_
  have h15 := fun H => s15 (n + 3) H D g hD
  have h1 := fun H => s24 n H v a b C f (Nat.le_trans hC (by decide))
  have h2 := fun H => s24 n H (nxv v) b u D false (Nat.le_trans hD (by decide))
  have hn : (w64 (v + 1)).tmod 256 = nxv v := rfl
  simp only [c17, heap0, go_sem, Int.cast_ofNat_Int, Int.reduceToNat, Nat.reduceAdd, Nat.reduceBEq, Nat.reduceLeDiff, Nat.reduceLT, Nat.reduceMul, Nat.reduceSub, Int.reduceEq, Int.reduceLT, Int.reduceLE, Int.reduceNeg, h15, hn, put1, h1]
  cases hok : okH v a b C with
  | false => simp only [go_sem, Int.cast_ofNat_Int, Int.reduceToNat, Nat.reduceAdd, Nat.reduceBEq, Nat.reduceLeDiff, Nat.reduceLT, Nat.reduceMul, Nat.reduceSub, Int.reduceEq, Int.reduceLT, Int.reduceLE, Int.reduceNeg, ckH_no hok, put1, nxV, nxE, hok]; rfl
  | true =>
    simp only [go_sem, Int.cast_ofNat_Int, Int.reduceToNat, Nat.reduceAdd, Nat.reduceBEq, Nat.reduceLeDiff, Nat.reduceLT, Nat.reduceMul, Nat.reduceSub, Int.reduceEq, Int.reduceLT, Int.reduceLE, Int.reduceNeg, ckH_yes hok, h2]
    cases hok2 : okH (nxv v) b u D with
    | false => simp only [go_sem, Int.cast_ofNat_Int, Int.reduceToNat, Nat.reduceAdd, Nat.reduceBEq, Nat.reduceLeDiff, Nat.reduceLT, Nat.reduceMul, Nat.reduceSub, Int.reduceEq, Int.reduceLT, Int.reduceLE, Int.reduceNeg, ckH_no hok2, put1, nxV, nxE, hok, hok2]; rfl
    | true => simp only [go_sem, Int.cast_ofNat_Int, Int.reduceToNat, Nat.reduceAdd, Nat.reduceBEq, Nat.reduceLeDiff, Nat.reduceLT, Nat.reduceMul, Nat.reduceSub, Int.reduceEq, Int.reduceLT, Int.reduceLE, Int.reduceNeg, ckH_yes hok2, put1, nxV, nxE, hok, hok2]
theorem s18 (n : Nat) (H : Heap) (v a b : Int) (C : List Int) (f : Bool) (u : Int) (D : List Int) (g : Bool) (hC : C.length ≤ 1000) (hD : D.length ≤ 1000) : call1 T (n + 4) (.fn 18) [hl v a b 1 C f, .int .i64 u, .lst 1 (iS D) g] H = some (.tup [nxV v a b C u D, .int .i64 (nxE v a b C u D)], H) := by
  refine call_pure e18 (by rfl) ?_
  have h1 := fun H => s25 n H v a b C f (Nat.le_trans hC (by decide))
  have h2 := fun H => s25 n H (nxv v) b u D false (Nat.le_trans hD (by decide))
  have hn : (w64 (v + 1)).tmod 256 = nxv v := rfl
  have hr : decide (D.length * 8 ≤ mostLen) = true := decide_eq_true (room8' hD)
  have hfz := fun H v => (Still.ints D).fz 0 H 5 v D.length 1 false (by rw [iS_len])
  have hfz2 := fun H v => (Still.ints D).fz 0 H 4 v D.length 1 false (by rw [iS_len])
  simp only [c18, heap0, go_sem, Int.cast_ofNat_Int, Int.reduceToNat, Nat.reduceAdd, Nat.reduceBEq, Nat.reduceLeDiff, Nat.reduceLT, Nat.reduceMul, Nat.reduceSub, Int.reduceEq, Int.reduceLT, Int.reduceLE, Int.reduceNeg, hn, put1, h1]
  cases hok : okH v a b C with
  | false => simp only [go_sem, Int.cast_ofNat_Int, Int.reduceToNat, Nat.reduceAdd, Nat.reduceBEq, Nat.reduceLeDiff, Nat.reduceLT, Nat.reduceMul, Nat.reduceSub, Int.reduceEq, Int.reduceLT, Int.reduceLE, Int.reduceNeg, ckH_no hok, put1, nxV, nxE, hok]; rfl
  | true =>
    simp only [go_sem, Int.cast_ofNat_Int, Int.reduceToNat, Nat.reduceAdd, Nat.reduceBEq, Nat.reduceLeDiff, Nat.reduceLT, Nat.reduceMul, Nat.reduceSub, Int.reduceEq, Int.reduceLT, Int.reduceLE, Int.reduceNeg, ckH_yes hok, hn, hr, put1, hfz, h2]
    cases hok2 : okH (nxv v) b u D with
    | false => simp only [go_sem, Int.cast_ofNat_Int, Int.reduceToNat, Nat.reduceAdd, Nat.reduceBEq, Nat.reduceLeDiff, Nat.reduceLT, Nat.reduceMul, Nat.reduceSub, Int.reduceEq, Int.reduceLT, Int.reduceLE, Int.reduceNeg, ckH_no hok2, put1, nxV, nxE, hok, hok2]; rfl
    | true => simp only [go_sem, Int.cast_ofNat_Int, Int.reduceToNat, Nat.reduceAdd, Nat.reduceBEq, Nat.reduceLeDiff, Nat.reduceLT, Nat.reduceMul, Nat.reduceSub, Int.reduceEq, Int.reduceLT, Int.reduceLE, Int.reduceNeg, ckH_yes hok2, put1, nxV, nxE, hok, hok2, hfz2]
theorem nxv_eq {v : Int} (h0 : 0 ≤ v) (h1 : v ≤ 255) : nxv v = (v + 1) % 256 := by
  unfold nxv
  rw [w64_id (by omega) (by omega), Int.tmod_eq_emod_of_nonneg (by omega)]
theorem iS_nil : iS [] = [] := rfl
theorem new_out {x y : Int} (h : ¬ ((0 ≤ x ∧ x ≤ 255) ∧ 0 ≤ y ∧ y ≤ 255)) : newB x y = false := by
  rw [Bool.eq_false_iff]
  intro hb
  simp only [newB, Bool.and_eq_true, decide_eq_true_eq] at hb
  exact h ⟨⟨hb.1.1.1.1.1, hb.1.1.1.1.2⟩, hb.1.1.1.2, hb.1.1.2⟩
theorem new_in {x y : Int} (h : (0 ≤ x ∧ x ≤ 255) ∧ 0 ≤ y ∧ y ≤ 255) : newB x y = decide (1 ≤ (x - y) % 256 ∧ (x - y) % 256 ≤ 127) := by
  rw [Bool.eq_iff_iff]
  simp only [newB, Bool.and_eq_true, decide_eq_true_eq]
  omega
theorem new_three {x y : Int} (h : (0 ≤ x ∧ x ≤ 255) ∧ 0 ≤ y ∧ y ≤ 255) : (newB x y = true ∧ newB y x = false ∧ max (x - y) (y - x) ≠ 0 ∧ max (x - y) (y - x) ≠ 128) ∨ (newB x y = false ∧ newB y x = true ∧ max (x - y) (y - x) ≠ 0 ∧ max (x - y) (y - x) ≠ 128) ∨
    (newB x y = false ∧ newB y x = false ∧ (max (x - y) (y - x) = 0 ∨ max (x - y) (y - x) = 128)) := by
  rw [new_in h, new_in ⟨h.2, h.1⟩]
  simp only [decide_eq_true_eq, decide_eq_false_iff_not]
  omega
theorem ca_two {v a b : Int} {C : List Int} {f : Bool} {u : Int} (h1 : okH v a b C = true) (h2 : okH (nxv v) b u C = true) : caE [⟨v, a, b, C, f⟩, ⟨nxv v, b, u, C, false⟩] = 0 := by
  have e0 : errAt [⟨v, a, b, C, f⟩, ⟨nxv v, b, u, C, false⟩] 0 = 0 := by simp [errAt, h1]
  have e1 : errAt [⟨v, a, b, C, f⟩, ⟨nxv v, b, u, C, false⟩] 1 = 0 := by
    show (bif okH (nxv v) b u C then (bif decide (b = b) then (bif decide (nxv v = nxv v) then 0 else 23) else 5) else 1 : Int) = 0
    simp [h2]
  have : fstE (errAt [⟨v, a, b, C, f⟩, ⟨nxv v, b, u, C, false⟩]) 2 = 0 := fstE_none (fun j hj => by
    rcases (show j = 0 ∨ j = 1 by omega) with rfl | rfl
    · exact e0
    · exact e1)
  simpa [caE] using this
theorem s8 (v a b : Int) (C : List Int) (f : Bool) (u x y : Int) : call1 T 41 (.fn 8) [hl v a b 1 C f, .int .i64 u, .agg [.int .i64 x, .int .i64 y]] heap0 = some (.bool true, heap0) := by
  refine call_pure e8 (by rfl) ?_
  have h11 := s11
  simp only [c8, heap0, go_sem, Int.cast_ofNat_Int, Int.reduceToNat, Nat.reduceAdd, Nat.reduceBEq, Nat.reduceLeDiff, Nat.reduceLT, Nat.reduceMul, Nat.reduceSub, Int.reduceEq, Int.reduceLT, Int.reduceLE, Int.reduceNeg, h11]
  with_reducible refine fork_split (fun h => ?_) (fun h => ?_)
  · simp only [go_sem, Int.cast_ofNat_Int, Int.reduceToNat, Nat.reduceAdd, Nat.reduceBEq, Nat.reduceLeDiff, Nat.reduceLT, Nat.reduceMul, Nat.reduceSub, Int.reduceEq, Int.reduceLT, Int.reduceLE, Int.reduceNeg]
  · have hC : C.length ≤ 20 := by simp only [decide_eq_false_iff_not] at h; omega
    have h26 := fun H a b => s26 39 H a b
    have h15 := fun H => s15 39 H C f (by omega)
    have h17 := fun H => s17 35 H v a b C f u C false (by omega) (by omega)
    have hm0 : ∀ z : Int, ¬ z = 0 → decide (z = 0) = false := fun z h => decide_eq_false h
    cases hok : (okH v a b C && okH (nxv v) b u C) with
    | false =>
      simp only [nxV, nxE, hok, cond_false, hl, iS_nil] at h17
      by_cases hxy : (0 ≤ x ∧ x ≤ 255) ∧ 0 ≤ y ∧ y ≤ 255
      · have q1 : decide (0 ≤ x) = true := decide_eq_true hxy.1.1
        have q2 : decide (x ≤ 255) = true := decide_eq_true hxy.1.2
        have q3 : decide (0 ≤ y) = true := decide_eq_true hxy.2.1
        have q4 : decide (y ≤ 255) = true := decide_eq_true hxy.2.2
        have w1 : w64 (x - y) = x - y := w64_id (by omega) (by omega)
        have w2 : w64 (y - x) = y - x := w64_id (by omega) (by omega)
        rcases new_three hxy with ⟨n1, n2, n3, n4⟩ | ⟨n1, n2, n3, n4⟩ | ⟨n1, n2, n3 | n3⟩
        · simp only [go_sem, Int.cast_ofNat_Int, Int.reduceToNat, Nat.reduceAdd, Nat.reduceBEq, Nat.reduceLeDiff, Nat.reduceLT, Nat.reduceMul, Nat.reduceSub, Int.reduceEq, Int.reduceLT, Int.reduceLE, Int.reduceNeg, q1, q2, q3, q4, w1, w2, h26, n1, n2, decide_eq_false n3, decide_eq_false n4, h15, h17, put1]
        · simp only [go_sem, Int.cast_ofNat_Int, Int.reduceToNat, Nat.reduceAdd, Nat.reduceBEq, Nat.reduceLeDiff, Nat.reduceLT, Nat.reduceMul, Nat.reduceSub, Int.reduceEq, Int.reduceLT, Int.reduceLE, Int.reduceNeg, q1, q2, q3, q4, w1, w2, h26, n1, n2, decide_eq_false n3, decide_eq_false n4, h15, h17, put1]
        · simp only [go_sem, Int.cast_ofNat_Int, Int.reduceToNat, Nat.reduceAdd, Nat.reduceBEq, Nat.reduceLeDiff, Nat.reduceLT, Nat.reduceMul, Nat.reduceSub, Int.reduceEq, Int.reduceLT, Int.reduceLE, Int.reduceNeg, q1, q2, q3, q4, w1, w2, h26, n1, n2, n3, h15, h17, put1]
        · simp only [go_sem, Int.cast_ofNat_Int, Int.reduceToNat, Nat.reduceAdd, Nat.reduceBEq, Nat.reduceLeDiff, Nat.reduceLT, Nat.reduceMul, Nat.reduceSub, Int.reduceEq, Int.reduceLT, Int.reduceLE, Int.reduceNeg, q1, q2, q3, q4, w1, w2, h26, n1, n2, n3, h15, h17, put1]
      · have n1 := new_out hxy
        cases e1 : decide (0 ≤ x) with
        | false => simp only [go_sem, Int.cast_ofNat_Int, Int.reduceToNat, Nat.reduceAdd, Nat.reduceBEq, Nat.reduceLeDiff, Nat.reduceLT, Nat.reduceMul, Nat.reduceSub, Int.reduceEq, Int.reduceLT, Int.reduceLE, Int.reduceNeg, e1, h26, n1, h15, h17, put1]
        | true =>
          cases e2 : decide (x ≤ 255) with
          | false => simp only [go_sem, Int.cast_ofNat_Int, Int.reduceToNat, Nat.reduceAdd, Nat.reduceBEq, Nat.reduceLeDiff, Nat.reduceLT, Nat.reduceMul, Nat.reduceSub, Int.reduceEq, Int.reduceLT, Int.reduceLE, Int.reduceNeg, e1, e2, h26, n1, h15, h17, put1]
          | true =>
            cases e3 : decide (0 ≤ y) with
            | false => simp only [go_sem, Int.cast_ofNat_Int, Int.reduceToNat, Nat.reduceAdd, Nat.reduceBEq, Nat.reduceLeDiff, Nat.reduceLT, Nat.reduceMul, Nat.reduceSub, Int.reduceEq, Int.reduceLT, Int.reduceLE, Int.reduceNeg, e1, e2, e3, h26, n1, h15, h17, put1]
            | true =>
              cases e4 : decide (y ≤ 255) with
              | false => simp only [go_sem, Int.cast_ofNat_Int, Int.reduceToNat, Nat.reduceAdd, Nat.reduceBEq, Nat.reduceLeDiff, Nat.reduceLT, Nat.reduceMul, Nat.reduceSub, Int.reduceEq, Int.reduceLT, Int.reduceLE, Int.reduceNeg, e1, e2, e3, e4, h26, n1, h15, h17, put1]
              | true => exact absurd ⟨⟨of_decide_eq_true e1, of_decide_eq_true e2⟩, of_decide_eq_true e3, of_decide_eq_true e4⟩ hxy
    | true =>
      have hok1 : okH v a b C = true ∧ okH (nxv v) b u C = true := by simpa using hok
      obtain ⟨⟨hv0, hv1⟩, _⟩ := okH_spec hok1.1
      obtain ⟨⟨hw0, hw1⟩, _⟩ := okH_spec hok1.2
      have hnv := nxv_eq hv0 hv1
      have n5 : newB (nxv v) v = true := by rw [new_in ⟨⟨hw0, hw1⟩, hv0, hv1⟩, decide_eq_true_eq, hnv]; omega
      have n6 : newB v (nxv v) = false := by rw [new_in ⟨⟨hv0, hv1⟩, hw0, hw1⟩, decide_eq_false_iff_not, hnv]; omega
      have h27 := fun H => s27 35 H [⟨v, a, b, C, f⟩, ⟨nxv v, b, u, C, false⟩] true (by simp [maxLen]) (fun h hh => by
        simp only [List.mem_cons, List.not_mem_nil, or_false] at hh
        rcases hh with rfl | rfl <;> (show C.length ≤ 1000; omega))
      rw [ca_two hok1.1 hok1.2] at h27
      simp only [hpsS, List.map_cons, List.map_nil] at h27
      simp only [nxV, nxE, hok, cond_true] at h17
      by_cases hxy : (0 ≤ x ∧ x ≤ 255) ∧ 0 ≤ y ∧ y ≤ 255
      · have q1 : decide (0 ≤ x) = true := decide_eq_true hxy.1.1
        have q2 : decide (x ≤ 255) = true := decide_eq_true hxy.1.2
        have q3 : decide (0 ≤ y) = true := decide_eq_true hxy.2.1
        have q4 : decide (y ≤ 255) = true := decide_eq_true hxy.2.2
        have w1 : w64 (x - y) = x - y := w64_id (by omega) (by omega)
        have w2 : w64 (y - x) = y - x := w64_id (by omega) (by omega)
        rcases new_three hxy with ⟨n1, n2, n3, n4⟩ | ⟨n1, n2, n3, n4⟩ | ⟨n1, n2, n3 | n3⟩
        · simp only [go_sem, Int.cast_ofNat_Int, Int.reduceToNat, Nat.reduceAdd, Nat.reduceBEq, Nat.reduceLeDiff, Nat.reduceLT, Nat.reduceMul, Nat.reduceSub, Int.reduceEq, Int.reduceLT, Int.reduceLE, Int.reduceNeg, q1, q2, q3, q4, w1, w2, h26, n1, n2, decide_eq_false n3, decide_eq_false n4, h15, h17, put1, n5, n6, h27]
        · simp only [go_sem, Int.cast_ofNat_Int, Int.reduceToNat, Nat.reduceAdd, Nat.reduceBEq, Nat.reduceLeDiff, Nat.reduceLT, Nat.reduceMul, Nat.reduceSub, Int.reduceEq, Int.reduceLT, Int.reduceLE, Int.reduceNeg, q1, q2, q3, q4, w1, w2, h26, n1, n2, decide_eq_false n3, decide_eq_false n4, h15, h17, put1, n5, n6, h27]
        · simp only [go_sem, Int.cast_ofNat_Int, Int.reduceToNat, Nat.reduceAdd, Nat.reduceBEq, Nat.reduceLeDiff, Nat.reduceLT, Nat.reduceMul, Nat.reduceSub, Int.reduceEq, Int.reduceLT, Int.reduceLE, Int.reduceNeg, q1, q2, q3, q4, w1, w2, h26, n1, n2, n3, h15, h17, put1, n5, n6, h27]
        · simp only [go_sem, Int.cast_ofNat_Int, Int.reduceToNat, Nat.reduceAdd, Nat.reduceBEq, Nat.reduceLeDiff, Nat.reduceLT, Nat.reduceMul, Nat.reduceSub, Int.reduceEq, Int.reduceLT, Int.reduceLE, Int.reduceNeg, q1, q2, q3, q4, w1, w2, h26, n1, n2, n3, h15, h17, put1, n5, n6, h27]
      · have n1 := new_out hxy
        cases e1 : decide (0 ≤ x) with
        | false => simp only [go_sem, Int.cast_ofNat_Int, Int.reduceToNat, Nat.reduceAdd, Nat.reduceBEq, Nat.reduceLeDiff, Nat.reduceLT, Nat.reduceMul, Nat.reduceSub, Int.reduceEq, Int.reduceLT, Int.reduceLE, Int.reduceNeg, e1, h26, n1, h15, h17, put1, n5, n6, h27]
        | true =>
          cases e2 : decide (x ≤ 255) with
          | false => simp only [go_sem, Int.cast_ofNat_Int, Int.reduceToNat, Nat.reduceAdd, Nat.reduceBEq, Nat.reduceLeDiff, Nat.reduceLT, Nat.reduceMul, Nat.reduceSub, Int.reduceEq, Int.reduceLT, Int.reduceLE, Int.reduceNeg, e1, e2, h26, n1, h15, h17, put1, n5, n6, h27]
          | true =>
            cases e3 : decide (0 ≤ y) with
            | false => simp only [go_sem, Int.cast_ofNat_Int, Int.reduceToNat, Nat.reduceAdd, Nat.reduceBEq, Nat.reduceLeDiff, Nat.reduceLT, Nat.reduceMul, Nat.reduceSub, Int.reduceEq, Int.reduceLT, Int.reduceLE, Int.reduceNeg, e1, e2, e3, h26, n1, h15, h17, put1, n5, n6, h27]
            | true =>
              cases e4 : decide (y ≤ 255) with
              | false => simp only [go_sem, Int.cast_ofNat_Int, Int.reduceToNat, Nat.reduceAdd, Nat.reduceBEq, Nat.reduceLeDiff, Nat.reduceLT, Nat.reduceMul, Nat.reduceSub, Int.reduceEq, Int.reduceLT, Int.reduceLE, Int.reduceNeg, e1, e2, e3, e4, h26, n1, h15, h17, put1, n5, n6, h27]
              | true => exact absurd ⟨⟨of_decide_eq_true e1, of_decide_eq_true e2⟩, of_decide_eq_true e3, of_decide_eq_true e4⟩ hxy
theorem law8 (xs : List SV) (h : FitsAll [hopD, (false, [.int .i64]), (true, [.int .i64, .int .i64])] xs) : ∃ m, call1 T m (.fn 8) xs heap0 = some (.bool true, heap0) := by
  obtain ⟨x1, r1, rfl, h1, h⟩ := fitsAll_cons h
  obtain ⟨x2, r2, rfl, h2, h⟩ := fitsAll_cons h
  obtain ⟨x3, r3, rfl, h3, h⟩ := fitsAll_cons h
  cases fitsAll_nil h
  obtain ⟨v, a, b, C, f, rfl, _⟩ := hop_of h1
  obtain ⟨u, rfl, _⟩ := fits_int (fitsA_one h2)
  obtain ⟨cs, rfl, k⟩ := fitsA_agg h3
  obtain ⟨x, _, rfl, _, k⟩ := fitsL_i k
  obtain ⟨y, _, rfl, _, k⟩ := fitsL_i k
  cases fitsL_nil' k
  exact ⟨41, s8 v a b C f u x y⟩
end Go.Sh
namespace Go.Sh
set_option linter.unusedSectionVars false
set_option linter.unnecessarySimpa false
set_option linter.unusedVariables false
set_option linter.unusedSimpArgs false
set_option maxRecDepth 100000
set_option maxHeartbeats 4000000
def bx (f : Nat → Bool) : List SV := (List.range 16).map fun j => .bool (f j)
@[go_sem] theorem bx_len (f) : (bx f).length = 16 := by simp [bx]
theorem bx_get {f : Nat → Bool} {j : Nat} (h : j < 16) : (bx f)[j]? = some (.bool (f j)) := by simp [bx, h]
theorem put1_set {cs : List SV} {o : Nat} {x : SV} (h : o < cs.length) : put1 cs o 1 [x] = cs.set o x := by
  rw [put1, List.set_eq_take_append_cons_drop, if_pos h]
  simp
theorem bx_set {f : Nat → Bool} {c : Nat} (h : c < 16) : put1 (bx f) c 1 [.bool true] = bx (fun j => f j || j == c) := by
  rw [put1_set (by rw [bx_len]; exact h)]
  apply List.ext_getElem?
  intro j
  by_cases hj : j < 16
  · rw [bx_get hj]
    by_cases hjc : j = c
    · subst hjc
      rw [List.getElem?_set_self (by rw [bx_len]; exact hj)]
      simp
    · rw [List.getElem?_set_ne (fun e => hjc e.symm), bx_get hj]
      simp [hjc]
  · rw [List.getElem?_eq_none (by simp [bx_len]; omega), List.getElem?_eq_none (by rw [bx_len]; omega)]
theorem bx_set' {f : Nat → Bool} {c : Nat} (h : c < 16) : List.take c (bx f) ++ [SV.bool true] ++ List.drop (c + 1) (bx f) = bx (fun j => f j || j == c) := bx_set h
theorem bx_congr {f g : Nat → Bool} (h : ∀ j, f j = g j) : bx f = bx g := by rw [show f = g from funext h]
def st1 (C B : List Int) (i : Nat) (j : Nat) : Bool := decide ((j : Int) ∈ C.take i) && !decide ((j : Int) ∈ B)
def ct1 (C B : List Int) (i : Nat) : Nat := ((C.take i).filter (fun c => !decide (c ∈ B))).length
theorem ct1_le (C B i) : ct1 C B i ≤ i := Nat.le_trans (List.length_filter_le _ _) (by simp; omega)
theorem chan_nat {c : Int} (h : chanB c = true) : ∃ k : Nat, c = k ∧ k < 16 := by
  simp only [chanB, Bool.and_eq_true, decide_eq_true_eq] at h
  exact ⟨c.toNat, by omega, by omega⟩
theorem st1_yes {C B : List Int} {i k : Nat} (hc : C[i]? = some (k : Int)) (hb : ¬ (k : Int) ∈ B) (j : Nat) : (st1 C B i j || j == k) = st1 C B (i + 1) j := by
  simp only [st1, take_snoc hc, List.mem_append, List.mem_singleton]
  by_cases h : j = k
  · subst h; simp [hb]
  · have : ¬ (j : Int) = (k : Int) := by omega
    simp [h, this]
theorem st1_no {C B : List Int} {i : Nat} {c : Int} (hc : C[i]? = some c) (hb : c ∈ B) (j : Nat) : st1 C B (i + 1) j = st1 C B i j := by
  simp only [st1, take_snoc hc, List.mem_append, List.mem_singleton]
  by_cases h : (j : Int) = c
  · subst h; simp [hb]
  · simp [h]
theorem ct1_yes {C B : List Int} {i : Nat} {c : Int} (hc : C[i]? = some c) (hb : ¬ c ∈ B) : ct1 C B (i + 1) = ct1 C B i + 1 := by
  simp [ct1, take_snoc hc, List.filter_append, hb]
theorem ct1_no {C B : List Int} {i : Nat} {c : Int} (hc : C[i]? = some c) (hb : c ∈ B) : ct1 C B (i + 1) = ct1 C B i := by
  simp [ct1, take_snoc hc, List.filter_append, hb]
/-- What is kept of the blacklist's first channels. -/
def kp (C B : List Int) (least : Int) : Nat → List Int
  | 0 => []
  | i + 1 => match B[i]? with
    | some c => bif decide ((ct1 C B C.length : Int) + (kp C B least i).length < least) && (decide (c ∈ C) && !decide (c ∈ kp C B least i)) then kp C B least i ++ [c] else kp C B least i
    | none => kp C B least i
theorem kp_len (C B least) : ∀ i, (kp C B least i).length ≤ i
  | 0 => Nat.le_refl 0
  | i + 1 => by
    have ih := kp_len C B least i
    unfold kp
    split
    · rename_i c hc
      cases (decide ((ct1 C B C.length : Int) + (kp C B least i).length < least) && (decide (c ∈ C) && !decide (c ∈ kp C B least i))) <;> simp <;> omega
    · omega
theorem kp_step {C B : List Int} {least : Int} {i : Nat} {c : Int} (hc : B[i]? = some c) : kp C B least (i + 1) = bif decide ((ct1 C B C.length : Int) + (kp C B least i).length < least) && (decide (c ∈ C) && !decide (c ∈ kp C B least i)) then kp C B least i ++ [c] else kp C B least i := by
  simp [kp, hc]
theorem kp_stop {C B : List Int} {least : Int} {i : Nat} (h : ¬ (ct1 C B C.length : Int) + (kp C B least i).length < least) : ∀ k, kp C B least (i + k) = kp C B least i
  | 0 => rfl
  | k + 1 => by
    have ih := kp_stop h k
    show kp C B least ((i + k) + 1) = _
    cases hb : B[i + k]? with
    | none => rw [← ih]; simp [kp, hb]
    | some c => rw [kp_step hb, ih, decide_eq_false h]; rfl
def wl (C B : List Int) (least : Int) : List Int := C.filter fun y => !decide (y ∈ B) || decide (y ∈ kp C B least B.length)
def badB (B : List Int) : Bool := B.any fun c => !chanB c
def woE (C B : List Int) (least : Int) : Int := bif difB C && (decide (B.length ≤ 64) && !badB B) then (bif decide (1 ≤ least) && decide (least ≤ (C.length : Int)) then 0 else 2) else 1
def woV (C B : List Int) (least : Int) : SV := bif decide (woE C B least = 0) then .lst 1 (iS (wl C B least)) false else .lst 0 [] true
theorem s39 (n : Nat) (H : Heap) (c : Int) : call1 T (n + 2) (.fn 39) [.int .i64 c] H = some (.bool (!chanB c), H) := by
  refine call_pure e39 (by rfl) ?_
  simp only [c39, heap0, go_sem, Int.cast_ofNat_Int, Int.reduceToNat, Nat.reduceAdd, Nat.reduceBEq, Nat.reduceLeDiff, Nat.reduceLT, Nat.reduceMul, Nat.reduceSub, Int.reduceEq, Int.reduceLT, Int.reduceLE, Int.reduceNeg, s40]
def toI (r : List SV) : Int := match r with | [.int _ x] => x | _ => 0
theorem any_iS (p : Int → Bool) (L : List Int) : (iS L).any (fun r => p (toI r)) = L.any p := by
  simp only [iS, List.any_map]
  rfl
theorem s38 (n : Nat) (H : Heap) (B : List Int) (f : Bool) (hB : B.length ≤ maxLen) : call1 T (n + 4) (.fn 38) [.lst 1 (iS B) f, .fn 39 []] H = some (.bool (badB B), H) := by
  have := stdCF_ok (T := T) (f := 38) (n := n + 2) (H := H) (ag := false) (z := 1) (id := 39) (caps := []) (v := .lst 1 (iS B) f) (L := iS B) (p := fun r => !chanB (toI r)) x38 x51 lvI (iS_row B) (fun _ => rfl) (by rw [iS_len]; exact hB)
    (fun r hr bl ro _ => by
      simp only [iS, List.mem_map] at hr
      obtain ⟨c, _, rfl⟩ := hr
      exact s39 n ⟨bl, [], ro⟩ c) (by simp [SV.refs.refsL])
  rw [any_iS (fun c => !chanB c)] at this
  exact this
theorem s42 (n : Nat) (bl : List SBlk) (ro : Nat) (c : Int) (f : Nat → Bool) (X : SBlk) (hb : bl = [.box (bx f), X]) (hc : chanB c = true) : call1 T (n + 1) (.fn 42) [.int .i64 c, .ptr 0 0 0 0] ⟨bl, [], ro⟩ = some (.bool (!f c.toNat), ⟨bl, [], ro⟩) := by
  subst hb
  obtain ⟨k, rfl, hk⟩ := chan_nat hc
  refine call_in e42 (by rfl) ?_
  have hk' : decide ((k : Int) < 16) = true := decide_eq_true (by omega)
  simp only [c42, go_sem, Int.cast_ofNat_Int, Int.reduceToNat, Nat.reduceAdd, Nat.reduceBEq, Nat.reduceLeDiff, Nat.reduceLT, Nat.reduceMul, Nat.reduceSub, Int.reduceEq, Int.reduceLT, Int.reduceLE, Int.reduceNeg, hk', Nat.mul_one, bx_get hk]
theorem bad_chan {B : List Int} (h : badB B = false) {c : Int} (hc : c ∈ B) : chanB c = true := by
  have := List.any_eq_false.1 h c hc
  simpa using this
theorem dif_mem {C : List Int} (h : difB C = true) {c : Int} (hc : c ∈ C) : chanB c = true := by
  obtain ⟨i, hi⟩ := List.mem_iff_getElem?.1 hc
  exact difB_chan h hi
def st2 (C B : List Int) (least : Int) (i : Nat) (j : Nat) : Bool := st1 C B C.length j || decide ((j : Int) ∈ kp C B least i)
theorem fz_take {L : List (List SV)} (h : Still L) (N H d v n z) (hn : n ≤ L.length) : fzB N H (d + 1) v 0 n (some (.arr v z L false)) = some (.lst z (L.take n) false) := by
  have hs : Still (L.take n) := fun cs hcs c hc => h cs (List.mem_of_mem_take hcs) c hc
  simp only [fzB, List.drop_zero, Nat.zero_add, beq_self_eq_true, Bool.true_and, hn, decide_true, cond_true, Bool.false_and]
  rw [allS_id (fun cs hcs => allS_id (fun c hc => (hs cs hcs c hc).2 N H d))]
  simp [hs.zero]
theorem refs_bx (f : Nat → Bool) : SV.refs.refsL (bx f) = 0 := by
  have key : ∀ (l : List Nat), SV.refs.refsL (l.map fun j => SV.bool (f j)) = 0 := by
    intro l
    induction l with
    | nil => simp [SV.refs.refsL]
    | cons a l ih => simp [SV.refs.refsL, SV.refs, ih]
  exact key _
theorem s14 (n : Nat) (H : Heap) (C B : List Int) (f g : Bool) (least : Int) (hC : C.length ≤ 1000) (hB : B.length ≤ 1000) : call1 T (n + 5) (.fn 14) [.lst 1 (iS C) f, .lst 1 (iS B) g, .int .i64 least] H = some (.tup [woV C B least, .int .i64 (woE C B least)], H) := by
  refine call_pure e14 (by rfl) ?_
  have hCm : C.length ≤ maxLen := Nat.le_trans hC (by decide)
  have hBm : B.length ≤ maxLen := Nat.le_trans hB (by decide)
  have h37 := fun H => s37 (n + 1) H C f hCm
  have h38 := fun H => s38 n H B g hBm
  have hd64 : decide (64 < (B.length : Int)) = !decide (B.length ≤ 64) := by
    rw [Bool.eq_iff_iff, Bool.not_eq_true', decide_eq_true_eq, decide_eq_false_iff_not]; omega
  simp only [c14, heap0, go_sem, Int.cast_ofNat_Int, Int.reduceToNat, Nat.reduceAdd, Nat.reduceBEq, Nat.reduceLeDiff, Nat.reduceLT, Nat.reduceMul, Nat.reduceSub, Int.reduceEq, Int.reduceLT, Int.reduceLE, Int.reduceNeg, h37, hd64]
  cases hd : difB C with
  | false => simp only [go_sem, Int.cast_ofNat_Int, Int.reduceToNat, Nat.reduceAdd, Nat.reduceBEq, Nat.reduceLeDiff, Nat.reduceLT, Nat.reduceMul, Nat.reduceSub, Int.reduceEq, Int.reduceLT, Int.reduceLE, Int.reduceNeg, woV, woE, hd]
  | true =>
    cases h64 : decide (B.length ≤ 64) with
    | false => simp only [go_sem, Int.cast_ofNat_Int, Int.reduceToNat, Nat.reduceAdd, Nat.reduceBEq, Nat.reduceLeDiff, Nat.reduceLT, Nat.reduceMul, Nat.reduceSub, Int.reduceEq, Int.reduceLT, Int.reduceLE, Int.reduceNeg, woV, woE, hd, hd64, h64]
    | true =>
      simp only [go_sem, Int.cast_ofNat_Int, Int.reduceToNat, Nat.reduceAdd, Nat.reduceBEq, Nat.reduceLeDiff, Nat.reduceLT, Nat.reduceMul, Nat.reduceSub, Int.reduceEq, Int.reduceLT, Int.reduceLE, Int.reduceNeg, hd64, h64, h38]
      cases hbad : badB B with
      | true => simp only [go_sem, Int.cast_ofNat_Int, Int.reduceToNat, Nat.reduceAdd, Nat.reduceBEq, Nat.reduceLeDiff, Nat.reduceLT, Nat.reduceMul, Nat.reduceSub, Int.reduceEq, Int.reduceLT, Int.reduceLE, Int.reduceNeg, woV, woE, hd, h64, hbad]
      | false =>
        simp only [go_sem, Int.cast_ofNat_Int, Int.reduceToNat, Nat.reduceAdd, Nat.reduceBEq, Nat.reduceLeDiff, Nat.reduceLT, Nat.reduceMul, Nat.reduceSub, Int.reduceEq, Int.reduceLT, Int.reduceLE, Int.reduceNeg]
        by_cases hle : 1 ≤ least ∧ least ≤ (C.length : Int)
        rotate_left
        · have : (decide (1 ≤ least) && decide (least ≤ (C.length : Int))) = false := by
            rw [Bool.and_eq_false_iff]; simp only [decide_eq_false_iff_not]; omega
          by_cases h1 : least < 1
          · simp only [go_sem, Int.cast_ofNat_Int, Int.reduceToNat, Nat.reduceAdd, Nat.reduceBEq, Nat.reduceLeDiff, Nat.reduceLT, Nat.reduceMul, Nat.reduceSub, Int.reduceEq, Int.reduceLT, Int.reduceLE, Int.reduceNeg, decide_eq_true h1, woV, woE, hd, h64, hbad, this]
          · have h2 : decide ((C.length : Int) < least) = true := decide_eq_true (by omega)
            simp only [go_sem, Int.cast_ofNat_Int, Int.reduceToNat, Nat.reduceAdd, Nat.reduceBEq, Nat.reduceLeDiff, Nat.reduceLT, Nat.reduceMul, Nat.reduceSub, Int.reduceEq, Int.reduceLT, Int.reduceLE, Int.reduceNeg, decide_eq_false h1, h2, woV, woE, hd, h64, hbad, this]
        · have q1 : decide (least < 1) = false := decide_eq_false (by omega)
          have q2 : decide ((C.length : Int) < least) = false := decide_eq_false (by omega)
          have q3 : decide (1 ≤ least) = true := decide_eq_true hle.1
          have q4 : decide (least ≤ (C.length : Int)) = true := decide_eq_true hle.2
          have hwo : woE C B least = 0 := by simp [woE, hd, h64, hbad, q3, q4]
          have hwv : woV C B least = .lst 1 (iS (wl C B least)) false := by simp [woV, hwo]
          have hinit : ([.bool false, .bool false, .bool false, .bool false, .bool false, .bool false, .bool false, .bool false, .bool false, .bool false, .bool false, .bool false, .bool false, .bool false, .bool false, .bool false] : List SV) = bx (st1 C B 0) := by
            refine Eq.trans (b := bx (fun _ => false)) rfl (bx_congr (fun j => ?_))
            simp [st1]
          rw [hwo, hwv]
          simp only [go_sem, Int.cast_ofNat_Int, Int.reduceToNat, Nat.reduceAdd, Nat.reduceBEq, Nat.reduceLeDiff, Nat.reduceLT, Nat.reduceMul, Nat.reduceSub, Int.reduceEq, Int.reduceLT, Int.reduceLE, Int.reduceNeg, q1, q2, hinit]
          refine loop_rule (fun i => ([(0, .lst 1 (iS C) f), (1, .lst 1 (iS B) g), (2, .int .i64 least), (8, .ptr 0 0 0 0), (9, .int .i64 (ct1 C B i)), (34, .lst 1 (iS C) f), (35, .int .i64 C.length), (36, .int .i64 i)], ⟨[.box (bx (st1 C B i))], [], 0⟩)) (fun _ => True) C.length ?_ trivial ?_
          · simp only [go_sem, Int.cast_ofNat_Int, Int.reduceToNat, Nat.reduceAdd, Nat.reduceBEq, Nat.reduceLeDiff, Nat.reduceLT, Nat.reduceMul, Nat.reduceSub, Int.reduceEq, Int.reduceLT, Int.reduceLE, Int.reduceNeg] <;> rfl
          · intro i hi _
            rcases Nat.lt_or_ge i C.length with hlt | hge
            · obtain ⟨c, hc⟩ := getS hlt
              have hw := w64_suc hlt hCm
              obtain ⟨k, rfl, hk⟩ := chan_nat (difB_chan hd hc)
              have hk' : decide ((k : Int) < 16) = true := decide_eq_true (by omega)
              have hk16 : decide (k ≤ 15) = true := decide_eq_true (by omega)
              have h13 := fun H => stdCon_ok (n := n + 2) (H := H) (v := .lst 1 (iS B) g) (M := B) (x := (k : Int)) x13 x36 lvI hBm
              simp only [go_sem, Int.cast_ofNat_Int, Int.reduceToNat, Nat.reduceAdd, Nat.reduceBEq, Nat.reduceLeDiff, Nat.reduceLT, Nat.reduceMul, Nat.reduceSub, Int.reduceEq, Int.reduceLT, Int.reduceLE, Int.reduceNeg, hlt, hc, h13]
              cases hm : decide ((k : Int) ∈ B) with
              | true =>
                have hm' := of_decide_eq_true hm
                simp only [go_sem, Int.cast_ofNat_Int, Int.reduceToNat, Nat.reduceAdd, Nat.reduceBEq, Nat.reduceLeDiff, Nat.reduceLT, Nat.reduceMul, Nat.reduceSub, Int.reduceEq, Int.reduceLT, Int.reduceLE, Int.reduceNeg, hw, ct1_no hc hm', bx_congr (st1_no hc hm')]
                refine ⟨by first | trivial | omega, by first | trivial | rfl, ?_⟩
                trivial
              | false =>
                have hm' := of_decide_eq_false hm
                have hwn := w64_suc (n := C.length) (i := ct1 C B i) (by have := ct1_le C B i; omega) hCm
                simp only [go_sem, Int.cast_ofNat_Int, Int.reduceToNat, Nat.reduceAdd, Nat.reduceBEq, Nat.reduceLeDiff, Nat.reduceLT, Nat.reduceMul, Nat.reduceSub, Int.reduceEq, Int.reduceLT, Int.reduceLE, Int.reduceNeg, hk', hk16, Nat.mul_one, bx_set' hk, bx_congr (st1_yes hc hm'), hw, hwn, ct1_yes hc hm']
                refine ⟨by first | trivial | omega, by first | trivial | rfl, ?_⟩
                trivial
            · obtain rfl : i = C.length := by omega
              have hst : bx (st1 C B C.length) = bx (st2 C B least 0) := bx_congr (fun j => by simp [st2, kp])
              have hct : (ct1 C B C.length : Int) = ((ct1 C B C.length + (kp C B least 0).length : Nat) : Int) := by simp [kp]
              simp only [go_sem, Int.cast_ofNat_Int, Int.reduceToNat, Nat.reduceAdd, Nat.reduceBEq, Nat.reduceLeDiff, Nat.reduceLT, Nat.reduceMul, Nat.reduceSub, Int.reduceEq, Int.reduceLT, Int.reduceLE, Int.reduceNeg, Nat.lt_irrefl]
              rw [hst, hct]
              refine loop_rule (fun i => ([(0, .lst 1 (iS C) f), (2, .int .i64 least), (8, .ptr 0 0 0 0), (9, .int .i64 ((ct1 C B C.length + (kp C B least i).length : Nat) : Int)), (49, .lst 1 (iS B) g), (50, .int .i64 B.length), (51, .int .i64 i)], ⟨[.box (bx (st2 C B least i))], [], 0⟩)) (fun _ => True) B.length ?_ trivial ?_
              · simp only [go_sem, Int.cast_ofNat_Int, Int.reduceToNat, Nat.reduceAdd, Nat.reduceBEq, Nat.reduceLeDiff, Nat.reduceLT, Nat.reduceMul, Nat.reduceSub, Int.reduceEq, Int.reduceLT, Int.reduceLE, Int.reduceNeg] <;> rfl
              · intro i hi _
                rcases Nat.lt_or_ge i B.length with hlt | hge
                · obtain ⟨c, hc⟩ := getS hlt
                  have hw := w64_suc hlt hBm
                  have hcB := List.mem_of_getElem? hc
                  obtain ⟨k, rfl, hk⟩ := chan_nat (bad_chan hbad hcB)
                  have hk' : decide ((k : Int) < 16) = true := decide_eq_true (by omega)
                  have hk16 : decide (k ≤ 15) = true := decide_eq_true (by omega)
                  have h13 := fun H => stdCon_ok (n := n + 2) (H := H) (v := .lst 1 (iS C) f) (M := C) (x := (k : Int)) x13 x36 lvI hCm
                  have hst : st2 C B least i k = decide ((k : Int) ∈ kp C B least i) := by simp [st2, st1, hcB]
                  have hkl := kp_len C B least i
                  have hcl := ct1_le C B C.length
                  have hks := kp_step (C := C) (least := least) hc
                  have hcc : decide (((ct1 C B C.length + (kp C B least i).length : Nat) : Int) < least) = decide ((ct1 C B C.length : Int) + (kp C B least i).length < least) := by simp
                  have same : kp C B least (i + 1) = kp C B least i → bx (st2 C B least i) = bx (st2 C B least (i + 1)) := fun e => bx_congr (fun j => by simp only [st2, e])
                  simp only [go_sem, Int.cast_ofNat_Int, Int.reduceToNat, Nat.reduceAdd, Nat.reduceBEq, Nat.reduceLeDiff, Nat.reduceLT, Nat.reduceMul, Nat.reduceSub, Int.reduceEq, Int.reduceLT, Int.reduceLE, Int.reduceNeg, hlt, hc, hcc]
                  cases h1 : decide ((ct1 C B C.length : Int) + (kp C B least i).length < least) with
                  | false =>
                    have hk1 : kp C B least (i + 1) = kp C B least i := by rw [hks, h1]; rfl
                    simp only [go_sem, Int.cast_ofNat_Int, Int.reduceToNat, Nat.reduceAdd, Nat.reduceBEq, Nat.reduceLeDiff, Nat.reduceLT, Nat.reduceMul, Nat.reduceSub, Int.reduceEq, Int.reduceLT, Int.reduceLE, Int.reduceNeg, hw, hk1, same hk1]
                    refine ⟨by first | trivial | omega, by first | trivial | rfl, ?_⟩
                    trivial
                  | true =>
                    simp only [go_sem, Int.cast_ofNat_Int, Int.reduceToNat, Nat.reduceAdd, Nat.reduceBEq, Nat.reduceLeDiff, Nat.reduceLT, Nat.reduceMul, Nat.reduceSub, Int.reduceEq, Int.reduceLT, Int.reduceLE, Int.reduceNeg, hk', Nat.mul_one, bx_get hk, hst]
                    cases h2 : decide ((k : Int) ∈ kp C B least i) with
                    | true =>
                      have hk1 : kp C B least (i + 1) = kp C B least i := by rw [hks, h1, h2]; simp
                      simp only [go_sem, Int.cast_ofNat_Int, Int.reduceToNat, Nat.reduceAdd, Nat.reduceBEq, Nat.reduceLeDiff, Nat.reduceLT, Nat.reduceMul, Nat.reduceSub, Int.reduceEq, Int.reduceLT, Int.reduceLE, Int.reduceNeg, hw, hk1, same hk1]
                      refine ⟨by first | trivial | omega, by first | trivial | rfl, ?_⟩
                      trivial
                    | false =>
                      simp only [go_sem, Int.cast_ofNat_Int, Int.reduceToNat, Nat.reduceAdd, Nat.reduceBEq, Nat.reduceLeDiff, Nat.reduceLT, Nat.reduceMul, Nat.reduceSub, Int.reduceEq, Int.reduceLT, Int.reduceLE, Int.reduceNeg, h13]
                      cases h3 : decide ((k : Int) ∈ C) with
                      | false =>
                        have hk1 : kp C B least (i + 1) = kp C B least i := by rw [hks, h1, h2, h3]; rfl
                        simp only [go_sem, Int.cast_ofNat_Int, Int.reduceToNat, Nat.reduceAdd, Nat.reduceBEq, Nat.reduceLeDiff, Nat.reduceLT, Nat.reduceMul, Nat.reduceSub, Int.reduceEq, Int.reduceLT, Int.reduceLE, Int.reduceNeg, hw, hk1, same hk1]
                        refine ⟨by first | trivial | omega, by first | trivial | rfl, ?_⟩
                        trivial
                      | true =>
                        have hk1 : kp C B least (i + 1) = kp C B least i ++ [(k : Int)] := by rw [hks, h1, h2, h3]; rfl
                        have hbx : bx (fun j => st2 C B least i j || j == k) = bx (st2 C B least (i + 1)) := bx_congr (fun j => by
                          simp only [st2, hk1, List.mem_append, List.mem_singleton]
                          by_cases hjk : j = k
                          · subst hjk; simp
                          · have : ¬ (j : Int) = (k : Int) := by omega
                            simp [hjk, this])
                        have hwn := w64_suc (n := 3000) (i := ct1 C B C.length + (kp C B least i).length) (by omega) (by decide)
                        have hln : (kp C B least (i + 1)).length = (kp C B least i).length + 1 := by rw [hk1]; simp
                        simp only [go_sem, Int.cast_ofNat_Int, Int.reduceToNat, Nat.reduceAdd, Nat.reduceBEq, Nat.reduceLeDiff, Nat.reduceLT, Nat.reduceMul, Nat.reduceSub, Int.reduceEq, Int.reduceLT, Int.reduceLE, Int.reduceNeg, hk', hk16, Nat.mul_one, bx_set' hk, hbx, hw, hwn, hln, Nat.add_assoc]
                        refine ⟨by first | trivial | omega, by first | trivial | rfl, ?_⟩
                        trivial
                · obtain rfl : i = B.length := by omega
                  have h15 := stdCloneK_ok (T := T) (f := 15) (n := n + 3) (z := 1) (z' := 1) (L := iS C) (fl := f) x15 (.inl rfl) (by rw [iS_len]; exact room8' hC) [.box (bx (st2 C B least B.length))] [] 0
                  obtain ⟨W, hW, h41⟩ := stdDel_ok (T := T) (f := 41) (n := n + 2) (id := 42) (caps := [.ptr 0 0 0 0]) (M := C) (p := fun y => !st2 C B least B.length y.toNat) (bl := [.box (bx (st2 C B least B.length)), .arr 0 1 (iS C) false]) (ro := 0) (b := 1) (ex := false) x41 x51 rfl (by omega) hCm
                    (fun y hy X ro m hm => by
                      have h42 := fun m => s42 m [.box (bx (st2 C B least B.length)), X] ro y (st2 C B least B.length) X rfl (dif_mem hd hy)
                      rcases hm with rfl | rfl
                      · exact h42 (n + 1)
                      · exact h42 (n + 2)) (by simp [SV.refs.refsL, SV.refs])
                  have hWw : W = wl C B least := by
                    rw [hW, wl]
                    refine List.filter_congr (fun y hy => ?_)
                    obtain ⟨k, rfl, hk⟩ := chan_nat (dif_mem hd hy)
                    simp [st2, st1, hy]
                  subst hWw
                  simp only [iS_len] at h15
                  have hfz := fun H v => fz_take (Still.ints (wl C B least ++ List.replicate (C.length - (wl C B least).length) 0)) 0 H 5 v (wl C B least).length 1 (by rw [iS_len]; simp)
                  have htk : (iS (wl C B least ++ List.replicate (C.length - (wl C B least).length) 0)).take (wl C B least).length = iS (wl C B least) := by rw [iS_take]; simp
                  simp only [go_sem, Int.cast_ofNat_Int, Int.reduceToNat, Nat.reduceAdd, Nat.reduceBEq, Nat.reduceLeDiff, Nat.reduceLT, Nat.reduceMul, Nat.reduceSub, Int.reduceEq, Int.reduceLT, Int.reduceLE, Int.reduceNeg, Nat.lt_irrefl, h15, h41, hfz, htk]
end Go.Sh
namespace Go.Sh
set_option linter.unusedSectionVars false
set_option linter.unnecessarySimpa false
set_option linter.unusedVariables false
set_option linter.unusedSimpArgs false
set_option maxRecDepth 100000
set_option maxHeartbeats 4000000
def wlk (C B : List Int) (least : Int) (k : Nat) : List Int := (C.take k).filter fun y => !decide (y ∈ B) || decide (y ∈ kp C B least B.length)
theorem wlk_len (C B least k) : (wlk C B least k).length ≤ k := Nat.le_trans (List.length_filter_le _ _) (by simp; omega)
theorem wlk_yes {C B : List Int} {least : Int} {k : Nat} {y : Int} (h : C[k]? = some y) (hq : (!decide (y ∈ B) || decide (y ∈ kp C B least B.length)) = true) : wlk C B least (k + 1) = wlk C B least k ++ [y] := by
  rw [wlk, take_snoc h, List.filter_append]
  simp only [List.filter_cons, hq, if_true, List.filter_nil]
  rfl
theorem wlk_no {C B : List Int} {least : Int} {k : Nat} {y : Int} (h : C[k]? = some y) (hq : (!decide (y ∈ B) || decide (y ∈ kp C B least B.length)) = false) : wlk C B least (k + 1) = wlk C B least k := by
  rw [wlk, take_snoc h, List.filter_append]
  simp only [List.filter_cons, hq, Bool.false_eq_true, if_false, List.filter_nil, List.append_nil]
  rfl
theorem s16 (n : Nat) (H : Heap) (C B : List Int) (f g : Bool) (least : Int) (hC : C.length ≤ 500) (hB : B.length ≤ 500) : call1 T (n + 4) (.fn 16) [.lst 1 (iS C) f, .lst 1 (iS B) g, .int .i64 least] H = some (.tup [woV C B least, .int .i64 (woE C B least)], H) := by
  refine call_pure e16 (by rfl) ?_
  have hCm : C.length ≤ maxLen := Nat.le_trans hC (by decide)
  have hBm : B.length ≤ maxLen := Nat.le_trans hB (by decide)
  have h43 := fun H => s43 (n + 1) H C f hCm
  have hd64 : decide (64 < (B.length : Int)) = !decide (B.length ≤ 64) := by
    rw [Bool.eq_iff_iff, Bool.not_eq_true', decide_eq_true_eq, decide_eq_false_iff_not]; omega
  simp only [c16, heap0, go_sem, Int.cast_ofNat_Int, Int.reduceToNat, Nat.reduceAdd, Nat.reduceBEq, Nat.reduceLeDiff, Nat.reduceLT, Nat.reduceMul, Nat.reduceSub, Int.reduceEq, Int.reduceLT, Int.reduceLE, Int.reduceNeg, h43, hd64]
  cases hd : difB C with
  | false => simp only [go_sem, Int.cast_ofNat_Int, Int.reduceToNat, Nat.reduceAdd, Nat.reduceBEq, Nat.reduceLeDiff, Nat.reduceLT, Nat.reduceMul, Nat.reduceSub, Int.reduceEq, Int.reduceLT, Int.reduceLE, Int.reduceNeg, woV, woE, hd]
  | true =>
    cases h64 : decide (B.length ≤ 64) with
    | false => simp only [go_sem, Int.cast_ofNat_Int, Int.reduceToNat, Nat.reduceAdd, Nat.reduceBEq, Nat.reduceLeDiff, Nat.reduceLT, Nat.reduceMul, Nat.reduceSub, Int.reduceEq, Int.reduceLT, Int.reduceLE, Int.reduceNeg, woV, woE, hd, hd64, h64]
    | true =>
      simp only [go_sem, Int.cast_ofNat_Int, Int.reduceToNat, Nat.reduceAdd, Nat.reduceBEq, Nat.reduceLeDiff, Nat.reduceLT, Nat.reduceMul, Nat.reduceSub, Int.reduceEq, Int.reduceLT, Int.reduceLE, Int.reduceNeg, hd64, h64]
      refine loop_rule (fun i => ([(0, .lst 1 (iS C) f), (1, .lst 1 (iS B) g), (2, .int .i64 least), (8, .int .i64 i)], ⟨[], [], 0⟩)) (fun i => ∀ (j : Nat) c, j < i → B[j]? = some c → chanB c = true) B.length ?_ (fun j c h => by omega) ?_
      · simp only [go_sem, Int.cast_ofNat_Int, Int.reduceToNat, Nat.reduceAdd, Nat.reduceBEq, Nat.reduceLeDiff, Nat.reduceLT, Nat.reduceMul, Nat.reduceSub, Int.reduceEq, Int.reduceLT, Int.reduceLE, Int.reduceNeg] <;> rfl
      · intro i hi hP
        rcases Nat.lt_or_ge i B.length with hlt | hge
        · obtain ⟨c, hc⟩ := getS hlt
          have hw := w64_suc hlt hBm
          simp only [go_sem, Int.cast_ofNat_Int, Int.reduceToNat, Nat.reduceAdd, Nat.reduceBEq, Nat.reduceLeDiff, Nat.reduceLT, Nat.reduceMul, Nat.reduceSub, Int.reduceEq, Int.reduceLT, Int.reduceLE, Int.reduceNeg, hlt, hc, s44]
          cases hx : chanB c with
          | false =>
            have hbad : badB B = true := List.any_eq_true.2 ⟨c, List.mem_of_getElem? hc, by simp [hx]⟩
            simp only [go_sem, Int.cast_ofNat_Int, Int.reduceToNat, Nat.reduceAdd, Nat.reduceBEq, Nat.reduceLeDiff, Nat.reduceLT, Nat.reduceMul, Nat.reduceSub, Int.reduceEq, Int.reduceLT, Int.reduceLE, Int.reduceNeg, woV, woE, hd, h64, hbad]
          | true =>
            simp only [go_sem, Int.cast_ofNat_Int, Int.reduceToNat, Nat.reduceAdd, Nat.reduceBEq, Nat.reduceLeDiff, Nat.reduceLT, Nat.reduceMul, Nat.reduceSub, Int.reduceEq, Int.reduceLT, Int.reduceLE, Int.reduceNeg, hw]
            refine ⟨by first | trivial | omega, by first | trivial | rfl, ?_⟩
            intro j c' hj hc'
            rcases Nat.lt_or_ge j i with h3 | h3
            · exact hP j c' h3 hc'
            · obtain rfl : j = i := by omega
              rw [hc] at hc'; cases hc'; exact hx
        · obtain rfl : i = B.length := by omega
          have hbad : badB B = false := by
            unfold badB
            rw [List.any_eq_false]
            intro c hc
            obtain ⟨j, hj⟩ := List.mem_iff_getElem?.1 hc
            rw [hP j c (List.getElem?_eq_some_iff.1 hj).1 hj]; simp
          simp only [go_sem, Int.cast_ofNat_Int, Int.reduceToNat, Nat.reduceAdd, Nat.reduceBEq, Nat.reduceLeDiff, Nat.reduceLT, Nat.reduceMul, Nat.reduceSub, Int.reduceEq, Int.reduceLT, Int.reduceLE, Int.reduceNeg, Nat.lt_irrefl]
          by_cases hle : 1 ≤ least ∧ least ≤ (C.length : Int)
          rotate_left
          · have : (decide (1 ≤ least) && decide (least ≤ (C.length : Int))) = false := by
              rw [Bool.and_eq_false_iff]; simp only [decide_eq_false_iff_not]; omega
            by_cases h1 : least < 1
            · simp only [go_sem, Int.cast_ofNat_Int, Int.reduceToNat, Nat.reduceAdd, Nat.reduceBEq, Nat.reduceLeDiff, Nat.reduceLT, Nat.reduceMul, Nat.reduceSub, Int.reduceEq, Int.reduceLT, Int.reduceLE, Int.reduceNeg, decide_eq_true h1, woV, woE, hd, h64, hbad, this]
            · have h2 : decide ((C.length : Int) < least) = true := decide_eq_true (by omega)
              simp only [go_sem, Int.cast_ofNat_Int, Int.reduceToNat, Nat.reduceAdd, Nat.reduceBEq, Nat.reduceLeDiff, Nat.reduceLT, Nat.reduceMul, Nat.reduceSub, Int.reduceEq, Int.reduceLT, Int.reduceLE, Int.reduceNeg, decide_eq_false h1, h2, woV, woE, hd, h64, hbad, this]
          · have q1 : decide (least < 1) = false := decide_eq_false (by omega)
            have q2 : decide ((C.length : Int) < least) = false := decide_eq_false (by omega)
            have q3 : decide (1 ≤ least) = true := decide_eq_true hle.1
            have q4 : decide (least ≤ (C.length : Int)) = true := decide_eq_true hle.2
            have hwo : woE C B least = 0 := by simp [woE, hd, h64, hbad, q3, q4]
            have hwv : woV C B least = .lst 1 (iS (wl C B least)) false := by simp [woV, hwo]
            rw [hwo, hwv]
            simp only [go_sem, Int.cast_ofNat_Int, Int.reduceToNat, Nat.reduceAdd, Nat.reduceBEq, Nat.reduceLeDiff, Nat.reduceLT, Nat.reduceMul, Nat.reduceSub, Int.reduceEq, Int.reduceLT, Int.reduceLE, Int.reduceNeg, q1, q2]
            refine loop_rule (fun i => ([(0, .lst 1 (iS C) f), (1, .lst 1 (iS B) g), (2, .int .i64 least), (9, .int .i64 (ct1 C B i)), (10, .lst 1 [] true), (11, .int .i64 i)], ⟨[], [], 0⟩)) (fun _ => True) C.length ?_ trivial ?_
            · simp only [go_sem, Int.cast_ofNat_Int, Int.reduceToNat, Nat.reduceAdd, Nat.reduceBEq, Nat.reduceLeDiff, Nat.reduceLT, Nat.reduceMul, Nat.reduceSub, Int.reduceEq, Int.reduceLT, Int.reduceLE, Int.reduceNeg] <;> rfl
            · intro i hi _
              rcases Nat.lt_or_ge i C.length with hlt | hge
              · obtain ⟨c, hc⟩ := getS hlt
                have hw := w64_suc hlt hCm
                have h45 := fun H => s45 (n + 2) H B g 1 c (.inl rfl) hBm
                simp only [go_sem, Int.cast_ofNat_Int, Int.reduceToNat, Nat.reduceAdd, Nat.reduceBEq, Nat.reduceLeDiff, Nat.reduceLT, Nat.reduceMul, Nat.reduceSub, Int.reduceEq, Int.reduceLT, Int.reduceLE, Int.reduceNeg, hlt, hc, h45]
                cases hm : decide (c ∈ B) with
                | true =>
                  simp only [go_sem, Int.cast_ofNat_Int, Int.reduceToNat, Nat.reduceAdd, Nat.reduceBEq, Nat.reduceLeDiff, Nat.reduceLT, Nat.reduceMul, Nat.reduceSub, Int.reduceEq, Int.reduceLT, Int.reduceLE, Int.reduceNeg, hw, ct1_no hc (of_decide_eq_true hm)]
                  refine ⟨by first | trivial | omega, by first | trivial | rfl, ?_⟩
                  trivial
                | false =>
                  have hwn := w64_suc (n := C.length) (i := ct1 C B i) (by have := ct1_le C B i; omega) hCm
                  simp only [go_sem, Int.cast_ofNat_Int, Int.reduceToNat, Nat.reduceAdd, Nat.reduceBEq, Nat.reduceLeDiff, Nat.reduceLT, Nat.reduceMul, Nat.reduceSub, Int.reduceEq, Int.reduceLT, Int.reduceLE, Int.reduceNeg, hw, hwn, ct1_yes hc (of_decide_eq_false hm)]
                  refine ⟨by first | trivial | omega, by first | trivial | rfl, ?_⟩
                  trivial
              · obtain rfl : i = C.length := by omega
                have hct : (ct1 C B C.length : Int) = ((ct1 C B C.length + (kp C B least 0).length : Nat) : Int) := by simp [kp]
                simp only [go_sem, Int.cast_ofNat_Int, Int.reduceToNat, Nat.reduceAdd, Nat.reduceBEq, Nat.reduceLeDiff, Nat.reduceLT, Nat.reduceMul, Nat.reduceSub, Int.reduceEq, Int.reduceLT, Int.reduceLE, Int.reduceNeg, Nat.lt_irrefl]
                rw [hct]
                have hcl := ct1_le C B C.length
                refine loop_rule (fun i => ([(0, .lst 1 (iS C) f), (1, .lst 1 (iS B) g), (2, .int .i64 least), (9, .int .i64 ((ct1 C B C.length + (kp C B least i).length : Nat) : Int)), (10, .slc 0 (kp C B least i).length 0 (kp C B least i).length), (12, .int .i64 i)], ⟨[.arr (kp C B least i).length 1 (iS (kp C B least i)) false], [], 0⟩)) (fun _ => True) B.length ?_ trivial ?_
                · simp only [go_sem, Int.cast_ofNat_Int, Int.reduceToNat, Nat.reduceAdd, Nat.reduceBEq, Nat.reduceLeDiff, Nat.reduceLT, Nat.reduceMul, Nat.reduceSub, Int.reduceEq, Int.reduceLT, Int.reduceLE, Int.reduceNeg] <;> rfl
                · intro i hi _
                  have hkl := kp_len C B least i
                  have hcc : decide (((ct1 C B C.length + (kp C B least i).length : Nat) : Int) < least) = decide ((ct1 C B C.length : Int) + (kp C B least i).length < least) := by simp
                  have hzf := fun H v => (Still.ints (kp C B least i)).fz 0 H 6 v (kp C B least i).length 1 false (by rw [iS_len])
                  by_cases hgo : i < B.length ∧ (ct1 C B C.length : Int) + (kp C B least i).length < least
                  · obtain ⟨hlt, hn⟩ := hgo
                    have h1 := decide_eq_true hn
                    obtain ⟨c, hc⟩ := getS hlt
                    have hw := w64_suc hlt hBm
                    have h45 := fun H => s45 (n + 2) H C f 1 c (.inl rfl) hCm
                    have h45k := fun H => s45 (n + 2) H (kp C B least i) false 1 c (.inl rfl) (by omega)
                    have hks := kp_step (C := C) (least := least) hc
                    simp only [go_sem, Int.cast_ofNat_Int, Int.reduceToNat, Nat.reduceAdd, Nat.reduceBEq, Nat.reduceLeDiff, Nat.reduceLT, Nat.reduceMul, Nat.reduceSub, Int.reduceEq, Int.reduceLT, Int.reduceLE, Int.reduceNeg, hlt, hc, hcc, h1, h45]
                    cases h3 : decide (c ∈ C) with
                    | false =>
                      have hk1 : kp C B least (i + 1) = kp C B least i := by rw [hks, h1, h3]; rfl
                      simp only [go_sem, Int.cast_ofNat_Int, Int.reduceToNat, Nat.reduceAdd, Nat.reduceBEq, Nat.reduceLeDiff, Nat.reduceLT, Nat.reduceMul, Nat.reduceSub, Int.reduceEq, Int.reduceLT, Int.reduceLE, Int.reduceNeg, hw, hk1]
                      refine ⟨by first | trivial | omega, by first | trivial | rfl, ?_⟩
                      trivial
                    | true =>
                      simp only [go_sem, Int.cast_ofNat_Int, Int.reduceToNat, Nat.reduceAdd, Nat.reduceBEq, Nat.reduceLeDiff, Nat.reduceLT, Nat.reduceMul, Nat.reduceSub, Int.reduceEq, Int.reduceLT, Int.reduceLE, Int.reduceNeg, hlt, hc, hzf, h45k]
                      cases h2 : decide (c ∈ kp C B least i) with
                      | true =>
                        have hk1 : kp C B least (i + 1) = kp C B least i := by rw [hks, h1, h2]; simp
                        simp only [go_sem, Int.cast_ofNat_Int, Int.reduceToNat, Nat.reduceAdd, Nat.reduceBEq, Nat.reduceLeDiff, Nat.reduceLT, Nat.reduceMul, Nat.reduceSub, Int.reduceEq, Int.reduceLT, Int.reduceLE, Int.reduceNeg, hw, hk1]
                        refine ⟨by first | trivial | omega, by first | trivial | rfl, ?_⟩
                        trivial
                      | false =>
                        have hk1 : kp C B least (i + 1) = kp C B least i ++ [c] := by rw [hks, h1, h2, h3]; rfl
                        have hln : (kp C B least (i + 1)).length = (kp C B least i).length + 1 := by rw [hk1]; simp
                        have hwn := w64_suc (n := 3000) (i := ct1 C B C.length + (kp C B least i).length) (by omega) (by decide)
                        simp only [go_sem, Int.cast_ofNat_Int, Int.reduceToNat, Nat.reduceAdd, Nat.reduceBEq, Nat.reduceLeDiff, Nat.reduceLT, Nat.reduceMul, Nat.reduceSub, Int.reduceEq, Int.reduceLT, Int.reduceLE, Int.reduceNeg, hlt, hc, apB_grow _ _ _ _ _ _ _ iS_len, room8 (show (kp C B least i).length ≤ 1000 by omega), iS_snoc, ← hk1, hw, hwn, hln, Nat.add_assoc]
                        refine ⟨by first | trivial | omega, by first | trivial | rfl, ?_⟩
                        trivial
                  · have hK : kp C B least i = kp C B least B.length := by
                      rcases Nat.lt_or_ge i B.length with h | h
                      · have := kp_stop (C := C) (B := B) (least := least) (i := i) (fun h2 => hgo ⟨h, h2⟩) (B.length - i)
                        rw [show i + (B.length - i) = B.length by omega] at this
                        exact this.symm
                      · rw [show i = B.length by omega]
                    have hex : decide (i < B.length) = false ∨ (decide (i < B.length) = true ∧ decide ((ct1 C B C.length : Int) + (kp C B least i).length < least) = false) := by
                      rcases Nat.lt_or_ge i B.length with h | h
                      · exact .inr ⟨decide_eq_true h, decide_eq_false (fun h2 => hgo ⟨h, h2⟩)⟩
                      · exact .inl (decide_eq_false (by omega))
                    rw [hK] at hcc hzf hkl
                    rcases hex with h0 | ⟨h0, h1⟩
                    all_goals
                      try rw [hK] at h1
                      rw [hK]
                      first | simp only [go_sem, Int.cast_ofNat_Int, Int.reduceToNat, Nat.reduceAdd, Nat.reduceBEq, Nat.reduceLeDiff, Nat.reduceLT, Nat.reduceMul, Nat.reduceSub, Int.reduceEq, Int.reduceLT, Int.reduceLE, Int.reduceNeg, h0, hcc, h1] | simp only [go_sem, Int.cast_ofNat_Int, Int.reduceToNat, Nat.reduceAdd, Nat.reduceBEq, Nat.reduceLeDiff, Nat.reduceLT, Nat.reduceMul, Nat.reduceSub, Int.reduceEq, Int.reduceLT, Int.reduceLE, Int.reduceNeg, h0]
                      refine loop_rule (fun k => ([(0, .lst 1 (iS C) f), (1, .lst 1 (iS B) g), (10, .slc 0 (kp C B least B.length).length 0 (kp C B least B.length).length), (13, .slc 1 (wlk C B least k).length 0 (wlk C B least k).length), (14, .int .i64 k)], ⟨[.arr (kp C B least B.length).length 1 (iS (kp C B least B.length)) false, .arr (wlk C B least k).length 1 (iS (wlk C B least k)) false], [], 0⟩)) (fun _ => True) C.length ?_ trivial ?_
                      · simp only [go_sem, Int.cast_ofNat_Int, Int.reduceToNat, Nat.reduceAdd, Nat.reduceBEq, Nat.reduceLeDiff, Nat.reduceLT, Nat.reduceMul, Nat.reduceSub, Int.reduceEq, Int.reduceLT, Int.reduceLE, Int.reduceNeg] <;> rfl
                      · intro k hk _
                        rcases Nat.lt_or_ge k C.length with hlt | hge
                        · obtain ⟨c, hc⟩ := getS hlt
                          have hw := w64_suc hlt hCm
                          have h45 := fun H => s45 (n + 2) H B g 1 c (.inl rfl) hBm
                          have h45k := fun H => s45 (n + 2) H (kp C B least B.length) false 1 c (.inl rfl) (by omega)
                          have hwl := wlk_len C B least k
                          simp only [go_sem, Int.cast_ofNat_Int, Int.reduceToNat, Nat.reduceAdd, Nat.reduceBEq, Nat.reduceLeDiff, Nat.reduceLT, Nat.reduceMul, Nat.reduceSub, Int.reduceEq, Int.reduceLT, Int.reduceLE, Int.reduceNeg, hlt, hc, h45]
                          cases hm : decide (c ∈ B) with
                          | false =>
                            have hk1 := wlk_yes (B := B) (least := least) hc (by rw [hm]; rfl)
                            have hln : (wlk C B least (k + 1)).length = (wlk C B least k).length + 1 := by rw [hk1]; simp
                            simp only [go_sem, Int.cast_ofNat_Int, Int.reduceToNat, Nat.reduceAdd, Nat.reduceBEq, Nat.reduceLeDiff, Nat.reduceLT, Nat.reduceMul, Nat.reduceSub, Int.reduceEq, Int.reduceLT, Int.reduceLE, Int.reduceNeg, hlt, hc, apB_grow _ _ _ _ _ _ _ iS_len, room8 (show (wlk C B least k).length ≤ 1000 by omega), iS_snoc, ← hk1, hw, hln]
                            refine ⟨by first | trivial | omega, by first | trivial | rfl, ?_⟩
                            trivial
                          | true =>
                            simp only [go_sem, Int.cast_ofNat_Int, Int.reduceToNat, Nat.reduceAdd, Nat.reduceBEq, Nat.reduceLeDiff, Nat.reduceLT, Nat.reduceMul, Nat.reduceSub, Int.reduceEq, Int.reduceLT, Int.reduceLE, Int.reduceNeg, hlt, hc, hzf, h45k]
                            cases h2 : decide (c ∈ kp C B least B.length) with
                            | true =>
                              have hk1 := wlk_yes (B := B) (least := least) hc (by rw [h2]; simp)
                              have hln : (wlk C B least (k + 1)).length = (wlk C B least k).length + 1 := by rw [hk1]; simp
                              simp only [go_sem, Int.cast_ofNat_Int, Int.reduceToNat, Nat.reduceAdd, Nat.reduceBEq, Nat.reduceLeDiff, Nat.reduceLT, Nat.reduceMul, Nat.reduceSub, Int.reduceEq, Int.reduceLT, Int.reduceLE, Int.reduceNeg, hlt, hc, apB_grow _ _ _ _ _ _ _ iS_len, room8 (show (wlk C B least k).length ≤ 1000 by omega), iS_snoc, ← hk1, hw, hln]
                              refine ⟨by first | trivial | omega, by first | trivial | rfl, ?_⟩
                              trivial
                            | false =>
                              have hk1 := wlk_no (B := B) (least := least) hc (by rw [hm, h2]; rfl)
                              simp only [go_sem, Int.cast_ofNat_Int, Int.reduceToNat, Nat.reduceAdd, Nat.reduceBEq, Nat.reduceLeDiff, Nat.reduceLT, Nat.reduceMul, Nat.reduceSub, Int.reduceEq, Int.reduceLT, Int.reduceLE, Int.reduceNeg, hw, hk1]
                              refine ⟨by first | trivial | omega, by first | trivial | rfl, ?_⟩
                              trivial
                        · obtain rfl : k = C.length := by omega
                          have hwf : wlk C B least C.length = wl C B least := by simp [wlk, wl]
                          have hzw := fun H v => (Still.ints (wl C B least)).fz 0 H 5 v (wl C B least).length 1 false (by rw [iS_len])
                          simp only [go_sem, Int.cast_ofNat_Int, Int.reduceToNat, Nat.reduceAdd, Nat.reduceBEq, Nat.reduceLeDiff, Nat.reduceLT, Nat.reduceMul, Nat.reduceSub, Int.reduceEq, Int.reduceLT, Int.reduceLE, Int.reduceNeg, Nat.lt_irrefl, hwf, hzw]
end Go.Sh
namespace Go.Sh
set_option linter.unusedSectionVars false
set_option linter.unnecessarySimpa false
set_option linter.unusedVariables false
set_option linter.unusedSimpArgs false
set_option maxRecDepth 100000
set_option maxHeartbeats 4000000
abbrev blD : Bool × List DT := (true, [.lst [.int .i64], .lst [.int .i64], .int .i64])
abbrev bk (C : List Int) (f : Bool) (B : List Int) (g : Bool) (least : Int) : SV := .agg [.lst 1 (iS C) f, .lst 1 (iS B) g, .int .i64 least]
theorem bk_of {x : SV} (h : FitsA blD x) : ∃ C f B g least, x = bk C f B g least := by
  obtain ⟨cs, rfl, k⟩ := fitsA_agg h
  obtain ⟨L1, f1, _, rfl, m1, a1, k⟩ := fitsL_l k
  obtain ⟨L2, f2, _, rfl, m2, a2, k⟩ := fitsL_l k
  obtain ⟨n, _, rfl, _, k⟩ := fitsL_i k
  cases fitsL_nil' k
  obtain ⟨N, rfl⟩ := ints_of a1
  obtain ⟨M, rfl⟩ := ints_of a2
  exact ⟨N, f1, M, f2, n, rfl⟩
theorem wo_len {C B : List Int} {least : Int} : (wl C B least).length ≤ C.length := List.length_filter_le _ _
theorem s5 (v a b : Int) (D : List Int) (f : Bool) (C : List Int) (fc : Bool) (B : List Int) (fb : Bool) (least u : Int) : call1 T 41 (.fn 5) [hl v a b 1 D f, bk C fc B fb least, .int .i64 u] heap0 = some (.bool true, heap0) := by
  refine call_pure e5 (by rfl) ?_
  have h11 := s11
  simp only [c5, heap0, go_sem, Int.cast_ofNat_Int, Int.reduceToNat, Nat.reduceAdd, Nat.reduceBEq, Nat.reduceLeDiff, Nat.reduceLT, Nat.reduceMul, Nat.reduceSub, Int.reduceEq, Int.reduceLT, Int.reduceLE, Int.reduceNeg, h11]
  by_cases h1 : 20 < D.length
  · simp only [go_sem, Int.cast_ofNat_Int, Int.reduceToNat, Nat.reduceAdd, Nat.reduceBEq, Nat.reduceLeDiff, Nat.reduceLT, Nat.reduceMul, Nat.reduceSub, Int.reduceEq, Int.reduceLT, Int.reduceLE, Int.reduceNeg, decide_eq_true (show (20 : Int) < (D.length : Int) by omega)]
  · have q1 : decide ((20 : Int) < (D.length : Int)) = false := decide_eq_false (by omega)
    by_cases h2 : 20 < C.length
    · simp only [go_sem, Int.cast_ofNat_Int, Int.reduceToNat, Nat.reduceAdd, Nat.reduceBEq, Nat.reduceLeDiff, Nat.reduceLT, Nat.reduceMul, Nat.reduceSub, Int.reduceEq, Int.reduceLT, Int.reduceLE, Int.reduceNeg, q1, decide_eq_true (show (20 : Int) < (C.length : Int) by omega)]
    · have q2 : decide ((20 : Int) < (C.length : Int)) = false := decide_eq_false (by omega)
      by_cases h3 : 70 < B.length
      · simp only [go_sem, Int.cast_ofNat_Int, Int.reduceToNat, Nat.reduceAdd, Nat.reduceBEq, Nat.reduceLeDiff, Nat.reduceLT, Nat.reduceMul, Nat.reduceSub, Int.reduceEq, Int.reduceLT, Int.reduceLE, Int.reduceNeg, q1, q2, decide_eq_true (show (70 : Int) < (B.length : Int) by omega)]
      · have q3 : decide ((70 : Int) < (B.length : Int)) = false := decide_eq_false (by omega)
        have h15C := fun H => s15 39 H C fc (by omega)
        have h15B := fun H => s15 39 H B fb (by omega)
        have h14 := fun H => s14 35 H C B false false least (by omega) (by omega)
        have h16 := fun H => s16 36 H C B fc fb least (by omega) (by omega)
        have h17 := fun H => s17 35 H v a b D f u C false (by omega) (by omega)
        have h18 := fun H => s18 36 H v a b D f u C fc (by omega) (by omega)
        have heq : ∀ H, call1 T 40 (.fn 19) [woV C B least, woV C B least] H = some (.bool true, H) := fun H => by
          have e := fun (L : List Int) (w : SV) (hw : LV H.bl 1 (iS L) w) (hL : L.length ≤ maxLen) => stdEq_ok (T := T) (f := 19) (n := 39) (H := H) x19 hw hw hL
          unfold woV
          cases decide (woE C B least = 0) with
          | true =>
            have := e (wl C B least) (.lst 1 (iS (wl C B least)) false) lvI (Nat.le_trans wo_len (Nat.le_trans (show C.length ≤ 20 by omega) (by decide)))
            simpa using this
          | false =>
            have := e [] (.lst 0 [] true) (.lst 0 true (.inr rfl)) (by simp)
            simpa using this
        have h20 : ∀ H, call1 T 40 (.fn 20) [nxV v a b D u C, nxV v a b D u C] H = some (.bool true, H) := fun H => by
          unfold nxV
          cases (okH v a b D && okH (nxv v) b u C) with
          | true =>
            have := s20 39 H (nxv v) b u 1 C false (nxv v) b u 1 C false (.inl rfl) (.inl rfl) (Nat.le_trans (show C.length ≤ 20 by omega) (by decide))
            simpa [smB] using this
          | false =>
            have := s20 39 H 0 0 0 0 [] true 0 0 0 0 [] true (.inr rfl) (.inr rfl) (by simp)
            simpa [smB] using this
        have hnx : ∃ c1 c2 c3 c4, nxV v a b D u C = .agg [.int .i64 c1, .int .i64 c2, .int .i64 c3, c4] ∧ c4.refs = 0 := by
          unfold nxV
          cases (okH v a b D && okH (nxv v) b u C) with
          | true => exact ⟨_, _, _, _, rfl, by simp [SV.refs]⟩
          | false => exact ⟨_, _, _, _, rfl, by simp [SV.refs]⟩
        obtain ⟨c1, c2, c3, c4, hnx, hc4⟩ := hnx
        simp only [hnx] at h17 h18 h20
        have hc4' : cells1 (.agg [.int .i64 c1, .int .i64 c2, .int .i64 c3, c4]) = some [.int .i64 c1, .int .i64 c2, .int .i64 c3, c4] := rfl
        simp only [go_sem, Int.cast_ofNat_Int, Int.reduceToNat, Nat.reduceAdd, Nat.reduceBEq, Nat.reduceLeDiff, Nat.reduceLT, Nat.reduceMul, Nat.reduceSub, Int.reduceEq, Int.reduceLT, Int.reduceLE, Int.reduceNeg, q1, q2, q3, h15C, h15B, h14, h16, h17, h18, heq, h20, put1]
end Go.Sh
namespace Go.Sh
set_option linter.unusedSectionVars false
set_option linter.unnecessarySimpa false
set_option linter.unusedVariables false
set_option linter.unusedSimpArgs false
set_option maxRecDepth 100000
set_option maxHeartbeats 4000000
theorem law5 (xs : List SV) (h : FitsAll [hopD, blD, (false, [.int .i64])] xs) : ∃ m, call1 T m (.fn 5) xs heap0 = some (.bool true, heap0) := by
  obtain ⟨x1, r1, rfl, h1, h⟩ := fitsAll_cons h
  obtain ⟨x2, r2, rfl, h2, h⟩ := fitsAll_cons h
  obtain ⟨x3, r3, rfl, h3, h⟩ := fitsAll_cons h
  cases fitsAll_nil h
  obtain ⟨v, a, b, D, f, rfl, _⟩ := hop_of h1
  obtain ⟨C, fc, B, fb, least, rfl⟩ := bk_of h2
  obtain ⟨u, rfl, _⟩ := fits_int (fitsA_one h3)
  exact ⟨41, s5 v a b D f C fc B fb least u⟩
theorem dif_nodup {C : List Int} (h : difB C = true) : C.Nodup := by
  rw [List.Nodup, List.pairwise_iff_getElem]
  intro i j hi hj hij
  exact difB_ne h (List.getElem?_eq_getElem hi) (List.getElem?_eq_getElem hj) hij
theorem filter_one {P : Int → Bool} {c : Int} : ∀ {C : List Int}, C.Nodup → c ∈ C → P c = false → (C.filter fun x => P x || decide (x = c)).length = (C.filter P).length + 1
  | [], _, h, _ => by simp at h
  | a :: C, hn, hc, hP => by
    rw [List.nodup_cons] at hn
    by_cases ha : a = c
    · subst ha
      have : C.filter (fun x => P x || decide (x = a)) = C.filter P := List.filter_congr (fun x hx => by
        have : ¬ x = a := fun e => hn.1 (e ▸ hx)
        simp [this])
      simp [List.filter_cons, hP, this]
    · have hc' : c ∈ C := by simpa [Ne.symm ha] using hc
      have ih := filter_one hn.2 hc' hP
      simp only [List.filter_cons, ha, decide_false, Bool.or_false]
      cases P a <;> simp [ih]
def wlp (C B : List Int) (least : Int) (i : Nat) : List Int := C.filter fun y => !decide (y ∈ B) || decide (y ∈ kp C B least i)
theorem wlp_len {C B : List Int} {least : Int} (hn : C.Nodup) : ∀ i, (wlp C B least i).length = ct1 C B C.length + (kp C B least i).length
  | 0 => by simp [wlp, kp, ct1]
  | i + 1 => by
    have ih := wlp_len (B := B) (least := least) hn i
    cases hb : B[i]? with
    | none => simp only [wlp, kp, hb] at ih ⊢; exact ih
    | some c =>
      have hks := kp_step (C := C) (least := least) hb
      cases h1 : (decide ((ct1 C B C.length : Int) + (kp C B least i).length < least) && (decide (c ∈ C) && !decide (c ∈ kp C B least i))) with
      | false => rw [h1] at hks; simp only [wlp, hks, cond_false] at ih ⊢; exact ih
      | true =>
        rw [h1] at hks
        simp only [Bool.and_eq_true, decide_eq_true_eq, Bool.not_eq_true', decide_eq_false_iff_not] at h1
        have hcB := List.mem_of_getElem? hb
        have := filter_one (P := fun y => !decide (y ∈ B) || decide (y ∈ kp C B least i)) hn h1.2.1 (by simp [hcB, h1.2.2])
        simp only [wlp, hks, cond_true, List.mem_append, List.mem_singleton, List.length_append, List.length_singleton] at ih ⊢
        have e : (C.filter fun y => !decide (y ∈ B) || decide (y ∈ kp C B least i ∨ y = c)) = C.filter fun x => (!decide (x ∈ B) || decide (x ∈ kp C B least i)) || decide (x = c) :=
          List.filter_congr (fun x _ => by rw [Bool.decide_or, Bool.or_assoc])
        rw [e, this, ih]
        omega
theorem kp_most {C B : List Int} {least : Int} : ∀ i, (ct1 C B C.length : Int) + (kp C B least i).length ≤ max (ct1 C B C.length : Int) least
  | 0 => by simp only [kp, List.length_nil]; omega
  | i + 1 => by
    have ih := kp_most (C := C) (B := B) (least := least) i
    cases hb : B[i]? with
    | none => simp only [kp, hb]; exact ih
    | some c =>
      rw [kp_step hb]
      cases h1 : (decide ((ct1 C B C.length : Int) + (kp C B least i).length < least) && (decide (c ∈ C) && !decide (c ∈ kp C B least i))) with
      | false => exact ih
      | true =>
        simp only [Bool.and_eq_true, decide_eq_true_eq] at h1
        simp only [cond_true, List.length_append, List.length_singleton]
        omega
theorem kp_sub {C B : List Int} {least : Int} (i : Nat) : ∀ k, ∀ x ∈ kp C B least i, x ∈ kp C B least (i + k)
  | 0, x, hx => hx
  | k + 1, x, hx => by
    have ih := kp_sub i k x hx
    show x ∈ kp C B least (i + k + 1)
    cases hb : B[i + k]? with
    | none => simpa only [kp, hb] using ih
    | some c =>
      rw [kp_step hb]
      cases (decide ((ct1 C B C.length : Int) + (kp C B least (i + k)).length < least) && (decide (c ∈ C) && !decide (c ∈ kp C B least (i + k)))) <;> simp [ih]
theorem kp_all {C B : List Int} {least : Int} (h : (ct1 C B C.length : Int) + (kp C B least B.length).length < least) {c : Int} (hc : c ∈ C) (hb : c ∈ B) : c ∈ kp C B least B.length := by
  obtain ⟨i, hi⟩ := List.mem_iff_getElem?.1 hb
  have hil := (List.getElem?_eq_some_iff.1 hi).1
  have key : c ∈ kp C B least (i + 1) := by
    by_cases hlt : (ct1 C B C.length : Int) + (kp C B least i).length < least
    · rw [kp_step hi]
      by_cases hm : c ∈ kp C B least i
      · cases (decide ((ct1 C B C.length : Int) + (kp C B least i).length < least) && (decide (c ∈ C) && !decide (c ∈ kp C B least i))) <;> simp [hm]
      · simp [hlt, hc, hm]
    · have := kp_stop hlt (B.length - i)
      rw [show i + (B.length - i) = B.length by omega] at this
      rw [this] at h
      exact absurd h hlt
  have := kp_sub (i + 1) (B.length - (i + 1)) c key
  rwa [show i + 1 + (B.length - (i + 1)) = B.length by omega] at this
theorem wl_len_eq {C B : List Int} {least : Int} (hn : C.Nodup) (hl : least ≤ C.length) : ((wl C B least).length : Int) = max (ct1 C B C.length : Int) least := by
  have h1 := wlp_len (B := B) (least := least) hn B.length
  have h2 := kp_most (C := C) (B := B) (least := least) B.length
  have hw : wl C B least = wlp C B least B.length := rfl
  rw [hw]
  by_cases h : (ct1 C B C.length : Int) + (kp C B least B.length).length < least
  · have hall : wlp C B least B.length = C := by
      unfold wlp
      rw [List.filter_eq_self]
      intro y hy
      by_cases hb : y ∈ B
      · simp [kp_all h hy hb]
      · simp [hb]
    rw [hall] at h1
    omega
  · omega
theorem wlk_next {C B : List Int} {least : Int} {i : Nat} {c : Int} (hn : C.Nodup) (hc : C[i]? = some c) : (wl C B least)[(wlk C B least i).length]? = some c ↔ (!decide (c ∈ B) || decide (c ∈ kp C B least B.length)) = true := by
  have hil := (List.getElem?_eq_some_iff.1 hc).1
  have hsp : wl C B least = wlk C B least i ++ (C.drop i).filter fun y => !decide (y ∈ B) || decide (y ∈ kp C B least B.length) := by
    rw [wl, wlk, ← List.filter_append, List.take_append_drop]
  have hdr : C.drop i = c :: C.drop (i + 1) := by
    rw [List.drop_eq_getElem_cons hil, (List.getElem?_eq_some_iff.1 hc).2]
  rw [hsp, List.getElem?_append_right (Nat.le_refl _), Nat.sub_self, hdr, List.filter_cons]
  constructor
  · intro h
    cases hq : (!decide (c ∈ B) || decide (c ∈ kp C B least B.length)) with
    | true => rfl
    | false =>
      rw [hq] at h
      simp only [Bool.false_eq_true, if_false] at h
      have hm := List.mem_of_getElem? h
      have hm2 := (List.mem_filter.1 hm).1
      have : (c :: C.drop (i + 1)).Nodup := by rw [← hdr]; exact hn.sublist (List.drop_sublist _ _)
      exact absurd hm2 (List.nodup_cons.1 this).1
  · intro h
    rw [h]
    simp
theorem s4 (C : List Int) (fc : Bool) (B : List Int) (fb : Bool) (least : Int) : call1 T 41 (.fn 4) [bk C fc B fb least] heap0 = some (.bool true, heap0) := by
  refine call_pure e4 (by rfl) ?_
  have h11 := s11
  simp only [c4, heap0, go_sem, Int.cast_ofNat_Int, Int.reduceToNat, Nat.reduceAdd, Nat.reduceBEq, Nat.reduceLeDiff, Nat.reduceLT, Nat.reduceMul, Nat.reduceSub, Int.reduceEq, Int.reduceLT, Int.reduceLE, Int.reduceNeg, h11]
  by_cases h2 : 20 < C.length
  · simp only [go_sem, Int.cast_ofNat_Int, Int.reduceToNat, Nat.reduceAdd, Nat.reduceBEq, Nat.reduceLeDiff, Nat.reduceLT, Nat.reduceMul, Nat.reduceSub, Int.reduceEq, Int.reduceLT, Int.reduceLE, Int.reduceNeg, decide_eq_true (show (20 : Int) < (C.length : Int) by omega)]
  · have q2 : decide ((20 : Int) < (C.length : Int)) = false := decide_eq_false (by omega)
    by_cases h3 : 64 < B.length
    · simp only [go_sem, Int.cast_ofNat_Int, Int.reduceToNat, Nat.reduceAdd, Nat.reduceBEq, Nat.reduceLeDiff, Nat.reduceLT, Nat.reduceMul, Nat.reduceSub, Int.reduceEq, Int.reduceLT, Int.reduceLE, Int.reduceNeg, q2, decide_eq_true (show (64 : Int) < (B.length : Int) by omega)]
    · have q3 : decide ((64 : Int) < (B.length : Int)) = false := decide_eq_false (by omega)
      have h15C := fun H => s15 39 H C fc (by omega)
      have h15B := fun H => s15 39 H B fb (by omega)
      have h14 := fun H => s14 35 H C B false false least (by omega) (by omega)
      have hCm : C.length ≤ maxLen := Nat.le_trans (show C.length ≤ 20 by omega) (by decide)
      have hBm : B.length ≤ maxLen := Nat.le_trans (show B.length ≤ 64 by omega) (by decide)
      cases he : decide (woE C B least = 0) with
      | false =>
        have hv : woV C B least = .lst 0 [] true := by simp [woV, he]
        rw [hv] at h14
        simp only [go_sem, Int.cast_ofNat_Int, Int.reduceToNat, Nat.reduceAdd, Nat.reduceBEq, Nat.reduceLeDiff, Nat.reduceLT, Nat.reduceMul, Nat.reduceSub, Int.reduceEq, Int.reduceLT, Int.reduceLE, Int.reduceNeg, q2, q3, h15C, h15B, h14, he]
      | true =>
        have he0 := of_decide_eq_true he
        have hv : woV C B least = .lst 1 (iS (wl C B least)) false := by simp [woV, he]
        have hsp : difB C = true ∧ least ≤ (C.length : Int) := by
          unfold woE at he0
          cases hx : (difB C && (decide (B.length ≤ 64) && !badB B)) with
          | false => rw [hx] at he0; cases he0
          | true =>
            rw [hx] at he0
            cases hy : (decide (1 ≤ least) && decide (least ≤ (C.length : Int))) with
            | false => rw [hy] at he0; cases he0
            | true =>
              simp only [Bool.and_eq_true, decide_eq_true_eq] at hx hy
              exact ⟨hx.1, hy.2⟩
        obtain ⟨hd, hle⟩ := hsp
        have hn := dif_nodup hd
        have hwl := wl_len_eq (B := B) hn hle
        have hwle : (wl C B least).length ≤ C.length := wo_len
        rw [hv, he0] at h14
        simp only [go_sem, Int.cast_ofNat_Int, Int.reduceToNat, Nat.reduceAdd, Nat.reduceBEq, Nat.reduceLeDiff, Nat.reduceLT, Nat.reduceMul, Nat.reduceSub, Int.reduceEq, Int.reduceLT, Int.reduceLE, Int.reduceNeg, q2, q3, h15C, h15B, h14]
        refine loop_rule (fun i => ([(1, .ptr 0 0 0 0), (3, .lst 1 (iS (wl C B least)) false), (5, .int .i64 (wlk C B least i).length), (6, .int .i64 (ct1 C B i)), (39, .lst 1 (iS C) fc), (40, .int .i64 C.length), (41, .int .i64 i)], ⟨[.box [.lst 1 (iS C) fc, .lst 1 (iS B) fb, .int .i64 least]], [], 0⟩)) (fun _ => True) C.length ?_ trivial ?_
        · simp only [go_sem, Int.cast_ofNat_Int, Int.reduceToNat, Nat.reduceAdd, Nat.reduceBEq, Nat.reduceLeDiff, Nat.reduceLT, Nat.reduceMul, Nat.reduceSub, Int.reduceEq, Int.reduceLT, Int.reduceLE, Int.reduceNeg] <;> rfl
        · intro i hi _
          rcases Nat.lt_or_ge i C.length with hlt | hge
          · obtain ⟨c, hc⟩ := getS hlt
            have hw := w64_suc hlt hCm
            have h13 := fun H => stdCon_ok (n := 38) (H := H) (v := .lst 1 (iS B) fb) (M := B) (x := c) x13 x36 lvI hBm
            have hnx := wlk_next (B := B) (least := least) hn hc
            have hwk := wlk_len C B least i
            have hck := ct1_le C B i
            have hw1 := w64_suc (n := 100) (i := (wlk C B least i).length) (by omega) (by decide)
            have hw2 := w64_suc (n := 100) (i := ct1 C B i) (by omega) (by decide)
            cases hq : (!decide (c ∈ B) || decide (c ∈ kp C B least B.length)) with
            | true =>
              have hget := hnx.2 hq
              have hl := (List.getElem?_eq_some_iff.1 hget).1
              have hk1 := wlk_yes hc hq
              have hln : (wlk C B least (i + 1)).length = (wlk C B least i).length + 1 := by rw [hk1]; simp
              cases hm : decide (c ∈ B) with
              | true =>
                simp only [go_sem, Int.cast_ofNat_Int, Int.reduceToNat, Nat.reduceAdd, Nat.reduceBEq, Nat.reduceLeDiff, Nat.reduceLT, Nat.reduceMul, Nat.reduceSub, Int.reduceEq, Int.reduceLT, Int.reduceLE, Int.reduceNeg, hlt, hc, h13, hm, hl, hget, hw, hw1, hln, ct1_no hc (of_decide_eq_true hm)]
                refine ⟨by first | trivial | omega, by first | trivial | rfl, ?_⟩
                trivial
              | false =>
                simp only [go_sem, Int.cast_ofNat_Int, Int.reduceToNat, Nat.reduceAdd, Nat.reduceBEq, Nat.reduceLeDiff, Nat.reduceLT, Nat.reduceMul, Nat.reduceSub, Int.reduceEq, Int.reduceLT, Int.reduceLE, Int.reduceNeg, hlt, hc, h13, hm, hl, hget, hw, hw1, hw2, hln, ct1_yes hc (of_decide_eq_false hm)]
                refine ⟨by first | trivial | omega, by first | trivial | rfl, ?_⟩
                trivial
            | false =>
              have hk1 := wlk_no hc hq
              have hm : decide (c ∈ B) = true := by
                cases hm : decide (c ∈ B) with
                | true => rfl
                | false => rw [hm] at hq; cases hq
              have hct := ct1_no hc (of_decide_eq_true hm)
              rcases Nat.lt_or_ge (wlk C B least i).length (wl C B least).length with hl | hl
              · obtain ⟨y, hy⟩ := getS hl
                have hne : decide (y = c) = false := decide_eq_false (fun e => by
                  subst e
                  have := hnx.1 hy
                  rw [hq] at this; cases this)
                simp only [go_sem, Int.cast_ofNat_Int, Int.reduceToNat, Nat.reduceAdd, Nat.reduceBEq, Nat.reduceLeDiff, Nat.reduceLT, Nat.reduceMul, Nat.reduceSub, Int.reduceEq, Int.reduceLT, Int.reduceLE, Int.reduceNeg, hlt, hc, h13, hm, hl, hy, hne, hw, hk1, hct]
                refine ⟨by first | trivial | omega, by first | trivial | rfl, ?_⟩
                trivial
              · have hl' : ¬ (wlk C B least i).length < (wl C B least).length := by omega
                simp only [go_sem, Int.cast_ofNat_Int, Int.reduceToNat, Nat.reduceAdd, Nat.reduceBEq, Nat.reduceLeDiff, Nat.reduceLT, Nat.reduceMul, Nat.reduceSub, Int.reduceEq, Int.reduceLT, Int.reduceLE, Int.reduceNeg, hlt, hc, h13, hm, hl', hw, hk1, hct]
                refine ⟨by first | trivial | omega, by first | trivial | rfl, ?_⟩
                trivial
          · obtain rfl : i = C.length := by omega
            have hwf : wlk C B least C.length = wl C B least := by simp [wlk, wl]
            simp only [go_sem, Int.cast_ofNat_Int, Int.reduceToNat, Nat.reduceAdd, Nat.reduceBEq, Nat.reduceLeDiff, Nat.reduceLT, Nat.reduceMul, Nat.reduceSub, Int.reduceEq, Int.reduceLT, Int.reduceLE, Int.reduceNeg, Nat.lt_irrefl, hwf, hwl]
theorem law4 (xs : List SV) (h : FitsAll [blD] xs) : ∃ m, call1 T m (.fn 4) xs heap0 = some (.bool true, heap0) := by
  obtain ⟨x2, r2, rfl, h2, h⟩ := fitsAll_cons h
  cases fitsAll_nil h
  obtain ⟨C, fc, B, fb, least, rfl⟩ := bk_of h2
  exact ⟨41, s4 C fc B fb least⟩
end Go.Sh
