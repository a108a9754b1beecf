

import Derived.Test.YtomapffoalmodaaC2
namespace Go.Sh
set_option linter.unusedSectionVars false
set_option linter.unnecessarySimpa false
set_option linter.unusedVariables false
set_option linter.unusedSimpArgs false
set_option maxRecDepth 100000
set_option maxHeartbeats 4000000
/-- A search by halves: 'p' says that the place lies behind. -/
def bsN (p : Nat → Bool) (q : Nat × Nat) : Nat × Nat := bif p ((q.1 + q.2) / 2) then ((q.1 + q.2) / 2 + 1, q.2) else (q.1, (q.1 + q.2) / 2)
def bsQ (p : Nat → Bool) (s : Nat × Nat) : Nat → Nat × Nat
  | 0 => s
  | q + 1 => bsN p (bsQ p s q)
theorem half_w {x : Nat} (h : x ≤ 4000) : w64 ((IntKind.wrap .u64 (x : Int)).fdiv (2 ^ (min 1 64))) = ((x / 2 : Nat) : Int) := by
  have h1 : IntKind.wrap .u64 (x : Int) = x := by
    show ((x : Int) % 18446744073709551616) = x
    omega
  have h2 : (min 1 64) = 1 := rfl
  rw [h1, h2, fdiv_nat x 1, w64_id (by omega) (by omega)]
/-- Deliveries moved up, or down, one after the other. -/
def upQ (M : List Dl) (a : Nat) : Nat → List Dl
  | 0 => M
  | q + 1 => sw (upQ M a q) (a + q) (a + q + 1)
theorem upQ_sub (M : List Dl) (a : Nat) : ∀ q, Sub (upQ M a q) M
  | 0 => Sub.refl M
  | q + 1 => (sw_sub _ _ _).trans (upQ_sub M a q)
def dnQ (M : List Dl) (m : Nat) : Nat → List Dl
  | 0 => M
  | q + 1 => sw (dnQ M m q) (m - q) (m - q - 1)
theorem dnQ_sub (M : List Dl) (m : Nat) : ∀ q, Sub (dnQ M m q) M
  | 0 => Sub.refl M
  | q + 1 => (sw_sub _ _ _).trans (dnQ_sub M m q)
theorem s86a (k : Nat) (M : List Dl) (a b : Nat) (h2 : a + 1 < b) (hb : b ≤ M.length) (hM : M.length ≤ 1000) :
    ∃ r, call1 T (k + 2) (.fn 86) [.slc 0 0 0 M.length, .int .i64 a, .int .i64 (a + 1 : Nat), .int .i64 b, .fn 66 []] (dH M) = some r ∧ SubR M r := by
  refine call_inP e86 (by rfl) ?_
  have a0 : w64 (((a + 1 : Nat) : Int) - a) = 1 := by rw [w64_id (by omega) (by omega)]; omega
  simp only [c86, go_sem, Int.cast_ofNat_Int, Int.reduceToNat, Bool.true_xor, Bool.false_xor, Bool.xor_true, Bool.xor_false, Nat.reduceAdd, Nat.reduceBEq, Nat.reduceLeDiff, Nat.reduceLT, Nat.reduceMul, Nat.reduceSub, Int.reduceEq, Int.reduceLT, Int.reduceLE, Int.reduceNeg, a0]
  refine loop_post (fun q => ([(0, .slc 0 0 0 M.length), (1, .int .i64 a), (4, .fn 66 []), (10, .int .i64 (bsQ (fun h => lessAt M h a) (a + 1, b) q).1), (11, .int .i64 (bsQ (fun h => lessAt M h a) (a + 1, b) q).2)], dH M))
    (fun q => let p := bsQ (fun h => lessAt M h a) (a + 1, b) q; a + 1 ≤ p.1 ∧ p.1 ≤ p.2 ∧ p.2 ≤ b ∧ p.2 - p.1 + q ≤ b - (a + 1)) (b - (a + 1)) ?_ ?_ ?_
  · simp only [go_sem, Int.cast_ofNat_Int, Int.reduceToNat, Bool.true_xor, Bool.false_xor, Bool.xor_true, Bool.xor_false, Nat.reduceAdd, Nat.reduceBEq, Nat.reduceLeDiff, Nat.reduceLT, Nat.reduceMul, Nat.reduceSub, Int.reduceEq, Int.reduceLT, Int.reduceLE, Int.reduceNeg] <;> rfl
  · exact ⟨Nat.le_refl _, by show a + 1 ≤ b; omega, Nat.le_refl _, by show b - (a + 1) + 0 ≤ _; omega⟩
  · intro q hq hP
    have hst : bsQ (fun h => lessAt M h a) (a + 1, b) (q + 1) = bsN (fun h => lessAt M h a) (bsQ (fun h => lessAt M h a) (a + 1, b) q) := rfl
    generalize hp : bsQ (fun h => lessAt M h a) (a + 1, b) q = p at *
    obtain ⟨i, j⟩ := p
    simp only at hP
    obtain ⟨p1, p2, p3, p4⟩ := hP
    cases hij : decide (i < j) with
    | true =>
      simp only [decide_eq_true_eq] at hij
      have hh : w64 ((i : Int) + j) = ((i + j : Nat) : Int) := by rw [w64_id (by omega) (by omega)]; omega
      have hw := half_w (show i + j ≤ 4000 by omega)
      have l1 : (i + j) / 2 < M.length := by omega
      have l2 : a < M.length := by omega
      obtain ⟨x, hx⟩ := getS l1
      obtain ⟨y, hy⟩ := getS l2
      have w1 : w64 ((((i + j) / 2 : Nat) : Int) + 1) = (((i + j) / 2 + 1 : Nat) : Int) := by rw [w64_id (by omega) (by omega)]; omega
      have hl : lessAt M ((i + j) / 2) a = decide (cmpD x y < 0) := lessAt_eq hx hy
      simp only [go_sem, Int.cast_ofNat_Int, Int.reduceToNat, Bool.true_xor, Bool.false_xor, Bool.xor_true, Bool.xor_false, Nat.reduceAdd, Nat.reduceBEq, Nat.reduceLeDiff, Nat.reduceLT, Nat.reduceMul, Nat.reduceSub, Int.reduceEq, Int.reduceLT, Int.reduceLE, Int.reduceNeg, hp, hij, hh, hw, l1, l2, hx, hy, dlen3, dtake3, s66]
      cases hc : decide (cmpD x y < 0) with
      | true =>
        have hst2 : bsN (fun h => lessAt M h a) (i, j) = ((i + j) / 2 + 1, j) := by simp only [bsN, hl, hc, cond_true]
        simp only [go_sem, Int.cast_ofNat_Int, Int.reduceToNat, Bool.true_xor, Bool.false_xor, Bool.xor_true, Bool.xor_false, Nat.reduceAdd, Nat.reduceBEq, Nat.reduceLeDiff, Nat.reduceLT, Nat.reduceMul, Nat.reduceSub, Int.reduceEq, Int.reduceLT, Int.reduceLE, Int.reduceNeg, w1, hst, hst2]
        exact ⟨by omega, rfl, by omega, by omega, by omega, by omega⟩
      | false =>
        have hst2 : bsN (fun h => lessAt M h a) (i, j) = (i, (i + j) / 2) := by simp only [bsN, hl, hc, cond_false]
        simp only [go_sem, Int.cast_ofNat_Int, Int.reduceToNat, Bool.true_xor, Bool.false_xor, Bool.xor_true, Bool.xor_false, Nat.reduceAdd, Nat.reduceBEq, Nat.reduceLeDiff, Nat.reduceLT, Nat.reduceMul, Nat.reduceSub, Int.reduceEq, Int.reduceLT, Int.reduceLE, Int.reduceNeg, hst, hst2]
        exact ⟨by omega, rfl, by omega, by omega, by omega, by omega⟩
    | false =>
      have w1 : w64 ((i : Int) - 1) = ((i - 1 : Nat) : Int) := by rw [w64_id (by omega) (by omega)]; omega
      simp only [go_sem, Int.cast_ofNat_Int, Int.reduceToNat, Bool.true_xor, Bool.false_xor, Bool.xor_true, Bool.xor_false, Nat.reduceAdd, Nat.reduceBEq, Nat.reduceLeDiff, Nat.reduceLT, Nat.reduceMul, Nat.reduceSub, Int.reduceEq, Int.reduceLT, Int.reduceLE, Int.reduceNeg, hp, hij]
      clear hst hp hq p4
      refine loop_post (fun q => ([(0, .slc 0 0 0 M.length), (10, .int .i64 i), (13, .int .i64 (a + q : Nat))], dH (upQ M a q))) (fun _ => True) (i - 1 - a) ?_ trivial ?_
      · simp only [go_sem, Int.cast_ofNat_Int, Int.reduceToNat, Bool.true_xor, Bool.false_xor, Bool.xor_true, Bool.xor_false, Nat.reduceAdd, Nat.reduceBEq, Nat.reduceLeDiff, Nat.reduceLT, Nat.reduceMul, Nat.reduceSub, Int.reduceEq, Int.reduceLT, Int.reduceLE, Int.reduceNeg] <;> rfl
      · intro q hq _
        have hlen := (upQ_sub M a q).1
        have hst : upQ M a (q + 1) = sw (upQ M a q) (a + q) (a + q + 1) := rfl
        generalize hX : upQ M a q = X at *
        rcases Nat.lt_or_ge q (i - 1 - a) with hlt | hge
        · have hc : decide (((a + q : Nat) : Int) < ((i - 1 : Nat) : Int)) = true := decide_eq_true (by omega)
          have w2 : w64 (((a + q : Nat) : Int) + 1) = ((a + q + 1 : Nat) : Int) := by rw [w64_id (by omega) (by omega)]; omega
          have l1 : a + q < M.length := by omega
          have l2 : a + q + 1 < M.length := by omega
          obtain ⟨x, hx⟩ := getS (show a + q < X.length by omega)
          obtain ⟨y, hy⟩ := getS (show a + q + 1 < X.length by omega)
          have hsw : sw X (a + q) (a + q + 1) = (X.set (a + q) y).set (a + q + 1) x := sw_eq hx hy
          have hg2 : (X.set (a + q) y)[a + q + 1]? = some y := by rw [List.getElem?_set_ne (by omega), hy]
          have e1 : a + (q + 1) = a + q + 1 := by omega
          simp only [go_sem, Int.cast_ofNat_Int, Int.reduceToNat, Bool.true_xor, Bool.false_xor, Bool.xor_true, Bool.xor_false, Nat.reduceAdd, Nat.reduceBEq, Nat.reduceLeDiff, Nat.reduceLT, Nat.reduceMul, Nat.reduceSub, Int.reduceEq, Int.reduceLT, Int.reduceLE, Int.reduceNeg, hX, w1, hc, w2, l1, l2, hlen, hx, hy, dlen3, dtake3, ddrop3, drefs, List.append_nil, dS_set, List.length_set, hg2, ← hsw, ← hst, e1]
          exact ⟨hlt, rfl, trivial⟩
        · obtain rfl : q = i - 1 - a := by omega
          have hc : decide (((a + (i - 1 - a) : Nat) : Int) < ((i - 1 : Nat) : Int)) = false := decide_eq_false (by omega)
          simp only [go_sem, Int.cast_ofNat_Int, Int.reduceToNat, Bool.true_xor, Bool.false_xor, Bool.xor_true, Bool.xor_false, Nat.reduceAdd, Nat.reduceBEq, Nat.reduceLeDiff, Nat.reduceLT, Nat.reduceMul, Nat.reduceSub, Int.reduceEq, Int.reduceLT, Int.reduceLE, Int.reduceNeg, hX, w1, hc]
          exact ⟨X, hX ▸ upQ_sub M a _, rfl⟩
theorem s86b (k : Nat) (M : List Dl) (a m : Nat) (h1 : a + 1 < m) (hb : m + 1 ≤ M.length) (hM : M.length ≤ 1000) :
    ∃ r, call1 T (k + 2) (.fn 86) [.slc 0 0 0 M.length, .int .i64 a, .int .i64 m, .int .i64 (m + 1 : Nat), .fn 66 []] (dH M) = some r ∧ SubR M r := by
  refine call_inP e86 (by rfl) ?_
  have a0 : w64 ((m : Int) - a) = ((m - a : Nat) : Int) := by rw [w64_id (by omega) (by omega)]; omega
  have a1 : w64 (((m + 1 : Nat) : Int) - m) = 1 := by rw [w64_id (by omega) (by omega)]; omega
  have a2 : decide (((m - a : Nat) : Int) = 1) = false := decide_eq_false (by omega)
  simp only [c86, go_sem, Int.cast_ofNat_Int, Int.reduceToNat, Bool.true_xor, Bool.false_xor, Bool.xor_true, Bool.xor_false, Nat.reduceAdd, Nat.reduceBEq, Nat.reduceLeDiff, Nat.reduceLT, Nat.reduceMul, Nat.reduceSub, Int.reduceEq, Int.reduceLT, Int.reduceLE, Int.reduceNeg, a0, a1, a2]
  refine loop_post (fun q => ([(0, .slc 0 0 0 M.length), (2, .int .i64 m), (4, .fn 66 []), (14, .int .i64 (bsQ (fun h => !lessAt M m h) (a, m) q).1), (15, .int .i64 (bsQ (fun h => !lessAt M m h) (a, m) q).2)], dH M))
    (fun q => let p := bsQ (fun h => !lessAt M m h) (a, m) q; a ≤ p.1 ∧ p.1 ≤ p.2 ∧ p.2 ≤ m ∧ p.2 - p.1 + q ≤ m - a) (m - a) ?_ ?_ ?_
  · simp only [go_sem, Int.cast_ofNat_Int, Int.reduceToNat, Bool.true_xor, Bool.false_xor, Bool.xor_true, Bool.xor_false, Nat.reduceAdd, Nat.reduceBEq, Nat.reduceLeDiff, Nat.reduceLT, Nat.reduceMul, Nat.reduceSub, Int.reduceEq, Int.reduceLT, Int.reduceLE, Int.reduceNeg] <;> rfl
  · exact ⟨Nat.le_refl _, by show a ≤ m; omega, Nat.le_refl _, by show m - a + 0 ≤ _; omega⟩
  · intro q hq hP
    have hst : bsQ (fun h => !lessAt M m h) (a, m) (q + 1) = bsN (fun h => !lessAt M m h) (bsQ (fun h => !lessAt M m h) (a, m) q) := rfl
    generalize hp : bsQ (fun h => !lessAt M m h) (a, m) q = p at *
    obtain ⟨i, j⟩ := p
    simp only at hP
    obtain ⟨p1, p2, p3, p4⟩ := hP
    cases hij : decide (i < j) with
    | true =>
      simp only [decide_eq_true_eq] at hij
      have hh : w64 ((i : Int) + j) = ((i + j : Nat) : Int) := by rw [w64_id (by omega) (by omega)]; omega
      have hw := half_w (show i + j ≤ 4000 by omega)
      have l1 : (i + j) / 2 < M.length := by omega
      have l2 : m < M.length := by omega
      obtain ⟨x, hx⟩ := getS l1
      obtain ⟨y, hy⟩ := getS l2
      have w1 : w64 ((((i + j) / 2 : Nat) : Int) + 1) = (((i + j) / 2 + 1 : Nat) : Int) := by rw [w64_id (by omega) (by omega)]; omega
      have hl : lessAt M m ((i + j) / 2) = decide (cmpD y x < 0) := lessAt_eq hy hx
      simp only [go_sem, Int.cast_ofNat_Int, Int.reduceToNat, Bool.true_xor, Bool.false_xor, Bool.xor_true, Bool.xor_false, Nat.reduceAdd, Nat.reduceBEq, Nat.reduceLeDiff, Nat.reduceLT, Nat.reduceMul, Nat.reduceSub, Int.reduceEq, Int.reduceLT, Int.reduceLE, Int.reduceNeg, hp, hij, hh, hw, l1, l2, hx, hy, dlen3, dtake3, s66]
      cases hc : decide (cmpD y x < 0) with
      | true =>
        have hst2 : bsN (fun h => !lessAt M m h) (i, j) = (i, (i + j) / 2) := by simp only [bsN, hl, hc, Bool.not_true, cond_false]
        simp only [go_sem, Int.cast_ofNat_Int, Int.reduceToNat, Bool.true_xor, Bool.false_xor, Bool.xor_true, Bool.xor_false, Nat.reduceAdd, Nat.reduceBEq, Nat.reduceLeDiff, Nat.reduceLT, Nat.reduceMul, Nat.reduceSub, Int.reduceEq, Int.reduceLT, Int.reduceLE, Int.reduceNeg, hst, hst2]
        exact ⟨by omega, rfl, by omega, by omega, by omega, by omega⟩
      | false =>
        have hst2 : bsN (fun h => !lessAt M m h) (i, j) = ((i + j) / 2 + 1, j) := by simp only [bsN, hl, hc, Bool.not_false, cond_true]
        simp only [go_sem, Int.cast_ofNat_Int, Int.reduceToNat, Bool.true_xor, Bool.false_xor, Bool.xor_true, Bool.xor_false, Nat.reduceAdd, Nat.reduceBEq, Nat.reduceLeDiff, Nat.reduceLT, Nat.reduceMul, Nat.reduceSub, Int.reduceEq, Int.reduceLT, Int.reduceLE, Int.reduceNeg, w1, hst, hst2]
        exact ⟨by omega, rfl, by omega, by omega, by omega, by omega⟩
    | false =>
      simp only [go_sem, Int.cast_ofNat_Int, Int.reduceToNat, Bool.true_xor, Bool.false_xor, Bool.xor_true, Bool.xor_false, Nat.reduceAdd, Nat.reduceBEq, Nat.reduceLeDiff, Nat.reduceLT, Nat.reduceMul, Nat.reduceSub, Int.reduceEq, Int.reduceLT, Int.reduceLE, Int.reduceNeg, hp, hij]
      clear hst hp hq p4
      refine loop_post (fun q => ([(0, .slc 0 0 0 M.length), (14, .int .i64 i), (17, .int .i64 (m - q : Nat))], dH (dnQ M m q))) (fun _ => True) (m - i) ?_ trivial ?_
      · simp only [go_sem, Int.cast_ofNat_Int, Int.reduceToNat, Bool.true_xor, Bool.false_xor, Bool.xor_true, Bool.xor_false, Nat.reduceAdd, Nat.reduceBEq, Nat.reduceLeDiff, Nat.reduceLT, Nat.reduceMul, Nat.reduceSub, Int.reduceEq, Int.reduceLT, Int.reduceLE, Int.reduceNeg] <;> rfl
      · intro q hq _
        have hlen := (dnQ_sub M m q).1
        have hst : dnQ M m (q + 1) = sw (dnQ M m q) (m - q) (m - q - 1) := rfl
        generalize hX : dnQ M m q = X at *
        rcases Nat.lt_or_ge q (m - i) with hlt | hge
        · have hc : decide (i < m - q) = true := decide_eq_true (by omega)
          have w2 : w64 (((m - q : Nat) : Int) - 1) = ((m - q - 1 : Nat) : Int) := by rw [w64_id (by omega) (by omega)]; omega
          have l1 : m - q < M.length := by omega
          have l2 : m - q - 1 < M.length := by omega
          obtain ⟨x, hx⟩ := getS (show m - q < X.length by omega)
          obtain ⟨y, hy⟩ := getS (show m - q - 1 < X.length by omega)
          have hsw : sw X (m - q) (m - q - 1) = (X.set (m - q) y).set (m - q - 1) x := sw_eq hx hy
          have hg2 : (X.set (m - q) y)[m - q - 1]? = some y := by rw [List.getElem?_set_ne (by omega), hy]
          have e1 : m - (q + 1) = m - q - 1 := by omega
          simp only [go_sem, Int.cast_ofNat_Int, Int.reduceToNat, Bool.true_xor, Bool.false_xor, Bool.xor_true, Bool.xor_false, Nat.reduceAdd, Nat.reduceBEq, Nat.reduceLeDiff, Nat.reduceLT, Nat.reduceMul, Nat.reduceSub, Int.reduceEq, Int.reduceLT, Int.reduceLE, Int.reduceNeg, hX, hc, w2, l1, l2, hlen, hx, hy, dlen3, dtake3, ddrop3, drefs, List.append_nil, dS_set, List.length_set, hg2, ← hsw, ← hst, e1]
          exact ⟨hlt, rfl, trivial⟩
        · obtain rfl : q = m - i := by omega
          have hc : decide (i < m - (m - i)) = false := decide_eq_false (by omega)
          simp only [go_sem, Int.cast_ofNat_Int, Int.reduceToNat, Bool.true_xor, Bool.false_xor, Bool.xor_true, Bool.xor_false, Nat.reduceAdd, Nat.reduceBEq, Nat.reduceLeDiff, Nat.reduceLT, Nat.reduceMul, Nat.reduceSub, Int.reduceEq, Int.reduceLT, Int.reduceLE, Int.reduceNeg, hX, hc]
          exact ⟨X, hX ▸ dnQ_sub M m _, rfl⟩
end Go.Sh
namespace Go.Sh
set_option linter.unusedSectionVars false
set_option linter.unnecessarySimpa false
set_option linter.unusedVariables false
set_option linter.unusedSimpArgs false
set_option maxRecDepth 100000
set_option maxHeartbeats 4000000
theorem s86c (d k : Nat) (ih : ∀ (M : List Dl) (a m b : Nat), a < m → m < b → b ≤ M.length → M.length ≤ 1000 → b - a ≤ d →
    ∃ M', Sub M' M ∧ call1 T (k + 3 + d) (.fn 86) [.slc 0 0 0 M.length, .int .i64 a, .int .i64 m, .int .i64 b, .fn 66 []] (dH M) = some (.tup [], dH M'))
    (M : List Dl) (a m b c : Nat) (h1 : a < m) (h2 : m < b) (hb : b ≤ M.length) (hM : M.length ≤ 1000) (hd : b - a ≤ d + 1) (c1 : ¬ m = a + 1) (c2 : ¬ b = m + 1) (hc : (a + b) / 2 = c) (hcm : c < m) :
    ∃ r, call1 T (k + 3 + (d + 1)) (.fn 86) [.slc 0 0 0 M.length, .int .i64 a, .int .i64 m, .int .i64 b, .fn 66 []] (dH M) = some r ∧ SubR M r := by
    refine call_inP (n := k + 3 + d) e86 (by rfl) ?_
    have a0 : w64 ((m : Int) - a) = ((m - a : Nat) : Int) := by rw [w64_id (by omega) (by omega)]; omega
    have a1 : w64 ((b : Int) - m) = ((b - m : Nat) : Int) := by rw [w64_id (by omega) (by omega)]; omega
    have a2 : decide (((m - a : Nat) : Int) = 1) = false := decide_eq_false (by omega)
    have a3 : decide (((b - m : Nat) : Int) = 1) = false := decide_eq_false (by omega)
    have hh : w64 ((a : Int) + b) = ((a + b : Nat) : Int) := by rw [w64_id (by omega) (by omega)]; omega
    have hw := half_w (show a + b ≤ 4000 by omega)
    rw [hc] at hw
    have a4 : w64 ((c : Int) + m) = ((c + m : Nat) : Int) := by rw [w64_id (by omega) (by omega)]; omega
    have h66 : ∀ (x y : Dl) (H : Heap), call1 T (k + 3 + d) (.fn 66) [.agg (dlR x), .agg (dlR y)] H = some (.int .i64 (cmpD x y), H) := fun x y H => by rw [show k + 3 + d = (k + 2 + d) + 1 by omega]; exact s66 _ H x y
    have a5 : w64 (((c + m : Nat) : Int) - 1) = ((c + m - 1 : Nat) : Int) := by rw [w64_id (by omega) (by omega)]; omega
    obtain ⟨pr, hpr⟩ : ∃ pr : Nat → Bool, ∀ h, pr h = !lessAt M (c + m - 1 - h) h := ⟨_, fun _ => rfl⟩
    · have a6 : w64 (((c + m : Nat) : Int) - b) = ((c + m - b : Nat) : Int) := by rw [w64_id (by omega) (by omega)]; omega
      have f2 : c + m - b ≤ c := by omega
      simp only [c86, go_sem, Int.cast_ofNat_Int, Int.reduceToNat, Bool.true_xor, Bool.false_xor, Bool.xor_true, Bool.xor_false, Nat.reduceAdd, Nat.reduceBEq, Nat.reduceLeDiff, Nat.reduceLT, Nat.reduceMul, Nat.reduceSub, Int.reduceEq, Int.reduceLT, Int.reduceLE, Int.reduceNeg, a0, a1, a2, a3, hh, hw, a4, a5, a6, hcm]

      refine loop_post (fun q => ([(0, .slc 0 0 0 M.length), (1, .int .i64 a), (2, .int .i64 m), (3, .int .i64 b), (4, .fn 66 []), (18, .int .i64 c), (19, .int .i64 (c + m : Nat)), (20, .int .i64 (bsQ pr (c + m - b, c) q).1), (21, .int .i64 (bsQ pr (c + m - b, c) q).2), (22, .int .i64 (c + m - 1 : Nat))], dH M))
        (fun q => let p := bsQ pr (c + m - b, c) q; c + m - b ≤ p.1 ∧ p.1 ≤ p.2 ∧ p.2 ≤ c ∧ p.2 - p.1 + q ≤ c - (c + m - b)) (c - (c + m - b)) ?_ ?_ ?_
      · simp only [go_sem, Int.cast_ofNat_Int, Int.reduceToNat, Bool.true_xor, Bool.false_xor, Bool.xor_true, Bool.xor_false, Nat.reduceAdd, Nat.reduceBEq, Nat.reduceLeDiff, Nat.reduceLT, Nat.reduceMul, Nat.reduceSub, Int.reduceEq, Int.reduceLT, Int.reduceLE, Int.reduceNeg] <;> rfl
      · exact ⟨Nat.le_refl _, f2, Nat.le_refl _, Nat.le_refl _⟩
      · intro q hq hP
        have hst : bsQ pr (c + m - b, c) (q + 1) = bsN pr (bsQ pr (c + m - b, c) q) := rfl
        generalize hp : bsQ pr (c + m - b, c) q = p at *
        obtain ⟨i, j⟩ := p
        simp only at hP
        obtain ⟨p1, p2, p3, p4⟩ := hP
        cases hij : decide (i < j) with
        | true =>
          simp only [decide_eq_true_eq] at hij
          have hh2 : w64 ((i : Int) + j) = ((i + j : Nat) : Int) := by rw [w64_id (by omega) (by omega)]; omega
          have hw2 := half_w (show i + j ≤ 4000 by omega)
          obtain ⟨e, he⟩ : ∃ e, (i + j) / 2 = e := ⟨_, rfl⟩
          rw [he] at hw2
          have w2 : w64 (((c + m - 1 : Nat) : Int) - e) = ((c + m - 1 - e : Nat) : Int) := by rw [w64_id (by omega) (by omega)]; omega
          have l1 : c + m - 1 - e < M.length := by omega
          have l2 : e < M.length := by omega
          obtain ⟨x, hx⟩ := getS l1
          obtain ⟨y, hy⟩ := getS l2
          have w1 : w64 ((e : Int) + 1) = ((e + 1 : Nat) : Int) := by rw [w64_id (by omega) (by omega)]; omega
          have hl : lessAt M (c + m - 1 - e) e = decide (cmpD x y < 0) := lessAt_eq hx hy
          simp only [go_sem, Int.cast_ofNat_Int, Int.reduceToNat, Bool.true_xor, Bool.false_xor, Bool.xor_true, Bool.xor_false, Nat.reduceAdd, Nat.reduceBEq, Nat.reduceLeDiff, Nat.reduceLT, Nat.reduceMul, Nat.reduceSub, Int.reduceEq, Int.reduceLT, Int.reduceLE, Int.reduceNeg, hp, hij, hh2, hw2, w2, l1, l2, hx, hy, dlen3, dtake3, h66]
          cases hc2 : decide (cmpD x y < 0) with
          | true =>
            have hst2 : bsN pr (i, j) = (i, e) := by simp only [bsN, hpr, he, hl, hc2, Bool.not_true, cond_false]
            simp only [go_sem, Int.cast_ofNat_Int, Int.reduceToNat, Bool.true_xor, Bool.false_xor, Bool.xor_true, Bool.xor_false, Nat.reduceAdd, Nat.reduceBEq, Nat.reduceLeDiff, Nat.reduceLT, Nat.reduceMul, Nat.reduceSub, Int.reduceEq, Int.reduceLT, Int.reduceLE, Int.reduceNeg, hst, hst2]
            exact ⟨by omega, rfl, by omega, by omega, by omega, by omega⟩
          | false =>
            have hst2 : bsN pr (i, j) = (e + 1, j) := by simp only [bsN, hpr, he, hl, hc2, Bool.not_false, cond_true]
            simp only [go_sem, Int.cast_ofNat_Int, Int.reduceToNat, Bool.true_xor, Bool.false_xor, Bool.xor_true, Bool.xor_false, Nat.reduceAdd, Nat.reduceBEq, Nat.reduceLeDiff, Nat.reduceLT, Nat.reduceMul, Nat.reduceSub, Int.reduceEq, Int.reduceLT, Int.reduceLE, Int.reduceNeg, w1, hst, hst2]
            exact ⟨by omega, rfl, by omega, by omega, by omega, by omega⟩
        | false =>
          have w3 : w64 (((c + m : Nat) : Int) - i) = ((c + m - i : Nat) : Int) := by rw [w64_id (by omega) (by omega)]; omega
          obtain ⟨e, he⟩ : ∃ e, c + m - i = e := ⟨_, rfl⟩
          rw [he] at w3
          obtain ⟨M1, q1, h89⟩ : ∃ M1, Sub M1 M ∧ (i < m → m < e → call1 T (k + 3 + d) (.fn 89) [.slc 0 0 0 M.length, .int .i64 i, .int .i64 m, .int .i64 e, .fn 66 []] (dH M) = some (.tup [], dH M1)) ∧ (¬ (i < m ∧ m < e) → M1 = M) := by
            by_cases g : i < m ∧ m < e
            · obtain ⟨M1, q1, q2⟩ := s89 (k + 1 + d) M i m e g.1 g.2 (by omega) hM
              rw [show k + 1 + d + 2 = k + 3 + d by omega] at q2
              exact ⟨M1, q1, fun _ _ => q2, fun h => absurd g h⟩
            · exact ⟨M, Sub.refl M, fun h h' => absurd ⟨h, h'⟩ g, fun _ => rfl⟩
          obtain ⟨h89, h89n⟩ := h89
          obtain ⟨M2, q2, h86⟩ : ∃ M2, Sub M2 M1 ∧ (a < i → i < c → call1 T (k + 3 + d) (.fn 86) [.slc 0 0 0 M.length, .int .i64 a, .int .i64 i, .int .i64 c, .fn 66 []] (dH M1) = some (.tup [], dH M2)) ∧ (¬ (a < i ∧ i < c) → M2 = M1) := by
            by_cases g : a < i ∧ i < c
            · obtain ⟨M2, q2, q3⟩ := ih M1 a i c g.1 g.2 (by rw [q1.1]; omega) (by rw [q1.1]; exact hM) (by omega)
              rw [q1.1] at q3
              exact ⟨M2, q2, fun _ _ => q3, fun h => absurd g h⟩
            · exact ⟨M1, Sub.refl M1, fun h h' => absurd ⟨h, h'⟩ g, fun _ => rfl⟩
          obtain ⟨h86, h86n⟩ := h86
          obtain ⟨M3, q3, h87⟩ : ∃ M3, Sub M3 M2 ∧ (c < e → e < b → call1 T (k + 3 + d) (.fn 86) [.slc 0 0 0 M.length, .int .i64 c, .int .i64 e, .int .i64 b, .fn 66 []] (dH M2) = some (.tup [], dH M3)) ∧ (¬ (c < e ∧ e < b) → M3 = M2) := by
            by_cases g : c < e ∧ e < b
            · obtain ⟨M3, q3, q4⟩ := ih M2 c e b g.1 g.2 (by rw [q2.1, q1.1]; omega) (by rw [q2.1, q1.1]; exact hM) (by omega)
              rw [q2.1, q1.1] at q4
              exact ⟨M3, q3, fun _ _ => q4, fun h => absurd g h⟩
            · exact ⟨M2, Sub.refl M2, fun h h' => absurd ⟨h, h'⟩ g, fun _ => rfl⟩
          obtain ⟨h87, h87n⟩ := h87
          have fin : SubR M (.tup [], dH M3) := ⟨M3, q3.trans (q2.trans q1), rfl⟩
          simp only [go_sem, Int.cast_ofNat_Int, Int.reduceToNat, Bool.true_xor, Bool.false_xor, Bool.xor_true, Bool.xor_false, Nat.reduceAdd, Nat.reduceBEq, Nat.reduceLeDiff, Nat.reduceLT, Nat.reduceMul, Nat.reduceSub, Int.reduceEq, Int.reduceLT, Int.reduceLE, Int.reduceNeg, hp, hij, w3]
          clear hst hp hq p4
          by_cases g1 : i < m
          · simp only [go_sem, Int.cast_ofNat_Int, Int.reduceToNat, Bool.true_xor, Bool.false_xor, Bool.xor_true, Bool.xor_false, Nat.reduceAdd, Nat.reduceBEq, Nat.reduceLeDiff, Nat.reduceLT, Nat.reduceMul, Nat.reduceSub, Int.reduceEq, Int.reduceLT, Int.reduceLE, Int.reduceNeg, g1]
            by_cases g2 : m < e
            · have h89 := h89 g1 g2
              simp only [go_sem, Int.cast_ofNat_Int, Int.reduceToNat, Bool.true_xor, Bool.false_xor, Bool.xor_true, Bool.xor_false, Nat.reduceAdd, Nat.reduceBEq, Nat.reduceLeDiff, Nat.reduceLT, Nat.reduceMul, Nat.reduceSub, Int.reduceEq, Int.reduceLT, Int.reduceLE, Int.reduceNeg, g2, h89]
              by_cases g3 : a < i
              · simp only [go_sem, Int.cast_ofNat_Int, Int.reduceToNat, Bool.true_xor, Bool.false_xor, Bool.xor_true, Bool.xor_false, Nat.reduceAdd, Nat.reduceBEq, Nat.reduceLeDiff, Nat.reduceLT, Nat.reduceMul, Nat.reduceSub, Int.reduceEq, Int.reduceLT, Int.reduceLE, Int.reduceNeg, g3]
                by_cases g4 : i < c
                · have h86 := h86 g3 g4
                  simp only [go_sem, Int.cast_ofNat_Int, Int.reduceToNat, Bool.true_xor, Bool.false_xor, Bool.xor_true, Bool.xor_false, Nat.reduceAdd, Nat.reduceBEq, Nat.reduceLeDiff, Nat.reduceLT, Nat.reduceMul, Nat.reduceSub, Int.reduceEq, Int.reduceLT, Int.reduceLE, Int.reduceNeg, g4, h86]
                  by_cases g5 : c < e
                  · simp only [go_sem, Int.cast_ofNat_Int, Int.reduceToNat, Bool.true_xor, Bool.false_xor, Bool.xor_true, Bool.xor_false, Nat.reduceAdd, Nat.reduceBEq, Nat.reduceLeDiff, Nat.reduceLT, Nat.reduceMul, Nat.reduceSub, Int.reduceEq, Int.reduceLT, Int.reduceLE, Int.reduceNeg, g5]
                    by_cases g6 : e < b
                    · have h87 := h87 g5 g6
                      simp only [go_sem, Int.cast_ofNat_Int, Int.reduceToNat, Bool.true_xor, Bool.false_xor, Bool.xor_true, Bool.xor_false, Nat.reduceAdd, Nat.reduceBEq, Nat.reduceLeDiff, Nat.reduceLT, Nat.reduceMul, Nat.reduceSub, Int.reduceEq, Int.reduceLT, Int.reduceLE, Int.reduceNeg, g6, h87]
                      exact fin
                    · obtain rfl := h87n (fun h => g6 h.2)
                      simp only [go_sem, Int.cast_ofNat_Int, Int.reduceToNat, Bool.true_xor, Bool.false_xor, Bool.xor_true, Bool.xor_false, Nat.reduceAdd, Nat.reduceBEq, Nat.reduceLeDiff, Nat.reduceLT, Nat.reduceMul, Nat.reduceSub, Int.reduceEq, Int.reduceLT, Int.reduceLE, Int.reduceNeg, g6]
                      exact fin
                  · obtain rfl := h87n (fun h => g5 h.1)
                    simp only [go_sem, Int.cast_ofNat_Int, Int.reduceToNat, Bool.true_xor, Bool.false_xor, Bool.xor_true, Bool.xor_false, Nat.reduceAdd, Nat.reduceBEq, Nat.reduceLeDiff, Nat.reduceLT, Nat.reduceMul, Nat.reduceSub, Int.reduceEq, Int.reduceLT, Int.reduceLE, Int.reduceNeg, g5]
                    exact fin
                · obtain rfl := h86n (fun h => g4 h.2)
                  simp only [go_sem, Int.cast_ofNat_Int, Int.reduceToNat, Bool.true_xor, Bool.false_xor, Bool.xor_true, Bool.xor_false, Nat.reduceAdd, Nat.reduceBEq, Nat.reduceLeDiff, Nat.reduceLT, Nat.reduceMul, Nat.reduceSub, Int.reduceEq, Int.reduceLT, Int.reduceLE, Int.reduceNeg, g4]
                  by_cases g5 : c < e
                  · simp only [go_sem, Int.cast_ofNat_Int, Int.reduceToNat, Bool.true_xor, Bool.false_xor, Bool.xor_true, Bool.xor_false, Nat.reduceAdd, Nat.reduceBEq, Nat.reduceLeDiff, Nat.reduceLT, Nat.reduceMul, Nat.reduceSub, Int.reduceEq, Int.reduceLT, Int.reduceLE, Int.reduceNeg, g5]
                    by_cases g6 : e < b
                    · have h87 := h87 g5 g6
                      simp only [go_sem, Int.cast_ofNat_Int, Int.reduceToNat, Bool.true_xor, Bool.false_xor, Bool.xor_true, Bool.xor_false, Nat.reduceAdd, Nat.reduceBEq, Nat.reduceLeDiff, Nat.reduceLT, Nat.reduceMul, Nat.reduceSub, Int.reduceEq, Int.reduceLT, Int.reduceLE, Int.reduceNeg, g6, h87]
                      exact fin
                    · obtain rfl := h87n (fun h => g6 h.2)
                      simp only [go_sem, Int.cast_ofNat_Int, Int.reduceToNat, Bool.true_xor, Bool.false_xor, Bool.xor_true, Bool.xor_false, Nat.reduceAdd, Nat.reduceBEq, Nat.reduceLeDiff, Nat.reduceLT, Nat.reduceMul, Nat.reduceSub, Int.reduceEq, Int.reduceLT, Int.reduceLE, Int.reduceNeg, g6]
                      exact fin
                  · obtain rfl := h87n (fun h => g5 h.1)
                    simp only [go_sem, Int.cast_ofNat_Int, Int.reduceToNat, Bool.true_xor, Bool.false_xor, Bool.xor_true, Bool.xor_false, Nat.reduceAdd, Nat.reduceBEq, Nat.reduceLeDiff, Nat.reduceLT, Nat.reduceMul, Nat.reduceSub, Int.reduceEq, Int.reduceLT, Int.reduceLE, Int.reduceNeg, g5]
                    exact fin
              · obtain rfl := h86n (fun h => g3 h.1)
                simp only [go_sem, Int.cast_ofNat_Int, Int.reduceToNat, Bool.true_xor, Bool.false_xor, Bool.xor_true, Bool.xor_false, Nat.reduceAdd, Nat.reduceBEq, Nat.reduceLeDiff, Nat.reduceLT, Nat.reduceMul, Nat.reduceSub, Int.reduceEq, Int.reduceLT, Int.reduceLE, Int.reduceNeg, g3]
                by_cases g5 : c < e
                · simp only [go_sem, Int.cast_ofNat_Int, Int.reduceToNat, Bool.true_xor, Bool.false_xor, Bool.xor_true, Bool.xor_false, Nat.reduceAdd, Nat.reduceBEq, Nat.reduceLeDiff, Nat.reduceLT, Nat.reduceMul, Nat.reduceSub, Int.reduceEq, Int.reduceLT, Int.reduceLE, Int.reduceNeg, g5]
                  by_cases g6 : e < b
                  · have h87 := h87 g5 g6
                    simp only [go_sem, Int.cast_ofNat_Int, Int.reduceToNat, Bool.true_xor, Bool.false_xor, Bool.xor_true, Bool.xor_false, Nat.reduceAdd, Nat.reduceBEq, Nat.reduceLeDiff, Nat.reduceLT, Nat.reduceMul, Nat.reduceSub, Int.reduceEq, Int.reduceLT, Int.reduceLE, Int.reduceNeg, g6, h87]
                    exact fin
                  · obtain rfl := h87n (fun h => g6 h.2)
                    simp only [go_sem, Int.cast_ofNat_Int, Int.reduceToNat, Bool.true_xor, Bool.false_xor, Bool.xor_true, Bool.xor_false, Nat.reduceAdd, Nat.reduceBEq, Nat.reduceLeDiff, Nat.reduceLT, Nat.reduceMul, Nat.reduceSub, Int.reduceEq, Int.reduceLT, Int.reduceLE, Int.reduceNeg, g6]
                    exact fin
                · obtain rfl := h87n (fun h => g5 h.1)
                  simp only [go_sem, Int.cast_ofNat_Int, Int.reduceToNat, Bool.true_xor, Bool.false_xor, Bool.xor_true, Bool.xor_false, Nat.reduceAdd, Nat.reduceBEq, Nat.reduceLeDiff, Nat.reduceLT, Nat.reduceMul, Nat.reduceSub, Int.reduceEq, Int.reduceLT, Int.reduceLE, Int.reduceNeg, g5]
                  exact fin
            · obtain rfl := h89n (fun h => g2 h.2)
              simp only [go_sem, Int.cast_ofNat_Int, Int.reduceToNat, Bool.true_xor, Bool.false_xor, Bool.xor_true, Bool.xor_false, Nat.reduceAdd, Nat.reduceBEq, Nat.reduceLeDiff, Nat.reduceLT, Nat.reduceMul, Nat.reduceSub, Int.reduceEq, Int.reduceLT, Int.reduceLE, Int.reduceNeg, g2]
              by_cases g3 : a < i
              · simp only [go_sem, Int.cast_ofNat_Int, Int.reduceToNat, Bool.true_xor, Bool.false_xor, Bool.xor_true, Bool.xor_false, Nat.reduceAdd, Nat.reduceBEq, Nat.reduceLeDiff, Nat.reduceLT, Nat.reduceMul, Nat.reduceSub, Int.reduceEq, Int.reduceLT, Int.reduceLE, Int.reduceNeg, g3]
                by_cases g4 : i < c
                · have h86 := h86 g3 g4
                  simp only [go_sem, Int.cast_ofNat_Int, Int.reduceToNat, Bool.true_xor, Bool.false_xor, Bool.xor_true, Bool.xor_false, Nat.reduceAdd, Nat.reduceBEq, Nat.reduceLeDiff, Nat.reduceLT, Nat.reduceMul, Nat.reduceSub, Int.reduceEq, Int.reduceLT, Int.reduceLE, Int.reduceNeg, g4, h86]
                  by_cases g5 : c < e
                  · simp only [go_sem, Int.cast_ofNat_Int, Int.reduceToNat, Bool.true_xor, Bool.false_xor, Bool.xor_true, Bool.xor_false, Nat.reduceAdd, Nat.reduceBEq, Nat.reduceLeDiff, Nat.reduceLT, Nat.reduceMul, Nat.reduceSub, Int.reduceEq, Int.reduceLT, Int.reduceLE, Int.reduceNeg, g5]
                    by_cases g6 : e < b
                    · have h87 := h87 g5 g6
                      simp only [go_sem, Int.cast_ofNat_Int, Int.reduceToNat, Bool.true_xor, Bool.false_xor, Bool.xor_true, Bool.xor_false, Nat.reduceAdd, Nat.reduceBEq, Nat.reduceLeDiff, Nat.reduceLT, Nat.reduceMul, Nat.reduceSub, Int.reduceEq, Int.reduceLT, Int.reduceLE, Int.reduceNeg, g6, h87]
                      exact fin
                    · obtain rfl := h87n (fun h => g6 h.2)
                      simp only [go_sem, Int.cast_ofNat_Int, Int.reduceToNat, Bool.true_xor, Bool.false_xor, Bool.xor_true, Bool.xor_false, Nat.reduceAdd, Nat.reduceBEq, Nat.reduceLeDiff, Nat.reduceLT, Nat.reduceMul, Nat.reduceSub, Int.reduceEq, Int.reduceLT, Int.reduceLE, Int.reduceNeg, g6]
                      exact fin
                  · obtain rfl := h87n (fun h => g5 h.1)
                    simp only [go_sem, Int.cast_ofNat_Int, Int.reduceToNat, Bool.true_xor, Bool.false_xor, Bool.xor_true, Bool.xor_false, Nat.reduceAdd, Nat.reduceBEq, Nat.reduceLeDiff, Nat.reduceLT, Nat.reduceMul, Nat.reduceSub, Int.reduceEq, Int.reduceLT, Int.reduceLE, Int.reduceNeg, g5]
                    exact fin
                · obtain rfl := h86n (fun h => g4 h.2)
                  simp only [go_sem, Int.cast_ofNat_Int, Int.reduceToNat, Bool.true_xor, Bool.false_xor, Bool.xor_true, Bool.xor_false, Nat.reduceAdd, Nat.reduceBEq, Nat.reduceLeDiff, Nat.reduceLT, Nat.reduceMul, Nat.reduceSub, Int.reduceEq, Int.reduceLT, Int.reduceLE, Int.reduceNeg, g4]
                  by_cases g5 : c < e
                  · simp only [go_sem, Int.cast_ofNat_Int, Int.reduceToNat, Bool.true_xor, Bool.false_xor, Bool.xor_true, Bool.xor_false, Nat.reduceAdd, Nat.reduceBEq, Nat.reduceLeDiff, Nat.reduceLT, Nat.reduceMul, Nat.reduceSub, Int.reduceEq, Int.reduceLT, Int.reduceLE, Int.reduceNeg, g5]
                    by_cases g6 : e < b
                    · have h87 := h87 g5 g6
                      simp only [go_sem, Int.cast_ofNat_Int, Int.reduceToNat, Bool.true_xor, Bool.false_xor, Bool.xor_true, Bool.xor_false, Nat.reduceAdd, Nat.reduceBEq, Nat.reduceLeDiff, Nat.reduceLT, Nat.reduceMul, Nat.reduceSub, Int.reduceEq, Int.reduceLT, Int.reduceLE, Int.reduceNeg, g6, h87]
                      exact fin
                    · obtain rfl := h87n (fun h => g6 h.2)
                      simp only [go_sem, Int.cast_ofNat_Int, Int.reduceToNat, Bool.true_xor, Bool.false_xor, Bool.xor_true, Bool.xor_false, Nat.reduceAdd, Nat.reduceBEq, Nat.reduceLeDiff, Nat.reduceLT, Nat.reduceMul, Nat.reduceSub, Int.reduceEq, Int.reduceLT, Int.reduceLE, Int.reduceNeg, g6]
                      exact fin
                  · obtain rfl := h87n (fun h => g5 h.1)
                    simp only [go_sem, Int.cast_ofNat_Int, Int.reduceToNat, Bool.true_xor, Bool.false_xor, Bool.xor_true, Bool.xor_false, Nat.reduceAdd, Nat.reduceBEq, Nat.reduceLeDiff, Nat.reduceLT, Nat.reduceMul, Nat.reduceSub, Int.reduceEq, Int.reduceLT, Int.reduceLE, Int.reduceNeg, g5]
                    exact fin
              · obtain rfl := h86n (fun h => g3 h.1)
                simp only [go_sem, Int.cast_ofNat_Int, Int.reduceToNat, Bool.true_xor, Bool.false_xor, Bool.xor_true, Bool.xor_false, Nat.reduceAdd, Nat.reduceBEq, Nat.reduceLeDiff, Nat.reduceLT, Nat.reduceMul, Nat.reduceSub, Int.reduceEq, Int.reduceLT, Int.reduceLE, Int.reduceNeg, g3]
                by_cases g5 : c < e
                · simp only [go_sem, Int.cast_ofNat_Int, Int.reduceToNat, Bool.true_xor, Bool.false_xor, Bool.xor_true, Bool.xor_false, Nat.reduceAdd, Nat.reduceBEq, Nat.reduceLeDiff, Nat.reduceLT, Nat.reduceMul, Nat.reduceSub, Int.reduceEq, Int.reduceLT, Int.reduceLE, Int.reduceNeg, g5]
                  by_cases g6 : e < b
                  · have h87 := h87 g5 g6
                    simp only [go_sem, Int.cast_ofNat_Int, Int.reduceToNat, Bool.true_xor, Bool.false_xor, Bool.xor_true, Bool.xor_false, Nat.reduceAdd, Nat.reduceBEq, Nat.reduceLeDiff, Nat.reduceLT, Nat.reduceMul, Nat.reduceSub, Int.reduceEq, Int.reduceLT, Int.reduceLE, Int.reduceNeg, g6, h87]
                    exact fin
                  · obtain rfl := h87n (fun h => g6 h.2)
                    simp only [go_sem, Int.cast_ofNat_Int, Int.reduceToNat, Bool.true_xor, Bool.false_xor, Bool.xor_true, Bool.xor_false, Nat.reduceAdd, Nat.reduceBEq, Nat.reduceLeDiff, Nat.reduceLT, Nat.reduceMul, Nat.reduceSub, Int.reduceEq, Int.reduceLT, Int.reduceLE, Int.reduceNeg, g6]
                    exact fin
                · obtain rfl := h87n (fun h => g5 h.1)
                  simp only [go_sem, Int.cast_ofNat_Int, Int.reduceToNat, Bool.true_xor, Bool.false_xor, Bool.xor_true, Bool.xor_false, Nat.reduceAdd, Nat.reduceBEq, Nat.reduceLeDiff, Nat.reduceLT, Nat.reduceMul, Nat.reduceSub, Int.reduceEq, Int.reduceLT, Int.reduceLE, Int.reduceNeg, g5]
                  exact fin
          · obtain rfl := h89n (fun h => g1 h.1)
            simp only [go_sem, Int.cast_ofNat_Int, Int.reduceToNat, Bool.true_xor, Bool.false_xor, Bool.xor_true, Bool.xor_false, Nat.reduceAdd, Nat.reduceBEq, Nat.reduceLeDiff, Nat.reduceLT, Nat.reduceMul, Nat.reduceSub, Int.reduceEq, Int.reduceLT, Int.reduceLE, Int.reduceNeg, g1]
            by_cases g3 : a < i
            · simp only [go_sem, Int.cast_ofNat_Int, Int.reduceToNat, Bool.true_xor, Bool.false_xor, Bool.xor_true, Bool.xor_false, Nat.reduceAdd, Nat.reduceBEq, Nat.reduceLeDiff, Nat.reduceLT, Nat.reduceMul, Nat.reduceSub, Int.reduceEq, Int.reduceLT, Int.reduceLE, Int.reduceNeg, g3]
              by_cases g4 : i < c
              · have h86 := h86 g3 g4
                simp only [go_sem, Int.cast_ofNat_Int, Int.reduceToNat, Bool.true_xor, Bool.false_xor, Bool.xor_true, Bool.xor_false, Nat.reduceAdd, Nat.reduceBEq, Nat.reduceLeDiff, Nat.reduceLT, Nat.reduceMul, Nat.reduceSub, Int.reduceEq, Int.reduceLT, Int.reduceLE, Int.reduceNeg, g4, h86]
                by_cases g5 : c < e
                · simp only [go_sem, Int.cast_ofNat_Int, Int.reduceToNat, Bool.true_xor, Bool.false_xor, Bool.xor_true, Bool.xor_false, Nat.reduceAdd, Nat.reduceBEq, Nat.reduceLeDiff, Nat.reduceLT, Nat.reduceMul, Nat.reduceSub, Int.reduceEq, Int.reduceLT, Int.reduceLE, Int.reduceNeg, g5]
                  by_cases g6 : e < b
                  · have h87 := h87 g5 g6
                    simp only [go_sem, Int.cast_ofNat_Int, Int.reduceToNat, Bool.true_xor, Bool.false_xor, Bool.xor_true, Bool.xor_false, Nat.reduceAdd, Nat.reduceBEq, Nat.reduceLeDiff, Nat.reduceLT, Nat.reduceMul, Nat.reduceSub, Int.reduceEq, Int.reduceLT, Int.reduceLE, Int.reduceNeg, g6, h87]
                    exact fin
                  · obtain rfl := h87n (fun h => g6 h.2)
                    simp only [go_sem, Int.cast_ofNat_Int, Int.reduceToNat, Bool.true_xor, Bool.false_xor, Bool.xor_true, Bool.xor_false, Nat.reduceAdd, Nat.reduceBEq, Nat.reduceLeDiff, Nat.reduceLT, Nat.reduceMul, Nat.reduceSub, Int.reduceEq, Int.reduceLT, Int.reduceLE, Int.reduceNeg, g6]
                    exact fin
                · obtain rfl := h87n (fun h => g5 h.1)
                  simp only [go_sem, Int.cast_ofNat_Int, Int.reduceToNat, Bool.true_xor, Bool.false_xor, Bool.xor_true, Bool.xor_false, Nat.reduceAdd, Nat.reduceBEq, Nat.reduceLeDiff, Nat.reduceLT, Nat.reduceMul, Nat.reduceSub, Int.reduceEq, Int.reduceLT, Int.reduceLE, Int.reduceNeg, g5]
                  exact fin
              · obtain rfl := h86n (fun h => g4 h.2)
                simp only [go_sem, Int.cast_ofNat_Int, Int.reduceToNat, Bool.true_xor, Bool.false_xor, Bool.xor_true, Bool.xor_false, Nat.reduceAdd, Nat.reduceBEq, Nat.reduceLeDiff, Nat.reduceLT, Nat.reduceMul, Nat.reduceSub, Int.reduceEq, Int.reduceLT, Int.reduceLE, Int.reduceNeg, g4]
                by_cases g5 : c < e
                · simp only [go_sem, Int.cast_ofNat_Int, Int.reduceToNat, Bool.true_xor, Bool.false_xor, Bool.xor_true, Bool.xor_false, Nat.reduceAdd, Nat.reduceBEq, Nat.reduceLeDiff, Nat.reduceLT, Nat.reduceMul, Nat.reduceSub, Int.reduceEq, Int.reduceLT, Int.reduceLE, Int.reduceNeg, g5]
                  by_cases g6 : e < b
                  · have h87 := h87 g5 g6
                    simp only [go_sem, Int.cast_ofNat_Int, Int.reduceToNat, Bool.true_xor, Bool.false_xor, Bool.xor_true, Bool.xor_false, Nat.reduceAdd, Nat.reduceBEq, Nat.reduceLeDiff, Nat.reduceLT, Nat.reduceMul, Nat.reduceSub, Int.reduceEq, Int.reduceLT, Int.reduceLE, Int.reduceNeg, g6, h87]
                    exact fin
                  · obtain rfl := h87n (fun h => g6 h.2)
                    simp only [go_sem, Int.cast_ofNat_Int, Int.reduceToNat, Bool.true_xor, Bool.false_xor, Bool.xor_true, Bool.xor_false, Nat.reduceAdd, Nat.reduceBEq, Nat.reduceLeDiff, Nat.reduceLT, Nat.reduceMul, Nat.reduceSub, Int.reduceEq, Int.reduceLT, Int.reduceLE, Int.reduceNeg, g6]
                    exact fin
                · obtain rfl := h87n (fun h => g5 h.1)
                  simp only [go_sem, Int.cast_ofNat_Int, Int.reduceToNat, Bool.true_xor, Bool.false_xor, Bool.xor_true, Bool.xor_false, Nat.reduceAdd, Nat.reduceBEq, Nat.reduceLeDiff, Nat.reduceLT, Nat.reduceMul, Nat.reduceSub, Int.reduceEq, Int.reduceLT, Int.reduceLE, Int.reduceNeg, g5]
                  exact fin
            · obtain rfl := h86n (fun h => g3 h.1)
              simp only [go_sem, Int.cast_ofNat_Int, Int.reduceToNat, Bool.true_xor, Bool.false_xor, Bool.xor_true, Bool.xor_false, Nat.reduceAdd, Nat.reduceBEq, Nat.reduceLeDiff, Nat.reduceLT, Nat.reduceMul, Nat.reduceSub, Int.reduceEq, Int.reduceLT, Int.reduceLE, Int.reduceNeg, g3]
              by_cases g5 : c < e
              · simp only [go_sem, Int.cast_ofNat_Int, Int.reduceToNat, Bool.true_xor, Bool.false_xor, Bool.xor_true, Bool.xor_false, Nat.reduceAdd, Nat.reduceBEq, Nat.reduceLeDiff, Nat.reduceLT, Nat.reduceMul, Nat.reduceSub, Int.reduceEq, Int.reduceLT, Int.reduceLE, Int.reduceNeg, g5]
                by_cases g6 : e < b
                · have h87 := h87 g5 g6
                  simp only [go_sem, Int.cast_ofNat_Int, Int.reduceToNat, Bool.true_xor, Bool.false_xor, Bool.xor_true, Bool.xor_false, Nat.reduceAdd, Nat.reduceBEq, Nat.reduceLeDiff, Nat.reduceLT, Nat.reduceMul, Nat.reduceSub, Int.reduceEq, Int.reduceLT, Int.reduceLE, Int.reduceNeg, g6, h87]
                  exact fin
                · obtain rfl := h87n (fun h => g6 h.2)
                  simp only [go_sem, Int.cast_ofNat_Int, Int.reduceToNat, Bool.true_xor, Bool.false_xor, Bool.xor_true, Bool.xor_false, Nat.reduceAdd, Nat.reduceBEq, Nat.reduceLeDiff, Nat.reduceLT, Nat.reduceMul, Nat.reduceSub, Int.reduceEq, Int.reduceLT, Int.reduceLE, Int.reduceNeg, g6]
                  exact fin
              · obtain rfl := h87n (fun h => g5 h.1)
                simp only [go_sem, Int.cast_ofNat_Int, Int.reduceToNat, Bool.true_xor, Bool.false_xor, Bool.xor_true, Bool.xor_false, Nat.reduceAdd, Nat.reduceBEq, Nat.reduceLeDiff, Nat.reduceLT, Nat.reduceMul, Nat.reduceSub, Int.reduceEq, Int.reduceLT, Int.reduceLE, Int.reduceNeg, g5]
                exact fin
end Go.Sh
namespace Go.Sh
set_option linter.unusedSectionVars false
set_option linter.unnecessarySimpa false
set_option linter.unusedVariables false
set_option linter.unusedSimpArgs false
set_option maxRecDepth 100000
set_option maxHeartbeats 4000000
theorem s86d (d k : Nat) (ih : ∀ (M : List Dl) (a m b : Nat), a < m → m < b → b ≤ M.length → M.length ≤ 1000 → b - a ≤ d →
    ∃ M', Sub M' M ∧ call1 T (k + 3 + d) (.fn 86) [.slc 0 0 0 M.length, .int .i64 a, .int .i64 m, .int .i64 b, .fn 66 []] (dH M) = some (.tup [], dH M'))
    (M : List Dl) (a m b c : Nat) (h1 : a < m) (h2 : m < b) (hb : b ≤ M.length) (hM : M.length ≤ 1000) (hd : b - a ≤ d + 1) (c1 : ¬ m = a + 1) (c2 : ¬ b = m + 1) (hc : (a + b) / 2 = c) (hcm : ¬ c < m) :
    ∃ r, call1 T (k + 3 + (d + 1)) (.fn 86) [.slc 0 0 0 M.length, .int .i64 a, .int .i64 m, .int .i64 b, .fn 66 []] (dH M) = some r ∧ SubR M r := by
    refine call_inP (n := k + 3 + d) e86 (by rfl) ?_
    have a0 : w64 ((m : Int) - a) = ((m - a : Nat) : Int) := by rw [w64_id (by omega) (by omega)]; omega
    have a1 : w64 ((b : Int) - m) = ((b - m : Nat) : Int) := by rw [w64_id (by omega) (by omega)]; omega
    have a2 : decide (((m - a : Nat) : Int) = 1) = false := decide_eq_false (by omega)
    have a3 : decide (((b - m : Nat) : Int) = 1) = false := decide_eq_false (by omega)
    have hh : w64 ((a : Int) + b) = ((a + b : Nat) : Int) := by rw [w64_id (by omega) (by omega)]; omega
    have hw := half_w (show a + b ≤ 4000 by omega)
    rw [hc] at hw
    have a4 : w64 ((c : Int) + m) = ((c + m : Nat) : Int) := by rw [w64_id (by omega) (by omega)]; omega
    have h66 : ∀ (x y : Dl) (H : Heap), call1 T (k + 3 + d) (.fn 66) [.agg (dlR x), .agg (dlR y)] H = some (.int .i64 (cmpD x y), H) := fun x y H => by rw [show k + 3 + d = (k + 2 + d) + 1 by omega]; exact s66 _ H x y
    have a5 : w64 (((c + m : Nat) : Int) - 1) = ((c + m - 1 : Nat) : Int) := by rw [w64_id (by omega) (by omega)]; omega
    obtain ⟨pr, hpr⟩ : ∃ pr : Nat → Bool, ∀ h, pr h = !lessAt M (c + m - 1 - h) h := ⟨_, fun _ => rfl⟩
    · have f2 : a ≤ m := by omega
      simp only [c86, go_sem, Int.cast_ofNat_Int, Int.reduceToNat, Bool.true_xor, Bool.false_xor, Bool.xor_true, Bool.xor_false, Nat.reduceAdd, Nat.reduceBEq, Nat.reduceLeDiff, Nat.reduceLT, Nat.reduceMul, Nat.reduceSub, Int.reduceEq, Int.reduceLT, Int.reduceLE, Int.reduceNeg, a0, a1, a2, a3, hh, hw, a4, a5, hcm]

      refine loop_post (fun q => ([(0, .slc 0 0 0 M.length), (1, .int .i64 a), (2, .int .i64 m), (3, .int .i64 b), (4, .fn 66 []), (18, .int .i64 c), (19, .int .i64 (c + m : Nat)), (20, .int .i64 (bsQ pr (a, m) q).1), (21, .int .i64 (bsQ pr (a, m) q).2), (22, .int .i64 (c + m - 1 : Nat))], dH M))
        (fun q => let p := bsQ pr (a, m) q; a ≤ p.1 ∧ p.1 ≤ p.2 ∧ p.2 ≤ m ∧ p.2 - p.1 + q ≤ m - (a)) (m - (a)) ?_ ?_ ?_
      · simp only [go_sem, Int.cast_ofNat_Int, Int.reduceToNat, Bool.true_xor, Bool.false_xor, Bool.xor_true, Bool.xor_false, Nat.reduceAdd, Nat.reduceBEq, Nat.reduceLeDiff, Nat.reduceLT, Nat.reduceMul, Nat.reduceSub, Int.reduceEq, Int.reduceLT, Int.reduceLE, Int.reduceNeg] <;> rfl
      · exact ⟨Nat.le_refl _, f2, Nat.le_refl _, Nat.le_refl _⟩
      · intro q hq hP
        have hst : bsQ pr (a, m) (q + 1) = bsN pr (bsQ pr (a, m) q) := rfl
        generalize hp : bsQ pr (a, m) q = p at *
        obtain ⟨i, j⟩ := p
        simp only at hP
        obtain ⟨p1, p2, p3, p4⟩ := hP
        cases hij : decide (i < j) with
        | true =>
          simp only [decide_eq_true_eq] at hij
          have hh2 : w64 ((i : Int) + j) = ((i + j : Nat) : Int) := by rw [w64_id (by omega) (by omega)]; omega
          have hw2 := half_w (show i + j ≤ 4000 by omega)
          obtain ⟨e, he⟩ : ∃ e, (i + j) / 2 = e := ⟨_, rfl⟩
          rw [he] at hw2
          have w2 : w64 (((c + m - 1 : Nat) : Int) - e) = ((c + m - 1 - e : Nat) : Int) := by rw [w64_id (by omega) (by omega)]; omega
          have l1 : c + m - 1 - e < M.length := by omega
          have l2 : e < M.length := by omega
          obtain ⟨x, hx⟩ := getS l1
          obtain ⟨y, hy⟩ := getS l2
          have w1 : w64 ((e : Int) + 1) = ((e + 1 : Nat) : Int) := by rw [w64_id (by omega) (by omega)]; omega
          have hl : lessAt M (c + m - 1 - e) e = decide (cmpD x y < 0) := lessAt_eq hx hy
          simp only [go_sem, Int.cast_ofNat_Int, Int.reduceToNat, Bool.true_xor, Bool.false_xor, Bool.xor_true, Bool.xor_false, Nat.reduceAdd, Nat.reduceBEq, Nat.reduceLeDiff, Nat.reduceLT, Nat.reduceMul, Nat.reduceSub, Int.reduceEq, Int.reduceLT, Int.reduceLE, Int.reduceNeg, hp, hij, hh2, hw2, w2, l1, l2, hx, hy, dlen3, dtake3, h66]
          cases hc2 : decide (cmpD x y < 0) with
          | true =>
            have hst2 : bsN pr (i, j) = (i, e) := by simp only [bsN, hpr, he, hl, hc2, Bool.not_true, cond_false]
            simp only [go_sem, Int.cast_ofNat_Int, Int.reduceToNat, Bool.true_xor, Bool.false_xor, Bool.xor_true, Bool.xor_false, Nat.reduceAdd, Nat.reduceBEq, Nat.reduceLeDiff, Nat.reduceLT, Nat.reduceMul, Nat.reduceSub, Int.reduceEq, Int.reduceLT, Int.reduceLE, Int.reduceNeg, hst, hst2]
            exact ⟨by omega, rfl, by omega, by omega, by omega, by omega⟩
          | false =>
            have hst2 : bsN pr (i, j) = (e + 1, j) := by simp only [bsN, hpr, he, hl, hc2, Bool.not_false, cond_true]
            simp only [go_sem, Int.cast_ofNat_Int, Int.reduceToNat, Bool.true_xor, Bool.false_xor, Bool.xor_true, Bool.xor_false, Nat.reduceAdd, Nat.reduceBEq, Nat.reduceLeDiff, Nat.reduceLT, Nat.reduceMul, Nat.reduceSub, Int.reduceEq, Int.reduceLT, Int.reduceLE, Int.reduceNeg, w1, hst, hst2]
            exact ⟨by omega, rfl, by omega, by omega, by omega, by omega⟩
        | false =>
          have w3 : w64 (((c + m : Nat) : Int) - i) = ((c + m - i : Nat) : Int) := by rw [w64_id (by omega) (by omega)]; omega
          obtain ⟨e, he⟩ : ∃ e, c + m - i = e := ⟨_, rfl⟩
          rw [he] at w3
          obtain ⟨M1, q1, h89⟩ : ∃ M1, Sub M1 M ∧ (i < m → m < e → call1 T (k + 3 + d) (.fn 89) [.slc 0 0 0 M.length, .int .i64 i, .int .i64 m, .int .i64 e, .fn 66 []] (dH M) = some (.tup [], dH M1)) ∧ (¬ (i < m ∧ m < e) → M1 = M) := by
            by_cases g : i < m ∧ m < e
            · obtain ⟨M1, q1, q2⟩ := s89 (k + 1 + d) M i m e g.1 g.2 (by omega) hM
              rw [show k + 1 + d + 2 = k + 3 + d by omega] at q2
              exact ⟨M1, q1, fun _ _ => q2, fun h => absurd g h⟩
            · exact ⟨M, Sub.refl M, fun h h' => absurd ⟨h, h'⟩ g, fun _ => rfl⟩
          obtain ⟨h89, h89n⟩ := h89
          obtain ⟨M2, q2, h86⟩ : ∃ M2, Sub M2 M1 ∧ (a < i → i < c → call1 T (k + 3 + d) (.fn 86) [.slc 0 0 0 M.length, .int .i64 a, .int .i64 i, .int .i64 c, .fn 66 []] (dH M1) = some (.tup [], dH M2)) ∧ (¬ (a < i ∧ i < c) → M2 = M1) := by
            by_cases g : a < i ∧ i < c
            · obtain ⟨M2, q2, q3⟩ := ih M1 a i c g.1 g.2 (by rw [q1.1]; omega) (by rw [q1.1]; exact hM) (by omega)
              rw [q1.1] at q3
              exact ⟨M2, q2, fun _ _ => q3, fun h => absurd g h⟩
            · exact ⟨M1, Sub.refl M1, fun h h' => absurd ⟨h, h'⟩ g, fun _ => rfl⟩
          obtain ⟨h86, h86n⟩ := h86
          obtain ⟨M3, q3, h87⟩ : ∃ M3, Sub M3 M2 ∧ (c < e → e < b → call1 T (k + 3 + d) (.fn 86) [.slc 0 0 0 M.length, .int .i64 c, .int .i64 e, .int .i64 b, .fn 66 []] (dH M2) = some (.tup [], dH M3)) ∧ (¬ (c < e ∧ e < b) → M3 = M2) := by
            by_cases g : c < e ∧ e < b
            · obtain ⟨M3, q3, q4⟩ := ih M2 c e b g.1 g.2 (by rw [q2.1, q1.1]; omega) (by rw [q2.1, q1.1]; exact hM) (by omega)
              rw [q2.1, q1.1] at q4
              exact ⟨M3, q3, fun _ _ => q4, fun h => absurd g h⟩
            · exact ⟨M2, Sub.refl M2, fun h h' => absurd ⟨h, h'⟩ g, fun _ => rfl⟩
          obtain ⟨h87, h87n⟩ := h87
          have fin : SubR M (.tup [], dH M3) := ⟨M3, q3.trans (q2.trans q1), rfl⟩
          simp only [go_sem, Int.cast_ofNat_Int, Int.reduceToNat, Bool.true_xor, Bool.false_xor, Bool.xor_true, Bool.xor_false, Nat.reduceAdd, Nat.reduceBEq, Nat.reduceLeDiff, Nat.reduceLT, Nat.reduceMul, Nat.reduceSub, Int.reduceEq, Int.reduceLT, Int.reduceLE, Int.reduceNeg, hp, hij, w3]
          clear hst hp hq p4
          by_cases g1 : i < m
          · simp only [go_sem, Int.cast_ofNat_Int, Int.reduceToNat, Bool.true_xor, Bool.false_xor, Bool.xor_true, Bool.xor_false, Nat.reduceAdd, Nat.reduceBEq, Nat.reduceLeDiff, Nat.reduceLT, Nat.reduceMul, Nat.reduceSub, Int.reduceEq, Int.reduceLT, Int.reduceLE, Int.reduceNeg, g1]
            by_cases g2 : m < e
            · have h89 := h89 g1 g2
              simp only [go_sem, Int.cast_ofNat_Int, Int.reduceToNat, Bool.true_xor, Bool.false_xor, Bool.xor_true, Bool.xor_false, Nat.reduceAdd, Nat.reduceBEq, Nat.reduceLeDiff, Nat.reduceLT, Nat.reduceMul, Nat.reduceSub, Int.reduceEq, Int.reduceLT, Int.reduceLE, Int.reduceNeg, g2, h89]
              by_cases g3 : a < i
              · simp only [go_sem, Int.cast_ofNat_Int, Int.reduceToNat, Bool.true_xor, Bool.false_xor, Bool.xor_true, Bool.xor_false, Nat.reduceAdd, Nat.reduceBEq, Nat.reduceLeDiff, Nat.reduceLT, Nat.reduceMul, Nat.reduceSub, Int.reduceEq, Int.reduceLT, Int.reduceLE, Int.reduceNeg, g3]
                by_cases g4 : i < c
                · have h86 := h86 g3 g4
                  simp only [go_sem, Int.cast_ofNat_Int, Int.reduceToNat, Bool.true_xor, Bool.false_xor, Bool.xor_true, Bool.xor_false, Nat.reduceAdd, Nat.reduceBEq, Nat.reduceLeDiff, Nat.reduceLT, Nat.reduceMul, Nat.reduceSub, Int.reduceEq, Int.reduceLT, Int.reduceLE, Int.reduceNeg, g4, h86]
                  by_cases g5 : c < e
                  · simp only [go_sem, Int.cast_ofNat_Int, Int.reduceToNat, Bool.true_xor, Bool.false_xor, Bool.xor_true, Bool.xor_false, Nat.reduceAdd, Nat.reduceBEq, Nat.reduceLeDiff, Nat.reduceLT, Nat.reduceMul, Nat.reduceSub, Int.reduceEq, Int.reduceLT, Int.reduceLE, Int.reduceNeg, g5]
                    by_cases g6 : e < b
                    · have h87 := h87 g5 g6
                      simp only [go_sem, Int.cast_ofNat_Int, Int.reduceToNat, Bool.true_xor, Bool.false_xor, Bool.xor_true, Bool.xor_false, Nat.reduceAdd, Nat.reduceBEq, Nat.reduceLeDiff, Nat.reduceLT, Nat.reduceMul, Nat.reduceSub, Int.reduceEq, Int.reduceLT, Int.reduceLE, Int.reduceNeg, g6, h87]
                      exact fin
                    · obtain rfl := h87n (fun h => g6 h.2)
                      simp only [go_sem, Int.cast_ofNat_Int, Int.reduceToNat, Bool.true_xor, Bool.false_xor, Bool.xor_true, Bool.xor_false, Nat.reduceAdd, Nat.reduceBEq, Nat.reduceLeDiff, Nat.reduceLT, Nat.reduceMul, Nat.reduceSub, Int.reduceEq, Int.reduceLT, Int.reduceLE, Int.reduceNeg, g6]
                      exact fin
                  · obtain rfl := h87n (fun h => g5 h.1)
                    simp only [go_sem, Int.cast_ofNat_Int, Int.reduceToNat, Bool.true_xor, Bool.false_xor, Bool.xor_true, Bool.xor_false, Nat.reduceAdd, Nat.reduceBEq, Nat.reduceLeDiff, Nat.reduceLT, Nat.reduceMul, Nat.reduceSub, Int.reduceEq, Int.reduceLT, Int.reduceLE, Int.reduceNeg, g5]
                    exact fin
                · obtain rfl := h86n (fun h => g4 h.2)
                  simp only [go_sem, Int.cast_ofNat_Int, Int.reduceToNat, Bool.true_xor, Bool.false_xor, Bool.xor_true, Bool.xor_false, Nat.reduceAdd, Nat.reduceBEq, Nat.reduceLeDiff, Nat.reduceLT, Nat.reduceMul, Nat.reduceSub, Int.reduceEq, Int.reduceLT, Int.reduceLE, Int.reduceNeg, g4]
                  by_cases g5 : c < e
                  · simp only [go_sem, Int.cast_ofNat_Int, Int.reduceToNat, Bool.true_xor, Bool.false_xor, Bool.xor_true, Bool.xor_false, Nat.reduceAdd, Nat.reduceBEq, Nat.reduceLeDiff, Nat.reduceLT, Nat.reduceMul, Nat.reduceSub, Int.reduceEq, Int.reduceLT, Int.reduceLE, Int.reduceNeg, g5]
                    by_cases g6 : e < b
                    · have h87 := h87 g5 g6
                      simp only [go_sem, Int.cast_ofNat_Int, Int.reduceToNat, Bool.true_xor, Bool.false_xor, Bool.xor_true, Bool.xor_false, Nat.reduceAdd, Nat.reduceBEq, Nat.reduceLeDiff, Nat.reduceLT, Nat.reduceMul, Nat.reduceSub, Int.reduceEq, Int.reduceLT, Int.reduceLE, Int.reduceNeg, g6, h87]
                      exact fin
                    · obtain rfl := h87n (fun h => g6 h.2)
                      simp only [go_sem, Int.cast_ofNat_Int, Int.reduceToNat, Bool.true_xor, Bool.false_xor, Bool.xor_true, Bool.xor_false, Nat.reduceAdd, Nat.reduceBEq, Nat.reduceLeDiff, Nat.reduceLT, Nat.reduceMul, Nat.reduceSub, Int.reduceEq, Int.reduceLT, Int.reduceLE, Int.reduceNeg, g6]
                      exact fin
                  · obtain rfl := h87n (fun h => g5 h.1)
                    simp only [go_sem, Int.cast_ofNat_Int, Int.reduceToNat, Bool.true_xor, Bool.false_xor, Bool.xor_true, Bool.xor_false, Nat.reduceAdd, Nat.reduceBEq, Nat.reduceLeDiff, Nat.reduceLT, Nat.reduceMul, Nat.reduceSub, Int.reduceEq, Int.reduceLT, Int.reduceLE, Int.reduceNeg, g5]
                    exact fin
              · obtain rfl := h86n (fun h => g3 h.1)
                simp only [go_sem, Int.cast_ofNat_Int, Int.reduceToNat, Bool.true_xor, Bool.false_xor, Bool.xor_true, Bool.xor_false, Nat.reduceAdd, Nat.reduceBEq, Nat.reduceLeDiff, Nat.reduceLT, Nat.reduceMul, Nat.reduceSub, Int.reduceEq, Int.reduceLT, Int.reduceLE, Int.reduceNeg, g3]
                by_cases g5 : c < e
                · simp only [go_sem, Int.cast_ofNat_Int, Int.reduceToNat, Bool.true_xor, Bool.false_xor, Bool.xor_true, Bool.xor_false, Nat.reduceAdd, Nat.reduceBEq, Nat.reduceLeDiff, Nat.reduceLT, Nat.reduceMul, Nat.reduceSub, Int.reduceEq, Int.reduceLT, Int.reduceLE, Int.reduceNeg, g5]
                  by_cases g6 : e < b
                  · have h87 := h87 g5 g6
                    simp only [go_sem, Int.cast_ofNat_Int, Int.reduceToNat, Bool.true_xor, Bool.false_xor, Bool.xor_true, Bool.xor_false, Nat.reduceAdd, Nat.reduceBEq, Nat.reduceLeDiff, Nat.reduceLT, Nat.reduceMul, Nat.reduceSub, Int.reduceEq, Int.reduceLT, Int.reduceLE, Int.reduceNeg, g6, h87]
                    exact fin
                  · obtain rfl := h87n (fun h => g6 h.2)
                    simp only [go_sem, Int.cast_ofNat_Int, Int.reduceToNat, Bool.true_xor, Bool.false_xor, Bool.xor_true, Bool.xor_false, Nat.reduceAdd, Nat.reduceBEq, Nat.reduceLeDiff, Nat.reduceLT, Nat.reduceMul, Nat.reduceSub, Int.reduceEq, Int.reduceLT, Int.reduceLE, Int.reduceNeg, g6]
                    exact fin
                · obtain rfl := h87n (fun h => g5 h.1)
                  simp only [go_sem, Int.cast_ofNat_Int, Int.reduceToNat, Bool.true_xor, Bool.false_xor, Bool.xor_true, Bool.xor_false, Nat.reduceAdd, Nat.reduceBEq, Nat.reduceLeDiff, Nat.reduceLT, Nat.reduceMul, Nat.reduceSub, Int.reduceEq, Int.reduceLT, Int.reduceLE, Int.reduceNeg, g5]
                  exact fin
            · obtain rfl := h89n (fun h => g2 h.2)
              simp only [go_sem, Int.cast_ofNat_Int, Int.reduceToNat, Bool.true_xor, Bool.false_xor, Bool.xor_true, Bool.xor_false, Nat.reduceAdd, Nat.reduceBEq, Nat.reduceLeDiff, Nat.reduceLT, Nat.reduceMul, Nat.reduceSub, Int.reduceEq, Int.reduceLT, Int.reduceLE, Int.reduceNeg, g2]
              by_cases g3 : a < i
              · simp only [go_sem, Int.cast_ofNat_Int, Int.reduceToNat, Bool.true_xor, Bool.false_xor, Bool.xor_true, Bool.xor_false, Nat.reduceAdd, Nat.reduceBEq, Nat.reduceLeDiff, Nat.reduceLT, Nat.reduceMul, Nat.reduceSub, Int.reduceEq, Int.reduceLT, Int.reduceLE, Int.reduceNeg, g3]
                by_cases g4 : i < c
                · have h86 := h86 g3 g4
                  simp only [go_sem, Int.cast_ofNat_Int, Int.reduceToNat, Bool.true_xor, Bool.false_xor, Bool.xor_true, Bool.xor_false, Nat.reduceAdd, Nat.reduceBEq, Nat.reduceLeDiff, Nat.reduceLT, Nat.reduceMul, Nat.reduceSub, Int.reduceEq, Int.reduceLT, Int.reduceLE, Int.reduceNeg, g4, h86]
                  by_cases g5 : c < e
                  · simp only [go_sem, Int.cast_ofNat_Int, Int.reduceToNat, Bool.true_xor, Bool.false_xor, Bool.xor_true, Bool.xor_false, Nat.reduceAdd, Nat.reduceBEq, Nat.reduceLeDiff, Nat.reduceLT, Nat.reduceMul, Nat.reduceSub, Int.reduceEq, Int.reduceLT, Int.reduceLE, Int.reduceNeg, g5]
                    by_cases g6 : e < b
                    · have h87 := h87 g5 g6
                      simp only [go_sem, Int.cast_ofNat_Int, Int.reduceToNat, Bool.true_xor, Bool.false_xor, Bool.xor_true, Bool.xor_false, Nat.reduceAdd, Nat.reduceBEq, Nat.reduceLeDiff, Nat.reduceLT, Nat.reduceMul, Nat.reduceSub, Int.reduceEq, Int.reduceLT, Int.reduceLE, Int.reduceNeg, g6, h87]
                      exact fin
                    · obtain rfl := h87n (fun h => g6 h.2)
                      simp only [go_sem, Int.cast_ofNat_Int, Int.reduceToNat, Bool.true_xor, Bool.false_xor, Bool.xor_true, Bool.xor_false, Nat.reduceAdd, Nat.reduceBEq, Nat.reduceLeDiff, Nat.reduceLT, Nat.reduceMul, Nat.reduceSub, Int.reduceEq, Int.reduceLT, Int.reduceLE, Int.reduceNeg, g6]
                      exact fin
                  · obtain rfl := h87n (fun h => g5 h.1)
                    simp only [go_sem, Int.cast_ofNat_Int, Int.reduceToNat, Bool.true_xor, Bool.false_xor, Bool.xor_true, Bool.xor_false, Nat.reduceAdd, Nat.reduceBEq, Nat.reduceLeDiff, Nat.reduceLT, Nat.reduceMul, Nat.reduceSub, Int.reduceEq, Int.reduceLT, Int.reduceLE, Int.reduceNeg, g5]
                    exact fin
                · obtain rfl := h86n (fun h => g4 h.2)
                  simp only [go_sem, Int.cast_ofNat_Int, Int.reduceToNat, Bool.true_xor, Bool.false_xor, Bool.xor_true, Bool.xor_false, Nat.reduceAdd, Nat.reduceBEq, Nat.reduceLeDiff, Nat.reduceLT, Nat.reduceMul, Nat.reduceSub, Int.reduceEq, Int.reduceLT, Int.reduceLE, Int.reduceNeg, g4]
                  by_cases g5 : c < e
                  · simp only [go_sem, Int.cast_ofNat_Int, Int.reduceToNat, Bool.true_xor, Bool.false_xor, Bool.xor_true, Bool.xor_false, Nat.reduceAdd, Nat.reduceBEq, Nat.reduceLeDiff, Nat.reduceLT, Nat.reduceMul, Nat.reduceSub, Int.reduceEq, Int.reduceLT, Int.reduceLE, Int.reduceNeg, g5]
                    by_cases g6 : e < b
                    · have h87 := h87 g5 g6
                      simp only [go_sem, Int.cast_ofNat_Int, Int.reduceToNat, Bool.true_xor, Bool.false_xor, Bool.xor_true, Bool.xor_false, Nat.reduceAdd, Nat.reduceBEq, Nat.reduceLeDiff, Nat.reduceLT, Nat.reduceMul, Nat.reduceSub, Int.reduceEq, Int.reduceLT, Int.reduceLE, Int.reduceNeg, g6, h87]
                      exact fin
                    · obtain rfl := h87n (fun h => g6 h.2)
                      simp only [go_sem, Int.cast_ofNat_Int, Int.reduceToNat, Bool.true_xor, Bool.false_xor, Bool.xor_true, Bool.xor_false, Nat.reduceAdd, Nat.reduceBEq, Nat.reduceLeDiff, Nat.reduceLT, Nat.reduceMul, Nat.reduceSub, Int.reduceEq, Int.reduceLT, Int.reduceLE, Int.reduceNeg, g6]
                      exact fin
                  · obtain rfl := h87n (fun h => g5 h.1)
                    simp only [go_sem, Int.cast_ofNat_Int, Int.reduceToNat, Bool.true_xor, Bool.false_xor, Bool.xor_true, Bool.xor_false, Nat.reduceAdd, Nat.reduceBEq, Nat.reduceLeDiff, Nat.reduceLT, Nat.reduceMul, Nat.reduceSub, Int.reduceEq, Int.reduceLT, Int.reduceLE, Int.reduceNeg, g5]
                    exact fin
              · obtain rfl := h86n (fun h => g3 h.1)
                simp only [go_sem, Int.cast_ofNat_Int, Int.reduceToNat, Bool.true_xor, Bool.false_xor, Bool.xor_true, Bool.xor_false, Nat.reduceAdd, Nat.reduceBEq, Nat.reduceLeDiff, Nat.reduceLT, Nat.reduceMul, Nat.reduceSub, Int.reduceEq, Int.reduceLT, Int.reduceLE, Int.reduceNeg, g3]
                by_cases g5 : c < e
                · simp only [go_sem, Int.cast_ofNat_Int, Int.reduceToNat, Bool.true_xor, Bool.false_xor, Bool.xor_true, Bool.xor_false, Nat.reduceAdd, Nat.reduceBEq, Nat.reduceLeDiff, Nat.reduceLT, Nat.reduceMul, Nat.reduceSub, Int.reduceEq, Int.reduceLT, Int.reduceLE, Int.reduceNeg, g5]
                  by_cases g6 : e < b
                  · have h87 := h87 g5 g6
                    simp only [go_sem, Int.cast_ofNat_Int, Int.reduceToNat, Bool.true_xor, Bool.false_xor, Bool.xor_true, Bool.xor_false, Nat.reduceAdd, Nat.reduceBEq, Nat.reduceLeDiff, Nat.reduceLT, Nat.reduceMul, Nat.reduceSub, Int.reduceEq, Int.reduceLT, Int.reduceLE, Int.reduceNeg, g6, h87]
                    exact fin
                  · obtain rfl := h87n (fun h => g6 h.2)
                    simp only [go_sem, Int.cast_ofNat_Int, Int.reduceToNat, Bool.true_xor, Bool.false_xor, Bool.xor_true, Bool.xor_false, Nat.reduceAdd, Nat.reduceBEq, Nat.reduceLeDiff, Nat.reduceLT, Nat.reduceMul, Nat.reduceSub, Int.reduceEq, Int.reduceLT, Int.reduceLE, Int.reduceNeg, g6]
                    exact fin
                · obtain rfl := h87n (fun h => g5 h.1)
                  simp only [go_sem, Int.cast_ofNat_Int, Int.reduceToNat, Bool.true_xor, Bool.false_xor, Bool.xor_true, Bool.xor_false, Nat.reduceAdd, Nat.reduceBEq, Nat.reduceLeDiff, Nat.reduceLT, Nat.reduceMul, Nat.reduceSub, Int.reduceEq, Int.reduceLT, Int.reduceLE, Int.reduceNeg, g5]
                  exact fin
          · obtain rfl := h89n (fun h => g1 h.1)
            simp only [go_sem, Int.cast_ofNat_Int, Int.reduceToNat, Bool.true_xor, Bool.false_xor, Bool.xor_true, Bool.xor_false, Nat.reduceAdd, Nat.reduceBEq, Nat.reduceLeDiff, Nat.reduceLT, Nat.reduceMul, Nat.reduceSub, Int.reduceEq, Int.reduceLT, Int.reduceLE, Int.reduceNeg, g1]
            by_cases g3 : a < i
            · simp only [go_sem, Int.cast_ofNat_Int, Int.reduceToNat, Bool.true_xor, Bool.false_xor, Bool.xor_true, Bool.xor_false, Nat.reduceAdd, Nat.reduceBEq, Nat.reduceLeDiff, Nat.reduceLT, Nat.reduceMul, Nat.reduceSub, Int.reduceEq, Int.reduceLT, Int.reduceLE, Int.reduceNeg, g3]
              by_cases g4 : i < c
              · have h86 := h86 g3 g4
                simp only [go_sem, Int.cast_ofNat_Int, Int.reduceToNat, Bool.true_xor, Bool.false_xor, Bool.xor_true, Bool.xor_false, Nat.reduceAdd, Nat.reduceBEq, Nat.reduceLeDiff, Nat.reduceLT, Nat.reduceMul, Nat.reduceSub, Int.reduceEq, Int.reduceLT, Int.reduceLE, Int.reduceNeg, g4, h86]
                by_cases g5 : c < e
                · simp only [go_sem, Int.cast_ofNat_Int, Int.reduceToNat, Bool.true_xor, Bool.false_xor, Bool.xor_true, Bool.xor_false, Nat.reduceAdd, Nat.reduceBEq, Nat.reduceLeDiff, Nat.reduceLT, Nat.reduceMul, Nat.reduceSub, Int.reduceEq, Int.reduceLT, Int.reduceLE, Int.reduceNeg, g5]
                  by_cases g6 : e < b
                  · have h87 := h87 g5 g6
                    simp only [go_sem, Int.cast_ofNat_Int, Int.reduceToNat, Bool.true_xor, Bool.false_xor, Bool.xor_true, Bool.xor_false, Nat.reduceAdd, Nat.reduceBEq, Nat.reduceLeDiff, Nat.reduceLT, Nat.reduceMul, Nat.reduceSub, Int.reduceEq, Int.reduceLT, Int.reduceLE, Int.reduceNeg, g6, h87]
                    exact fin
                  · obtain rfl := h87n (fun h => g6 h.2)
                    simp only [go_sem, Int.cast_ofNat_Int, Int.reduceToNat, Bool.true_xor, Bool.false_xor, Bool.xor_true, Bool.xor_false, Nat.reduceAdd, Nat.reduceBEq, Nat.reduceLeDiff, Nat.reduceLT, Nat.reduceMul, Nat.reduceSub, Int.reduceEq, Int.reduceLT, Int.reduceLE, Int.reduceNeg, g6]
                    exact fin
                · obtain rfl := h87n (fun h => g5 h.1)
                  simp only [go_sem, Int.cast_ofNat_Int, Int.reduceToNat, Bool.true_xor, Bool.false_xor, Bool.xor_true, Bool.xor_false, Nat.reduceAdd, Nat.reduceBEq, Nat.reduceLeDiff, Nat.reduceLT, Nat.reduceMul, Nat.reduceSub, Int.reduceEq, Int.reduceLT, Int.reduceLE, Int.reduceNeg, g5]
                  exact fin
              · obtain rfl := h86n (fun h => g4 h.2)
                simp only [go_sem, Int.cast_ofNat_Int, Int.reduceToNat, Bool.true_xor, Bool.false_xor, Bool.xor_true, Bool.xor_false, Nat.reduceAdd, Nat.reduceBEq, Nat.reduceLeDiff, Nat.reduceLT, Nat.reduceMul, Nat.reduceSub, Int.reduceEq, Int.reduceLT, Int.reduceLE, Int.reduceNeg, g4]
                by_cases g5 : c < e
                · simp only [go_sem, Int.cast_ofNat_Int, Int.reduceToNat, Bool.true_xor, Bool.false_xor, Bool.xor_true, Bool.xor_false, Nat.reduceAdd, Nat.reduceBEq, Nat.reduceLeDiff, Nat.reduceLT, Nat.reduceMul, Nat.reduceSub, Int.reduceEq, Int.reduceLT, Int.reduceLE, Int.reduceNeg, g5]
                  by_cases g6 : e < b
                  · have h87 := h87 g5 g6
                    simp only [go_sem, Int.cast_ofNat_Int, Int.reduceToNat, Bool.true_xor, Bool.false_xor, Bool.xor_true, Bool.xor_false, Nat.reduceAdd, Nat.reduceBEq, Nat.reduceLeDiff, Nat.reduceLT, Nat.reduceMul, Nat.reduceSub, Int.reduceEq, Int.reduceLT, Int.reduceLE, Int.reduceNeg, g6, h87]
                    exact fin
                  · obtain rfl := h87n (fun h => g6 h.2)
                    simp only [go_sem, Int.cast_ofNat_Int, Int.reduceToNat, Bool.true_xor, Bool.false_xor, Bool.xor_true, Bool.xor_false, Nat.reduceAdd, Nat.reduceBEq, Nat.reduceLeDiff, Nat.reduceLT, Nat.reduceMul, Nat.reduceSub, Int.reduceEq, Int.reduceLT, Int.reduceLE, Int.reduceNeg, g6]
                    exact fin
                · obtain rfl := h87n (fun h => g5 h.1)
                  simp only [go_sem, Int.cast_ofNat_Int, Int.reduceToNat, Bool.true_xor, Bool.false_xor, Bool.xor_true, Bool.xor_false, Nat.reduceAdd, Nat.reduceBEq, Nat.reduceLeDiff, Nat.reduceLT, Nat.reduceMul, Nat.reduceSub, Int.reduceEq, Int.reduceLT, Int.reduceLE, Int.reduceNeg, g5]
                  exact fin
            · obtain rfl := h86n (fun h => g3 h.1)
              simp only [go_sem, Int.cast_ofNat_Int, Int.reduceToNat, Bool.true_xor, Bool.false_xor, Bool.xor_true, Bool.xor_false, Nat.reduceAdd, Nat.reduceBEq, Nat.reduceLeDiff, Nat.reduceLT, Nat.reduceMul, Nat.reduceSub, Int.reduceEq, Int.reduceLT, Int.reduceLE, Int.reduceNeg, g3]
              by_cases g5 : c < e
              · simp only [go_sem, Int.cast_ofNat_Int, Int.reduceToNat, Bool.true_xor, Bool.false_xor, Bool.xor_true, Bool.xor_false, Nat.reduceAdd, Nat.reduceBEq, Nat.reduceLeDiff, Nat.reduceLT, Nat.reduceMul, Nat.reduceSub, Int.reduceEq, Int.reduceLT, Int.reduceLE, Int.reduceNeg, g5]
                by_cases g6 : e < b
                · have h87 := h87 g5 g6
                  simp only [go_sem, Int.cast_ofNat_Int, Int.reduceToNat, Bool.true_xor, Bool.false_xor, Bool.xor_true, Bool.xor_false, Nat.reduceAdd, Nat.reduceBEq, Nat.reduceLeDiff, Nat.reduceLT, Nat.reduceMul, Nat.reduceSub, Int.reduceEq, Int.reduceLT, Int.reduceLE, Int.reduceNeg, g6, h87]
                  exact fin
                · obtain rfl := h87n (fun h => g6 h.2)
                  simp only [go_sem, Int.cast_ofNat_Int, Int.reduceToNat, Bool.true_xor, Bool.false_xor, Bool.xor_true, Bool.xor_false, Nat.reduceAdd, Nat.reduceBEq, Nat.reduceLeDiff, Nat.reduceLT, Nat.reduceMul, Nat.reduceSub, Int.reduceEq, Int.reduceLT, Int.reduceLE, Int.reduceNeg, g6]
                  exact fin
              · obtain rfl := h87n (fun h => g5 h.1)
                simp only [go_sem, Int.cast_ofNat_Int, Int.reduceToNat, Bool.true_xor, Bool.false_xor, Bool.xor_true, Bool.xor_false, Nat.reduceAdd, Nat.reduceBEq, Nat.reduceLeDiff, Nat.reduceLT, Nat.reduceMul, Nat.reduceSub, Int.reduceEq, Int.reduceLT, Int.reduceLE, Int.reduceNeg, g5]
                exact fin
end Go.Sh
namespace Go.Sh
set_option linter.unusedSectionVars false
set_option linter.unnecessarySimpa false
set_option linter.unusedVariables false
set_option linter.unusedSimpArgs false
set_option maxRecDepth 100000
set_option maxHeartbeats 4000000
/-- Merging in place, however long the range. -/
theorem s86 : ∀ (d k : Nat) (M : List Dl) (a m b : Nat), a < m → m < b → b ≤ M.length → M.length ≤ 1000 → b - a ≤ d →
    ∃ M', Sub M' M ∧ call1 T (k + 3 + d) (.fn 86) [.slc 0 0 0 M.length, .int .i64 a, .int .i64 m, .int .i64 b, .fn 66 []] (dH M) = some (.tup [], dH M')
  | 0, k, M, a, m, b, h1, h2, hb, hM, hd => by omega
  | d + 1, k, M, a, m, b, h1, h2, hb, hM, hd => by
    suffices h : ∃ r, call1 T (k + 3 + (d + 1)) (.fn 86) [.slc 0 0 0 M.length, .int .i64 a, .int .i64 m, .int .i64 b, .fn 66 []] (dH M) = some r ∧ SubR M r by
      obtain ⟨r, h3, M', h4, rfl⟩ := h
      exact ⟨M', h4, h3⟩
    by_cases c1 : m = a + 1
    · subst c1
      rw [show k + 3 + (d + 1) = (k + 1 + (d + 1)) + 2 by omega]
      exact s86a (k + 1 + (d + 1)) M a b h2 hb hM
    by_cases c2 : b = m + 1
    · subst c2
      rw [show k + 3 + (d + 1) = (k + 1 + (d + 1)) + 2 by omega]
      exact s86b (k + 1 + (d + 1)) M a m (by omega) hb hM
    by_cases hcm : (a + b) / 2 < m
    · exact s86c d k (fun M a m b => s86 d k M a m b) M a m b _ h1 h2 hb hM hd c1 c2 rfl hcm
    · exact s86d d k (fun M a m b => s86 d k M a m b) M a m b _ h1 h2 hb hM hd c1 c2 rfl hcm
end Go.Sh
namespace Go.Sh
set_option linter.unusedSectionVars false
set_option linter.unnecessarySimpa false
set_option linter.unusedVariables false
set_option linter.unusedSimpArgs false
set_option maxRecDepth 100000
set_option maxHeartbeats 4000000
open Classical in
noncomputable def smF (M : List Dl) (a m b : Nat) : List Dl := if h : a < m ∧ m < b ∧ b ≤ M.length ∧ M.length ≤ 100 then Classical.choose (s86 100 0 M a m b h.1 h.2.1 h.2.2.1 (by omega) (by omega)) else M
theorem smF_sub (M : List Dl) (a m b : Nat) : Sub (smF M a m b) M := by
  unfold smF
  split
  · rename_i h
    exact (Classical.choose_spec (s86 100 0 M a m b h.1 h.2.1 h.2.2.1 (by omega) (by omega))).1
  · exact Sub.refl M
theorem smF_call {M : List Dl} {a m b : Nat} (h1 : a < m) (h2 : m < b) (h3 : b ≤ M.length) (h4 : M.length ≤ 100) : call1 T 103 (.fn 86) [.slc 0 0 0 M.length, .int .i64 a, .int .i64 m, .int .i64 b, .fn 66 []] (dH M) = some (.tup [], dH (smF M a m b)) := by
  have h : a < m ∧ m < b ∧ b ≤ M.length ∧ M.length ≤ 100 := ⟨h1, h2, h3, h4⟩
  unfold smF
  rw [dif_pos h]
  exact (Classical.choose_spec (s86 100 0 M a m b h.1 h.2.1 h.2.2.1 (by omega) (by omega))).2
def blQ (M : List Dl) : Nat → List Dl
  | 0 => M
  | q + 1 => insS (blQ M q) (20 * q) 19
theorem blQ_sub (M : List Dl) : ∀ q, Sub (blQ M q) M
  | 0 => Sub.refl M
  | q + 1 => (insS_sub _ _ _).trans (blQ_sub M q)
noncomputable def inQ (M : List Dl) (B : Nat) : Nat → List Dl
  | 0 => M
  | r + 1 => smF (inQ M B r) (2 * B * r) (2 * B * r + B) (2 * B * r + 2 * B)
theorem inQ_sub (M : List Dl) (B : Nat) : ∀ r, Sub (inQ M B r) M
  | 0 => Sub.refl M
  | r + 1 => (smF_sub _ _ _ _).trans (inQ_sub M B r)
noncomputable def oN (M : List Dl) (B n : Nat) : List Dl :=
  let X := inQ M B (n / (2 * B))
  bif decide (2 * B * (n / (2 * B)) + B < n) then smF X (2 * B * (n / (2 * B))) (2 * B * (n / (2 * B)) + B) n else X
theorem oN_sub (M : List Dl) (B n : Nat) : Sub (oN M B n) M := by
  unfold oN
  cases decide (2 * B * (n / (2 * B)) + B < n)
  · exact inQ_sub M B _
  · exact (smF_sub _ _ _ _).trans (inQ_sub M B _)
noncomputable def oQ (M : List Dl) (n : Nat) : Nat → List Dl
  | 0 => M
  | q + 1 => oN (oQ M n q) (20 * 2 ^ q) n
theorem oQ_sub (M : List Dl) (n : Nat) : ∀ q, Sub (oQ M n q) M
  | 0 => Sub.refl M
  | q + 1 => (oN_sub _ _ _).trans (oQ_sub M n q)
theorem s78 (M : List Dl) (hM : M.length ≤ 100) : ∃ r, call1 T 104 (.fn 78) [.slc 0 0 0 M.length, .int .i64 M.length, .fn 66 []] (dH M) = some r ∧ SubR M r := by
  refine call_inP e78 (by rfl) ?_
  simp only [c78, go_sem, Int.cast_ofNat_Int, Int.reduceToNat, Bool.true_xor, Bool.false_xor, Bool.xor_true, Bool.xor_false, Nat.reduceAdd, Nat.reduceBEq, Nat.reduceLeDiff, Nat.reduceLT, Nat.reduceMul, Nat.reduceSub, Int.reduceEq, Int.reduceLT, Int.reduceLE, Int.reduceNeg]
  refine loop_post (fun q => ([(0, .slc 0 0 0 M.length), (1, .int .i64 M.length), (2, .fn 66 []), (6, .int .i64 20), (7, .int .i64 (20 * q : Nat)), (8, .int .i64 (20 * q + 20 : Nat))], dH (blQ M q))) (fun q => 20 * q ≤ M.length) 6 ?_ (by omega) ?_
  · simp only [go_sem, Int.cast_ofNat_Int, Int.reduceToNat, Bool.true_xor, Bool.false_xor, Bool.xor_true, Bool.xor_false, Nat.reduceAdd, Nat.reduceBEq, Nat.reduceLeDiff, Nat.reduceLT, Nat.reduceMul, Nat.reduceSub, Int.reduceEq, Int.reduceLT, Int.reduceLE, Int.reduceNeg] <;> rfl
  · intro q hq hP
    have hlen := (blQ_sub M q).1
    have hsub := blQ_sub M q
    have hst : blQ M (q + 1) = insS (blQ M q) (20 * q) 19 := rfl
    generalize hX : blQ M q = X at *
    cases hc : decide (((20 * q + 20 : Nat) : Int) ≤ (M.length : Int)) with
    | true =>
      have hc' : 20 * q + 20 ≤ M.length := by simp only [decide_eq_true_eq] at hc; omega
      have h85 := s85 101 X (20 * q) (20 * q + 20) (by omega) (by omega) (by omega)
      rw [hlen, show 20 * q + 20 - (20 * q + 1) = 19 by omega] at h85
      have w1 : w64 (((20 * q + 20 : Nat) : Int) + 20) = ((20 * (q + 1) + 20 : Nat) : Int) := by rw [w64_id (by omega) (by omega)]; omega
      have e1 : 20 * (q + 1) = 20 * q + 20 := by omega
      simp only [go_sem, Int.cast_ofNat_Int, Int.reduceToNat, Bool.true_xor, Bool.false_xor, Bool.xor_true, Bool.xor_false, Nat.reduceAdd, Nat.reduceBEq, Nat.reduceLeDiff, Nat.reduceLT, Nat.reduceMul, Nat.reduceSub, Int.reduceEq, Int.reduceLT, Int.reduceLE, Int.reduceNeg, hX, hc, h85, w1, hst, e1]
      exact ⟨by omega, rfl, by omega⟩
    | false =>
      have h85 := s85 101 X (20 * q) M.length hP (by omega) (by omega)
      rw [hlen] at h85
      have hsub2 := (insS_sub X (20 * q) (M.length - (20 * q + 1))).trans hsub
      generalize hY : insS X (20 * q) (M.length - (20 * q + 1)) = Y at *
      simp only [go_sem, Int.cast_ofNat_Int, Int.reduceToNat, Bool.true_xor, Bool.false_xor, Bool.xor_true, Bool.xor_false, Nat.reduceAdd, Nat.reduceBEq, Nat.reduceLeDiff, Nat.reduceLT, Nat.reduceMul, Nat.reduceSub, Int.reduceEq, Int.reduceLT, Int.reduceLE, Int.reduceNeg, hX, hc, h85]
      clear h85 hc hst hX hY hlen hsub hP hq
      have hYl := hsub2.1
      refine loop_post (fun q => ([(0, .slc 0 0 0 M.length), (1, .int .i64 M.length), (2, .fn 66 []), (6, .int .i64 (20 * 2 ^ q : Nat))], dH (oQ Y M.length q))) (fun _ => True) 5 ?_ trivial ?_
      · simp only [go_sem, Int.cast_ofNat_Int, Int.reduceToNat, Bool.true_xor, Bool.false_xor, Bool.xor_true, Bool.xor_false, Nat.reduceAdd, Nat.reduceBEq, Nat.reduceLeDiff, Nat.reduceLT, Nat.reduceMul, Nat.reduceSub, Int.reduceEq, Int.reduceLT, Int.reduceLE, Int.reduceNeg] <;> rfl
      · intro q hq _
        have hst : oQ Y M.length (q + 1) = oN (oQ Y M.length q) (20 * 2 ^ q) M.length := rfl
        have hZ := (oQ_sub Y M.length q)
        generalize hX : oQ Y M.length q = X at *
        have hpw : 20 * 2 ^ q ≤ 640 := by
          have : 2 ^ q ≤ 2 ^ 5 := Nat.pow_le_pow_right (by omega) hq
          omega
        have hps : 20 * 2 ^ (q + 1) = 20 * 2 ^ q * 2 := by rw [Nat.pow_succ]; omega
        have hq5 : 20 * 2 ^ q < M.length → q < 5 := fun h => by
          rcases Nat.lt_or_ge q 5 with h5 | h5
          · exact h5
          · have : 2 ^ 5 ≤ 2 ^ q := Nat.pow_le_pow_right (by omega) h5
            omega
        have hpos : 0 < 2 ^ q := Nat.pow_pos (by omega)
        generalize hB : 20 * 2 ^ q = B at *
        have hB0 : 0 < B := by omega
        have hXl : X.length = M.length := hZ.1.trans hYl
        cases hc : decide ((B : Int) < (M.length : Int)) with
        | false =>
          simp only [go_sem, Int.cast_ofNat_Int, Int.reduceToNat, Bool.true_xor, Bool.false_xor, Bool.xor_true, Bool.xor_false, Nat.reduceAdd, Nat.reduceBEq, Nat.reduceLeDiff, Nat.reduceLT, Nat.reduceMul, Nat.reduceSub, Int.reduceEq, Int.reduceLT, Int.reduceLE, Int.reduceNeg, hX, hB, hc]
          exact ⟨X, hZ.trans hsub2, rfl⟩
        | true =>
          have hc' : B < M.length := by simp only [decide_eq_true_eq] at hc; omega
          have w1 : w64 (2 * (B : Int)) = ((2 * B * 0 + 2 * B : Nat) : Int) := by rw [w64_id (by omega) (by omega)]; omega
          simp only [go_sem, Int.cast_ofNat_Int, Int.reduceToNat, Bool.true_xor, Bool.false_xor, Bool.xor_true, Bool.xor_false, Nat.reduceAdd, Nat.reduceBEq, Nat.reduceLeDiff, Nat.reduceLT, Nat.reduceMul, Nat.reduceSub, Int.reduceEq, Int.reduceLT, Int.reduceLE, Int.reduceNeg, hX, hB, hc, w1]
          refine loop_post (fun r => ([(0, .slc 0 0 0 M.length), (1, .int .i64 M.length), (2, .fn 66 []), (6, .int .i64 B), (7, .int .i64 (2 * B * r : Nat)), (8, .int .i64 (2 * B * r + 2 * B : Nat))], dH (inQ X B r))) (fun r => 2 * B * r ≤ M.length) (M.length / (2 * B)) ?_ (by omega) ?_
          · simp only [go_sem, Int.cast_ofNat_Int, Int.reduceToNat, Bool.true_xor, Bool.false_xor, Bool.xor_true, Bool.xor_false, Nat.reduceAdd, Nat.reduceBEq, Nat.reduceLeDiff, Nat.reduceLT, Nat.reduceMul, Nat.reduceSub, Int.reduceEq, Int.reduceLT, Int.reduceLE, Int.reduceNeg] <;> rfl
          · intro r hr hPr
            have hst2 : inQ X B (r + 1) = smF (inQ X B r) (2 * B * r) (2 * B * r + B) (2 * B * r + 2 * B) := rfl
            have hI := (inQ_sub X B r)
            have hlt : r < M.length / (2 * B) ↔ 2 * B * r + 2 * B ≤ M.length := by
              rw [Nat.lt_iff_add_one_le, Nat.le_div_iff_mul_le (by omega), Nat.mul_comm, Nat.mul_add, Nat.mul_one]
            have hN : oN X B M.length = let Z := inQ X B (M.length / (2 * B)); bif decide (2 * B * (M.length / (2 * B)) + B < M.length) then smF Z (2 * B * (M.length / (2 * B))) (2 * B * (M.length / (2 * B)) + B) M.length else Z := rfl
            generalize hV : inQ X B r = V at *
            have hVl : V.length = M.length := hI.1.trans hXl
            obtain ⟨A, hA⟩ : ∃ A, 2 * B * r = A := ⟨_, rfl⟩
            have hA2 : 2 * B * (r + 1) = A + 2 * B := by rw [Nat.mul_add, hA, Nat.mul_one]
            rw [hA] at hPr hlt hst2
            cases hc2 : decide (((A + 2 * B : Nat) : Int) ≤ (M.length : Int)) with
            | true =>
              have hc3 : A + 2 * B ≤ M.length := by simp only [decide_eq_true_eq] at hc2; omega
              have hsm := smF_call (M := V) (a := A) (m := A + B) (b := A + 2 * B) (by omega) (by omega) (by omega) (by omega)
              rw [hVl] at hsm
              have w2 : w64 ((A : Int) + B) = ((A + B : Nat) : Int) := by rw [w64_id (by omega) (by omega)]; omega
              have w3 : w64 (2 * (B : Int)) = ((2 * B : Nat) : Int) := by rw [w64_id (by omega) (by omega)]; omega
              have w4 : w64 (((A + 2 * B : Nat) : Int) + ((2 * B : Nat) : Int)) = ((A + 2 * B + 2 * B : Nat) : Int) := by rw [w64_id (by omega) (by omega)]; omega
              simp only [go_sem, Int.cast_ofNat_Int, Int.reduceToNat, Bool.true_xor, Bool.false_xor, Bool.xor_true, Bool.xor_false, Nat.reduceAdd, Nat.reduceBEq, Nat.reduceLeDiff, Nat.reduceLT, Nat.reduceMul, Nat.reduceSub, Int.reduceEq, Int.reduceLT, Int.reduceLE, Int.reduceNeg, hV, hA, hA2, hc2, hsm, w2, w3, w4, hst2]
              exact ⟨hlt.2 hc3, rfl, hc3⟩
            | false =>
              have hc3 : ¬ A + 2 * B ≤ M.length := by simp only [decide_eq_false_iff_not] at hc2; omega
              obtain rfl : r = M.length / (2 * B) := by
                have := fun h => hc3 (hlt.1 h)
                omega
              have w2 : w64 ((A : Int) + B) = ((A + B : Nat) : Int) := by rw [w64_id (by omega) (by omega)]; omega
              have w5 : w64 ((B : Int) * 2) = ((B * 2 : Nat) : Int) := by rw [w64_id (by omega) (by omega)]; omega
              rw [hA, hV] at hN
              simp only at hN
              cases hc4 : decide (A + B < M.length) with
              | true =>
                have hc5 : A + B < M.length := by simpa using hc4
                have hsm := smF_call (M := V) (a := A) (m := A + B) (b := M.length) (by omega) (by omega) (by omega) (by omega)
                rw [hVl] at hsm
                rw [hc4, cond_true] at hN
                have hc6 : decide (((A + B : Nat) : Int) < (M.length : Int)) = true := decide_eq_true (by omega)
                simp only [go_sem, Int.cast_ofNat_Int, Int.reduceToNat, Bool.true_xor, Bool.false_xor, Bool.xor_true, Bool.xor_false, Nat.reduceAdd, Nat.reduceBEq, Nat.reduceLeDiff, Nat.reduceLT, Nat.reduceMul, Nat.reduceSub, Int.reduceEq, Int.reduceLT, Int.reduceLE, Int.reduceNeg, hV, hA, hc2, hc4, hc5, hc6, hsm, w2, w5, hst, hN, hps]
                exact ⟨hq5 hc', rfl, trivial⟩
              | false =>
                have hc5 : ¬ A + B < M.length := by simpa using hc4
                rw [hc4, cond_false] at hN
                have hc6 : decide (((A + B : Nat) : Int) < (M.length : Int)) = false := decide_eq_false (by omega)
                simp only [go_sem, Int.cast_ofNat_Int, Int.reduceToNat, Bool.true_xor, Bool.false_xor, Bool.xor_true, Bool.xor_false, Nat.reduceAdd, Nat.reduceBEq, Nat.reduceLeDiff, Nat.reduceLT, Nat.reduceMul, Nat.reduceSub, Int.reduceEq, Int.reduceLT, Int.reduceLE, Int.reduceNeg, hV, hA, hc2, hc4, hc5, hc6, w2, w5, hst, hN, hps]
                exact ⟨hq5 hc', rfl, trivial⟩
end Go.Sh
namespace Go.Sh
set_option linter.unusedSectionVars false
set_option linter.unnecessarySimpa false
set_option linter.unusedVariables false
set_option linter.unusedSimpArgs false
set_option maxRecDepth 100000
set_option maxHeartbeats 4000000
theorem x64 : T 64 = some (stdClone 3 3 [.int .u8 0, .int .u8 0, .int .u8 0]) := e64
theorem s65 (M : List Dl) (hM : M.length ≤ 100) : ∃ r, call1 T 105 (.fn 65) [.slc 0 0 0 M.length, .fn 66 []] (dH M) = some r ∧ SubR M r := by
  refine call_inP e65 (by rfl) ?_
  obtain ⟨r, h78, M', h2, rfl⟩ := s78 M hM
  simp only [c65, go_sem, Int.cast_ofNat_Int, Int.reduceToNat, Bool.true_xor, Bool.false_xor, Bool.xor_true, Bool.xor_false, Nat.reduceAdd, Nat.reduceBEq, Nat.reduceLeDiff, Nat.reduceLT, Nat.reduceMul, Nat.reduceSub, Int.reduceEq, Int.reduceLT, Int.reduceLE, Int.reduceNeg, h78]
  exact ⟨M', h2, rfl⟩
theorem dS_still (M : List Dl) : Still (dS M) := fun cs hcs c hc => by
  simp only [dS, List.mem_map] at hcs
  obtain ⟨r, _, rfl⟩ := hcs
  simp only [dlR, List.mem_cons, List.mem_nil_iff, or_false] at hc
  rcases hc with rfl | rfl | rfl <;> exact ⟨rfl, fun _ _ _ => rfl⟩
/-- What is sorted are the same deliveries, or fewer of them. -/
theorem s40 (M : List Dl) (f : Bool) (hM : M.length ≤ 100) (H : Heap) : ∃ M', Sub M' M ∧ call1 T 106 (.fn 40) [.lst 3 (dS M) f] H = some (.lst 3 (dS M') false, H) := by
  obtain ⟨r, h65, M', h2, rfl⟩ := s65 M hM
  refine ⟨M', h2, ?_⟩
  refine call_pure e40 (by rfl) ?_
  have h64 := stdCloneK_ok (T := T) (f := 64) (n := 104) (z := 3) (z' := 3) (L := dS M) (fl := f) x64 (.inl rfl) (by rw [dS_len]; exact Nat.le_trans (show M.length * 3 ≤ 1000 by omega) (by decide)) [] [] 0
  rw [dS_len] at h64
  have g1 := fun Hp d => Still.fz (dS_still M') 0 Hp d 0 M.length 3 false (by rw [dS_len]; exact h2.1)
  simp only [c40, heap0, go_sem, Int.cast_ofNat_Int, Int.reduceToNat, Bool.true_xor, Bool.false_xor, Bool.xor_true, Bool.xor_false, Nat.reduceAdd, Nat.reduceBEq, Nat.reduceLeDiff, Nat.reduceLT, Nat.reduceMul, Nat.reduceSub, Int.reduceEq, Int.reduceLT, Int.reduceLE, Int.reduceNeg, h64, List.nil_append, List.length_nil, h65, g1]
end Go.Sh
namespace Go.Sh
set_option linter.unusedSectionVars false
set_option linter.unnecessarySimpa false
set_option linter.unusedVariables false
set_option linter.unusedSimpArgs false
set_option maxRecDepth 100000
set_option maxHeartbeats 4000000
theorem s10b (H : Heap) : call1 T 106 (.fn 10) [] H = some (.bool true, H) := pure_any e10 (by rfl) (callB_up (T := T) 100 106 (.fn 10) [] heap0 (.bool true, heap0) (by kernel_rfl))
/-- The numbers below n. -/
def rg (n : Nat) : List Int := (List.range n).map fun (j : Nat) => (j : Int)
theorem rg_len (n) : (rg n).length = n := by simp [rg]
theorem rg_suc (n : Nat) : iS (rg n) ++ [[.int .i64 n]] = iS (rg (n + 1)) := by simp [iS, rg, List.range_succ]
theorem rg_ls {n : Nat} (h0 : 0 < n) (h : n ≤ 8) : lsB (rg n) = true := by
  rcases (by omega : n = 1 ∨ n = 2 ∨ n = 3 ∨ n = 4 ∨ n = 5 ∨ n = 6 ∨ n = 7 ∨ n = 8) with rfl | rfl | rfl | rfl | rfl | rfl | rfl | rfl <;> decide
/-- The devices, the first i of which have the image. -/
abbrev d1 : List SV := dv ⟨#[]⟩ idX false ⟨#[]⟩ 0 0
def cpL (n i : Nat) : List (List SV) := (List.range n).map fun j => bif decide (j < i) then d1 else dvZ
theorem cpL_zero (n) : cpL n 0 = List.replicate n dvZ := by
  unfold cpL
  apply List.ext_getElem?
  intro j
  by_cases h : j < n <;> simp [h]
theorem cpL_len (n i) : (cpL n i).length = n := by simp [cpL]
theorem cpL_get {n i : Nat} (h : i < n) : (cpL n i)[i]? = some dvZ := by simp [cpL, h]
theorem cpL_set {n i : Nat} (h : i < n) : (cpL n i).set i d1 = cpL n (i + 1) := by
  apply List.ext_getElem?
  intro j
  by_cases hj : j = i
  · subst hj; simp [cpL, h]
  · rw [List.getElem?_set_ne (Ne.symm hj)]
    by_cases hm : j < n
    · simp [cpL, hm, show decide (j < i) = decide (j < i + 1) by rw [decide_eq_decide]; omega]
    · simp [cpL, hm]
theorem cpL_same {n i : Nat} (h : i < n) : (cpL n i).set i dvZ = cpL n i := by
  have := cpL_get h
  obtain ⟨h1, h2⟩ := List.getElem?_eq_some_iff.1 this
  conv => lhs; rw [← h2]
  simp
theorem mkD (H : Heap) (m : Nat) (h : m ≤ 1000) : smake 6 dvZ 72 H (.int .i64 m) (.int .i64 m) = some (.slc H.bl.length 0 0 m, hnew H (.arr 0 6 (List.replicate m dvZ) true)) := by
  have h1 : decide ((m : Int) * ((72 : Nat) : Int) ≤ (mostLen : Int)) = true := decide_eq_true (by have : (mostLen : Int) = 1099511627776 := rfl; omega)
  have h2 : decide ((0 : Int) ≤ (m : Int)) = true := decide_eq_true (by omega)
  have h3 : decide ((m : Int) ≤ (m : Int)) = true := decide_eq_true (by omega)
  simp only [smake, h1, h2, h3, Bool.and_self, cond_true, Int.toNat_natCast]
abbrev bA (n : Nat) (D W : List Bool) (k s : Int) : List SV := bd idX 1 (rg n) false 1 D true 1 W true k s
theorem bA_ok {n : Nat} {D W : List Bool} (hn : n ≤ 8) (hD : D.length = n) (hW : W.length = n) : BdOk 1 (rg n) 1 D 1 W := ok_one (by rw [rg_len]; omega) (by omega) (by omega)
theorem nwA {n : Nat} (h0 : 1 ≤ n) (h : n ≤ 8) : nwV idX (rg n) = .tup [.agg (bA n (List.replicate n false) (List.replicate n false) 0 0), .int .i64 0] := by
  unfold nwV; rw [idB_X, rg_ls h0 h, rg_len]; rfl
theorem bA_v {n : Nat} {D W : List Bool} {k s : Int} (h0 : 1 ≤ n) (h : n ≤ 8) (hD : D.length = n) (hW : W.length = n) (k0 : 0 ≤ k) (k1 : k ≤ 1) (s0 : 0 ≤ s) (s1 : s ≤ 255) (h4 : k = 0 → s = 0 ∧ hasB true W = false) : bdB idX (rg n) D W k s = true := by
  unfold bdB
  rw [idB_X, rg_ls h0 h, rg_len, hD, hW, dself, decide_eq_true k0, decide_eq_true (show k ≤ 1048576 by omega), decide_eq_true s0, decide_eq_true (show s ≤ 1073741824 by omega)]
  by_cases hk : k = 0
  · obtain ⟨rfl, h5⟩ := h4 hk
    rw [h5]
    simp
  · rw [decide_eq_false hk]
    rfl
theorem idx_rg {n i : Nat} (h : i < n) : idx1 (fun y => decide ((i : Int) = y)) (rg n) = i := by
  refine idx1_at (a := (i : Int)) ?_ (decide_eq_true rfl) (fun j b hj hb => decide_eq_false ?_)
  · simp [rg, h]
  · intro e
    subst e
    simp only [rg, List.getElem?_map, List.getElem?_range (show j < n by omega), Option.map_some, Option.some.injEq] at hb
    omega
def rpL (n i : Nat) : List Bool := (List.range n).map fun j => decide (j < i)
theorem rpL_zero (n) : rpL n 0 = List.replicate n false := by
  apply List.ext_getElem?
  intro j
  by_cases h : j < n <;> simp [rpL, h]
theorem rpL_full (n) : rpL n n = List.replicate n true := by
  apply List.ext_getElem?
  intro j
  by_cases h : j < n <;> simp [rpL, h]
theorem rpL_len (n i) : (rpL n i).length = n := by simp [rpL]
theorem rpL_set {n i : Nat} (h : i < n) : (rpL n i).set i true = rpL n (i + 1) := by
  apply List.ext_getElem?
  intro j
  by_cases hj : j = i
  · subst hj; simp [rpL, h]
  · rw [List.getElem?_set_ne (Ne.symm hj)]
    by_cases hm : j < n
    · simp [rpL, hm, show decide (j < i) = decide (j < i + 1) by rw [decide_eq_decide]; omega]
    · simp [rpL, hm]
theorem has_rep (n : Nat) : hasB true (List.replicate n false) = false ∧ hasB false (List.replicate n true) = false := by
  unfold hasB
  constructor <;> rw [List.any_eq_false] <;> intro x hx <;> rw [List.eq_of_mem_replicate hx] <;> simp
section
variable {n : Nat} (h0 : 1 ≤ n) (h : n ≤ 8)
include h0 h
theorem rep_A {i : Nat} (hi : i < n) (H : Heap) : call1 T 106 (.fn 32) [.agg (bA n (rpL n i) (List.replicate n false) 0 0), .int .i64 i, .str idX] H = some (.tup [.agg (bA n (rpL n (i + 1)) (List.replicate n false) 0 0), .int .i64 0], H) := by
  have := s32 101 idX 1 (rg n) false 1 (rpL n i) true 1 (List.replicate n false) true 0 0 (bA_ok h (rpL_len _ _) (by simp)) i idX H
  unfold rpV at this
  rw [bA_v h0 h (rpL_len n i) (by simp) (by omega) (by omega) (by omega) (by omega) (fun _ => ⟨rfl, (has_rep n).1⟩), idx_rg hi, decide_eq_false (show ¬ (i : Int) < 0 by omega), dself, Int.toNat_natCast, rpL_set hi] at this
  exact this
theorem rdy_A (H : Heap) : call1 T 106 (.fn 28) [.agg (bA n (List.replicate n true) (List.replicate n false) 0 0)] H = some (.bool true, H) := by
  have := s28 (i := idX) (f1 := false) (f2 := true) (f3 := true) (k := 0) (s := 0) (bA_ok (n := n) (D := List.replicate n true) (W := List.replicate n false) h (by simp) (by simp)) 102 H
  rw [bA_v h0 h (by simp) (by simp) (by omega) (by omega) (by omega) (by omega) (fun _ => ⟨rfl, (has_rep n).1⟩), (has_rep n).2] at this
  exact this
theorem agr_A {D W : List Bool} {k s : Int} (hD : D.length = n) (hW : W.length = n) (k0 : 0 ≤ k) (k1 : k ≤ 1) (s0 : 0 ≤ s) (s1 : s ≤ 255) (h4 : k = 0 → s = 0 ∧ hasB true W = false) (H : Heap) :
    call1 T 106 (.fn 30) [.agg (bA n D W k s)] H = some (.bool (!decide (s = 0) && !hasB false W), H) := by
  have := s30 (i := idX) (f1 := false) (f2 := true) (f3 := true) (k := k) (s := s) (bA_ok (n := n) h hD hW) 102 H
  rw [bA_v h0 h hD hW k0 k1 s0 s1 h4, Bool.true_and] at this
  exact this
theorem ord_A {s : Int} (s0 : 1 ≤ s) (s1 : s ≤ 255) (H : Heap) : call1 T 106 (.fn 36) [.agg (bA n (List.replicate n true) (List.replicate n false) 0 0), .int .i64 s] H =
    some (.tup [.agg (bA n (List.replicate n true) (List.replicate n false) 1 s), .agg (cm 1 1 s idX 1 (rg n) false), .int .i64 0], H) := by
  have := s36 100 idX 1 (rg n) false 1 (List.replicate n true) true 1 (List.replicate n false) true 0 0 (bA_ok h (by simp) (by simp)) s H
  unfold orV sdV at this
  rw [bA_v h0 h (by simp) (by simp) (by omega) (by omega) (by omega) (by omega) (fun _ => ⟨rfl, (has_rep n).1⟩), (has_rep n).2, decide_eq_false (show ¬ s < 1 by omega), decide_eq_false (show ¬ 1073741824 < s by omega), List.length_replicate] at this
  exact this
theorem ack_A {D W : List Bool} {s : Int} (hD : D.length = n) (hW : W.length = n) (s0 : 0 ≤ s) (s1 : s ≤ 255) {i : Nat} (hi : i < n) (H : Heap) :
    call1 T 106 (.fn 34) [.agg (bA n D W 1 s), .int .i64 i, .int .i64 1] H = some (.tup [.agg (bA n D (W.set i true) 1 s), .int .i64 0], H) := by
  have := s34 101 idX 1 (rg n) false 1 D true 1 W true 1 s (bA_ok h hD hW) i 1 H
  unfold akV at this
  rw [bA_v h0 h hD hW (by omega) (by omega) s0 s1 (fun h => by omega), idx_rg hi, decide_eq_false (show ¬ (i : Int) < 0 by omega), Int.toNat_natCast] at this
  exact this
end
/-- A device, told or not. -/
def dvA (sl : Int) (a : Bool) : List SV := bif a then dv ⟨#[]⟩ idX true idX sl 1 else d1
def dvL (sl : Int) (A : List Bool) : List (List SV) := A.map (dvA sl)
theorem dvL_len (sl A) : (dvL sl A).length = A.length := by simp [dvL]
theorem dvL_get (sl A) (i : Nat) : (dvL sl A)[i]? = (A[i]?).map (dvA sl) := by simp [dvL]
theorem dvAt (sl) : dvA sl true = dv ⟨#[]⟩ idX true idX sl 1 := rfl
theorem dvA6 (sl a) : (dvA sl a).length = 6 := by cases a <;> rfl
theorem cpL_dv (n : Nat) (sl : Int) : cpL n n = dvL sl (List.replicate n false) := by
  apply List.ext_getElem?
  intro j
  by_cases h : j < n
  · simp [cpL, dvL, h, dvA]
  · simp [cpL, dvL, h]
def stN1 (n : Nat) (p : List Bool × List Bool) (r : Dl) : List Bool × List Bool :=
  bif decide (r.2.1.tmod 2 = 0) then (p.1.set (r.1.tmod n).toNat true, p.2) else bif (p.1[(r.1.tmod n).toNat]?).getD false then (p.1, p.2.set (r.1.tmod n).toNat true) else p
def stA (n : Nat) (M : List Dl) : Nat → List Bool × List Bool
  | 0 => (List.replicate n false, List.replicate n false)
  | i + 1 => match M[i]? with
    | some r => stN1 n (stA n M i) r
    | none => stA n M i
theorem stA_ok (n : Nat) (M : List Dl) : ∀ i, (stA n M i).1.length = n ∧ (stA n M i).2.length = n ∧ ∀ j : Nat, (stA n M i).2[j]? = some true → (stA n M i).1[j]? = some true
  | 0 => by
    refine ⟨by simp [stA], by simp [stA], fun j h => ?_⟩
    simp only [stA, List.getElem?_replicate] at h
    split at h <;> cases h
  | i + 1 => by
    obtain ⟨h1, h2, h3⟩ := stA_ok n M i
    simp only [stA]
    split
    · rename_i r _
      unfold stN1
      generalize (r.1.tmod n).toNat = k
      cases decide (r.2.1.tmod 2 = 0) with
      | true =>
        refine ⟨by simpa using h1, h2, fun j hj => ?_⟩
        have := h3 j hj
        simp only [cond_true]
        by_cases e : k = j
        · subst e; rw [List.getElem?_set_self (List.getElem?_eq_some_iff.1 this).1]
        · rw [List.getElem?_set_ne e]; exact this
      | false =>
        cases hk : ((stA n M i).1[k]?).getD false with
        | false => exact ⟨h1, h2, h3⟩
        | true =>
          refine ⟨h1, by simpa using h2, fun j hj => ?_⟩
          simp only [cond_false, cond_true] at hj ⊢
          by_cases e : k = j
          · subst e
            cases ho : (stA n M i).1[k]? with
            | none => rw [ho] at hk; cases hk
            | some b => rw [ho] at hk; simp only [Option.getD_some] at hk; rw [hk]
          · rw [List.getElem?_set_ne e] at hj; exact h3 j hj
    · exact ⟨h1, h2, h3⟩
theorem no_false {W : List Bool} (h : hasB false W = false) {i : Nat} (hi : i < W.length) : W[i]? = some true := by
  obtain ⟨w, hw⟩ := getS hi
  cases w with
  | true => exact hw
  | false =>
    unfold hasB at h
    rw [List.any_eq_false] at h
    exact absurd rfl (h false (List.mem_of_getElem? hw))
theorem st_A {sl : Int} (h1 : 1 ≤ sl) (h2 : sl ≤ 255) (H : Heap) : call1 T 106 (.fn 15) [.agg (dv ⟨#[]⟩ idX true idX sl 1), .int .i64 sl] H = some (.tup [.agg (dv idX idX false ⟨#[]⟩ 0 1), .bool true, .int .i64 0], H) := by
  have := s15 102 H ⟨#[]⟩ idX true idX sl 1 sl
  unfold stV at this
  rw [dvB_arm (by omega) (by omega) h1 (by omega), decide_eq_false (show ¬ sl < 0 by omega), decide_eq_false (show ¬ 1073741824 < sl by omega), decide_eq_false (show ¬ sl < sl by omega), decide_eq_true (show sl = sl from rfl)] at this
  exact this
theorem tk_A {j k : Nat} {sl t : Int} (h0 : 1 ≤ j) (h : j ≤ 8) (hk : k < j) (t0 : 0 ≤ t) (t1 : t < sl) (s1 : sl ≤ 255) (a : Bool) (H : Heap) :
    call1 T 106 (.fn 14) [.agg (dvA sl a), .agg (cm 1 1 sl idX 1 (rg j) false), .int .i64 k, .int .i64 t] H = some (.tup [.agg (dvA sl true), .int .i64 (bif a then 23 else 0)], H) := by
  have hc : cmB 1 1 sl idX (rg j) = true := cmB_act (by omega) (by omega) (by omega) (by omega) (rg_ls h0 h)
  cases a with
  | false =>
    have := s14 102 H ⟨#[]⟩ idX false ⟨#[]⟩ 0 0 1 1 sl idX 1 (rg j) false k t (.inl rfl) (by rw [rg_len]; exact Nat.le_trans (show j ≤ 1000 by omega) mx)
    rw [tk_act (k := 0) (k' := 1) (dvB_idle (by omega) (by omega)) hc (by omega) (by omega) (by omega) t0 t1 (by omega) (List.mem_map.2 ⟨k, List.mem_range.2 hk, rfl⟩)] at this
    exact this
  | true =>
    have := s14 102 H ⟨#[]⟩ idX true idX sl 1 1 1 sl idX 1 (rg j) false k t (.inl rfl) (by rw [rg_len]; exact Nat.le_trans (show j ≤ 1000 by omega) mx)
    unfold tkV at this
    rw [dvB_arm (by omega) (by omega) (by omega) (by omega), hc, decide_eq_false (show ¬ (k : Int) < 0 by omega), decide_eq_false (show ¬ 32 ≤ (k : Int) by omega), decide_eq_false (show ¬ t < 0 by omega), decide_eq_false (show ¬ 1073741824 < t by omega)] at this
    exact this
theorem s9 (nd sl : Int) (M : List Dl) (f : Bool) (hnd : 0 ≤ nd ∧ nd ≤ 255) (hsl : 0 ≤ sl ∧ sl ≤ 255) (hd : ∀ r ∈ M, (0 ≤ r.1 ∧ r.1 ≤ 255) ∧ (0 ≤ r.2.1 ∧ r.2.1 ≤ 255) ∧ (0 ≤ r.2.2 ∧ r.2.2 ≤ 255)) :
    call1 T 107 (.fn 9) [.int .u8 nd, .int .u8 sl, .lst 3 (dS M) f] heap0 = some (.bool true, heap0) := by
  refine call_pure e9 (by rfl) ?_
  cases hx : decide (60 < (M.length : Int)) with
  | true => simp only [c9, heap0, go_sem, Int.cast_ofNat_Int, Int.reduceToNat, Bool.true_xor, Bool.false_xor, Bool.xor_true, Bool.xor_false, Nat.reduceAdd, Nat.reduceBEq, Nat.reduceLeDiff, Nat.reduceLT, Nat.reduceMul, Nat.reduceSub, Int.reduceEq, Int.reduceLT, Int.reduceLE, Int.reduceNeg, s10b, hx]
  | false =>
    cases h2 : decide (sl < 2) with
    | true => simp only [c9, heap0, go_sem, Int.cast_ofNat_Int, Int.reduceToNat, Bool.true_xor, Bool.false_xor, Bool.xor_true, Bool.xor_false, Nat.reduceAdd, Nat.reduceBEq, Nat.reduceLeDiff, Nat.reduceLT, Nat.reduceMul, Nat.reduceSub, Int.reduceEq, Int.reduceLT, Int.reduceLE, Int.reduceNeg, s10b, hx, h2]
    | false =>
      simp only [decide_eq_false_iff_not] at h2 hx
      have h2' : decide (sl < 2) = false := decide_eq_false h2
      have hx' : decide (60 < (M.length : Int)) = false := decide_eq_false hx
      obtain ⟨n, hn⟩ : ∃ n : Nat, 1 + nd.tmod 6 = n := ⟨(1 + nd.tmod 6).toNat, by have := Int.tmod_nonneg (a := nd) 6 hnd.1; omega⟩
      have hn1 : 1 ≤ n ∧ n ≤ 6 := by
        have h3 := Int.tmod_nonneg (a := nd) 6 hnd.1
        have h4 := Int.tmod_lt_of_pos nd (show (0 : Int) < 6 by omega)
        omega
      have w1 : w64 (nd.tmod 6) = nd.tmod 6 := w64_id (by omega) (by omega)
      have w2 : w64 (1 + nd.tmod 6) = n := by rw [w64_id (by omega) (by omega)]; exact hn
      have h6 : decide ((6 : Int) = 0) = false := by rfl
      have h12 : ∀ H, call1 T 106 (.fn 12) [.agg dvZ, .str idX] H = some (.tup [.agg d1, .int .i64 0], H) := fun H => cpV_zero ▸ s12 102 H ⟨#[]⟩ ⟨#[]⟩ false ⟨#[]⟩ 0 0 idX
      simp only [c9, heap0, go_sem, Int.cast_ofNat_Int, Int.reduceToNat, Bool.true_xor, Bool.false_xor, Bool.xor_true, Bool.xor_false, Nat.reduceAdd, Nat.reduceBEq, Nat.reduceLeDiff, Nat.reduceLT, Nat.reduceMul, Nat.reduceSub, Int.reduceEq, Int.reduceLT, Int.reduceLE, Int.reduceNeg, s10b, hx', h2', h6, w1, w2, mkD _ n (by omega), ← cpL_zero n]
      refine loop_rule (fun i => ([(1, .int .u8 sl), (2, .lst 3 (dS M) f), (7, .int .i64 n), (8, .slc 1 i 0 i), (9, .slc 0 0 0 n), (40, .int .i64 n), (41, .int .i64 i)], ⟨[.arr 0 6 (cpL n i) true, .arr i 1 (iS (rg i)) false], [], 0⟩)) (fun _ => True) n ?_ trivial ?_
      · simp only [go_sem, Int.cast_ofNat_Int, Int.reduceToNat, Bool.true_xor, Bool.false_xor, Bool.xor_true, Bool.xor_false, Nat.reduceAdd, Nat.reduceBEq, Nat.reduceLeDiff, Nat.reduceLT, Nat.reduceMul, Nat.reduceSub, Int.reduceEq, Int.reduceLT, Int.reduceLE, Int.reduceNeg] <;> rfl
      · intro i hi _
        rcases Nat.lt_or_ge i n with hlt | hge
        · have hs := w64_suc hlt (Nat.le_trans (show n ≤ 1000 by omega) mx)
          have gb := fun H => apB_grow 1 H 1 i i [[.int .i64 (i : Int)]] (iS (rg i)) (by rw [iS_len, rg_len])
          have r1 : decide ((i + 1) * 8 ≤ mostLen) = true := decide_eq_true (Nat.le_trans (show (i + 1) * 8 ≤ 1000 by omega) (by decide))
          simp only [go_sem, Int.cast_ofNat_Int, Int.reduceToNat, Bool.true_xor, Bool.false_xor, Bool.xor_true, Bool.xor_false, Nat.reduceAdd, Nat.reduceBEq, Nat.reduceLeDiff, Nat.reduceLT, Nat.reduceMul, Nat.reduceSub, Int.reduceEq, Int.reduceLT, Int.reduceLE, Int.reduceNeg, hlt, hs, gb, r1, rg_suc, cpL_get hlt, s11x, h12, cpL_same hlt, cpL_set hlt, cpL_len]
          exact ⟨trivial, rfl, trivial⟩
        · obtain rfl : i = n := by omega
          have hc : decide (i < i) = false := decide_eq_false (by omega)
          have g1 : List.take i (iS (rg i)) = iS (rg i) := List.take_of_length_le (by rw [iS_len, rg_len]; exact Nat.le_refl _)
          have h23 : ∀ H, call1 T 106 (.fn 23) [.str idX, .lst 1 (iS (rg i)) false] H = some (.tup [.agg (bA i (List.replicate i false) (List.replicate i false) 0 0), .int .i64 0], H) := fun H => nwA hn1.1 (by omega) ▸ s23 103 idX 1 (rg i) false (.inl rfl) (by rw [rg_len]; omega) H
          have hfz := fun H => fTB_whole H 1 i i 1 (iS (rg i)) false (by rw [iS_len, rg_len]) (Still.ints _).zero
          simp only [go_sem, Int.cast_ofNat_Int, Int.reduceToNat, Bool.true_xor, Bool.false_xor, Bool.xor_true, Bool.xor_false, Nat.reduceAdd, Nat.reduceBEq, Nat.reduceLeDiff, Nat.reduceLT, Nat.reduceMul, Nat.reduceSub, Int.reduceEq, Int.reduceLT, Int.reduceLE, Int.reduceNeg, hc, hfz, s11x, h23]
          clear hfz g1 h23 h12
          refine loop_rule (fun j => ([(1, .int .u8 sl), (2, .lst 3 (dS M) f), (7, .int .i64 i), (9, .slc 0 0 0 i), (11, .ptr 2 0 0 0), (12, .int .i64 0), (71, .int .i64 i), (72, .int .i64 j)], ⟨[.arr 0 6 (cpL i i) true, .dead, .box (bA i (rpL i j) (List.replicate i false) 0 0)], [], 0⟩)) (fun _ => True) i ?_ trivial ?_
          · simp only [go_sem, Int.cast_ofNat_Int, Int.reduceToNat, Bool.true_xor, Bool.false_xor, Bool.xor_true, Bool.xor_false, Nat.reduceAdd, Nat.reduceBEq, Nat.reduceLeDiff, Nat.reduceLT, Nat.reduceMul, Nat.reduceSub, Int.reduceEq, Int.reduceLT, Int.reduceLE, Int.reduceNeg, rpL_zero] <;> rfl
          · intro j hj _
            rcases Nat.lt_or_ge j i with hlt | hge
            · have hs := w64_suc hlt (Nat.le_trans (show i ≤ 1000 by omega) mx)
              have hg : (cpL i i)[j]? = some d1 := by simp [cpL, hlt]
              have h32 := rep_A hn1.1 (show i ≤ 8 by omega) hlt
              simp only [go_sem, Int.cast_ofNat_Int, Int.reduceToNat, Bool.true_xor, Bool.false_xor, Bool.xor_true, Bool.xor_false, Nat.reduceAdd, Nat.reduceBEq, Nat.reduceLeDiff, Nat.reduceLT, Nat.reduceMul, Nat.reduceSub, Int.reduceEq, Int.reduceLT, Int.reduceLE, Int.reduceNeg, hlt, hs, hg, cpL_len, h32]
              exact ⟨trivial, rfl, trivial⟩
            · obtain rfl : j = i := by omega
              have h28 := rdy_A hn1.1 (show j ≤ 8 by omega)
              have h30 : ∀ H, call1 T 106 (.fn 30) [.agg (bA j (List.replicate j true) (List.replicate j false) 0 0)] H = some (.bool false, H) := fun H => by
                rw [agr_A hn1.1 (show j ≤ 8 by omega) (by simp) (by simp) (by omega) (by omega) (by omega) (by omega) (fun _ => ⟨rfl, (has_rep j).1⟩) H]
                rfl
              have h36 := ord_A hn1.1 (show j ≤ 8 by omega) (s := sl) (by omega) (by omega)
              have ws : w64 sl = sl := w64_id (by omega) (by omega)
              obtain ⟨M', hM', h40⟩ : ∃ M', Sub M' M ∧ ∀ H, call1 T 106 (.fn 40) [.lst 3 (dS M) f] H = some (.lst 3 (dS M') false, H) := by
                obtain ⟨M', q1, q2⟩ := s40 M f (by omega) heap0
                exact ⟨M', q1, fun H => pure_any e40 (by rfl) q2⟩
              simp only [go_sem, Int.cast_ofNat_Int, Int.reduceToNat, Bool.true_xor, Bool.false_xor, Bool.xor_true, Bool.xor_false, Nat.reduceAdd, Nat.reduceBEq, Nat.reduceLeDiff, Nat.reduceLT, Nat.reduceMul, Nat.reduceSub, Int.reduceEq, Int.reduceLT, Int.reduceLE, Int.reduceNeg, hc, rpL_full, h28, h30, h36, ws, h40, hM'.1]
              clear h28 h30 h36 h40
              refine loop_rule (fun q => ([(1, .int .u8 sl), (7, .int .i64 j), (9, .slc 0 0 0 j), (11, .ptr 2 0 0 0), (14, .ptr 3 0 0 0), (111, .lst 3 (dS M') false), (112, .int .i64 M'.length), (113, .int .i64 q)],
                ⟨[.arr 0 6 (dvL sl (stA j M' q).1) true, .dead, .box (bA j (List.replicate j true) (stA j M' q).2 1 sl), .box (cm 1 1 sl idX 1 (rg j) false)], [], 0⟩)) (fun _ => True) M'.length ?_ trivial ?_
              · have e1 : cpL j j = dvL sl (stA j M' 0).1 := cpL_dv j sl
                have e2 : (stA j M' 0).2 = List.replicate j false := rfl
                simp only [go_sem, Int.cast_ofNat_Int, Int.reduceToNat, Bool.true_xor, Bool.false_xor, Bool.xor_true, Bool.xor_false, Nat.reduceAdd, Nat.reduceBEq, Nat.reduceLeDiff, Nat.reduceLT, Nat.reduceMul, Nat.reduceSub, Int.reduceEq, Int.reduceLT, Int.reduceLE, Int.reduceNeg, e1, e2, hM'.1] <;> rfl
              · intro q hq _
                obtain ⟨f1, f2, f3⟩ := stA_ok j M' q
                have hst : ∀ r, M'[q]? = some r → stA j M' (q + 1) = stN1 j (stA j M' q) r := fun r hr => by
                  show (match M'[q]? with | some r => stN1 j (stA j M' q) r | none => stA j M' q) = _
                  rw [hr]
                generalize hp : stA j M' q = p at *
                obtain ⟨A, W⟩ := p
                simp only at f1 f2 f3
                rcases Nat.lt_or_ge q M'.length with hlt | hge
                · obtain ⟨r, hr⟩ := getS hlt
                  have hst := hst r hr
                  obtain ⟨⟨r0, r1⟩, ⟨r2, r3⟩, r4, r5⟩ := hd r (hM'.2 r (List.mem_of_getElem? hr))
                  have hs := w64_suc hlt (Nat.le_trans (show M'.length ≤ 1000 by have := hM'.1; omega) mx)
                  have wr1 : w64 r.1 = r.1 := w64_id (by omega) (by omega)
                  have wr2 : w64 r.2.2 = r.2.2 := w64_id (by omega) (by omega)
                  have hj0 : decide ((j : Int) = 0) = false := decide_eq_false (by omega)
                  obtain ⟨k, hk⟩ : ∃ k : Nat, r.1.tmod j = k := ⟨(r.1.tmod j).toNat, by have := Int.tmod_nonneg (a := r.1) (j : Int) r0; omega⟩
                  have hkj : k < j := by have := Int.tmod_lt_of_pos r.1 (show (0 : Int) < j by omega); omega
                  cases hbr : decide (sl ≤ r.2.2) with
                  | true =>
                    have ha := agr_A hn1.1 (show j ≤ 8 by omega) (D := List.replicate j true) (W := W) (k := 1) (s := sl) (by simp) f2 (by omega) (by omega) (by omega) (by omega) (fun h => by omega)
                    have hz : decide (sl = 0) = false := decide_eq_false (by omega)
                    cases hb : hasB false W with
                    | true => simp only [go_sem, Int.cast_ofNat_Int, Int.reduceToNat, Bool.true_xor, Bool.false_xor, Bool.xor_true, Bool.xor_false, Nat.reduceAdd, Nat.reduceBEq, Nat.reduceLeDiff, Nat.reduceLT, Nat.reduceMul, Nat.reduceSub, Int.reduceEq, Int.reduceLT, Int.reduceLE, Int.reduceNeg, hp, hlt, hr, dlen3, dtake3, dlR, wr1, wr2, ws, hj0, hk, hbr, ha, hz, hb]
                    | false =>
                      simp only [go_sem, Int.cast_ofNat_Int, Int.reduceToNat, Bool.true_xor, Bool.false_xor, Bool.xor_true, Bool.xor_false, Nat.reduceAdd, Nat.reduceBEq, Nat.reduceLeDiff, Nat.reduceLT, Nat.reduceMul, Nat.reduceSub, Int.reduceEq, Int.reduceLT, Int.reduceLE, Int.reduceNeg, hp, hlt, hr, dlen3, dtake3, dlR, wr1, wr2, ws, hj0, hk, hbr, ha, hz, hb, dvL_len, f1]
                      refine loop_rule (fun p => ([(1, .int .u8 sl), (9, .slc 0 0 0 j), (174, .int .i64 j), (175, .int .i64 p)], ⟨[.arr 0 6 (dvL sl A) true, .dead, .box (bA j (List.replicate j true) W 1 sl), .box (cm 1 1 sl idX 1 (rg j) false), .box [.int .u8 r.1, .int .u8 r.2.1, .int .u8 r.2.2]], [], 0⟩)) (fun _ => True) j ?_ trivial ?_
                      · simp only [go_sem, Int.cast_ofNat_Int, Int.reduceToNat, Bool.true_xor, Bool.false_xor, Bool.xor_true, Bool.xor_false, Nat.reduceAdd, Nat.reduceBEq, Nat.reduceLeDiff, Nat.reduceLT, Nat.reduceMul, Nat.reduceSub, Int.reduceEq, Int.reduceLT, Int.reduceLE, Int.reduceNeg] <;> rfl
                      · intro p hp _
                        rcases Nat.lt_or_ge p j with hlt2 | hge2
                        · have hs2 := w64_suc hlt2 (Nat.le_trans (show j ≤ 1000 by omega) mx)
                          have hg : (dvL sl A)[p]? = some (dvA sl true) := by rw [dvL_get, f3 p (no_false hb (by omega))]; rfl
                          have h15 := st_A (sl := sl) (by omega) (by omega)
                          simp only [go_sem, Int.cast_ofNat_Int, Int.reduceToNat, Bool.true_xor, Bool.false_xor, Bool.xor_true, Bool.xor_false, Nat.reduceAdd, Nat.reduceBEq, Nat.reduceLeDiff, Nat.reduceLT, Nat.reduceMul, Nat.reduceSub, Int.reduceEq, Int.reduceLT, Int.reduceLE, Int.reduceNeg, hlt2, hs2, hg, dvL_len, f1, dvA6, dvAt, h15, ws, s11x, dself]
                          exact ⟨trivial, rfl, trivial⟩
                        · have hd2 : decide (p < j) = false := decide_eq_false (by omega)
                          have hd3 : ¬ p < j := by omega
                          simp only [go_sem, Int.cast_ofNat_Int, Int.reduceToNat, Bool.true_xor, Bool.false_xor, Bool.xor_true, Bool.xor_false, Nat.reduceAdd, Nat.reduceBEq, Nat.reduceLeDiff, Nat.reduceLT, Nat.reduceMul, Nat.reduceSub, Int.reduceEq, Int.reduceLT, Int.reduceLE, Int.reduceNeg, hd2, hd3]
                  | false =>
                    have ht := tk_A (j := j) (k := k) (sl := sl) (t := r.2.2) hn1.1 (show j ≤ 8 by omega) hkj r4 (by simp only [decide_eq_false_iff_not] at hbr; omega) (by omega)
                    obtain ⟨a, hak⟩ := getS (show k < A.length by omega)
                    have hg : (dvL sl A)[k]? = some (dvA sl a) := by rw [dvL_get, hak]; rfl
                    have hset : (dvL sl A).set k (dvA sl true) = dvL sl (A.set k true) := by simp [dvL, List.map_set]
                    have h20 : decide ((2 : Int) = 0) = false := by rfl
                    have hkj' : k < j := hkj
                    unfold stN1 at hst
                    rw [hk, Int.toNat_natCast, hak, Option.getD_some] at hst
                    cases hcm : decide (r.2.1.tmod 2 = 0) with
                    | true =>
                      rw [hcm, cond_true] at hst
                      have d6 : List.drop 6 (dvA sl a) = [] := List.drop_of_length_le (by rw [dvA6]; exact Nat.le_refl _)
                      have dr : SV.refs.refsL (dvA sl true) = 0 := rfl
                      simp only [go_sem, Int.cast_ofNat_Int, Int.reduceToNat, Bool.true_xor, Bool.false_xor, Bool.xor_true, Bool.xor_false, Nat.reduceAdd, Nat.reduceBEq, Nat.reduceLeDiff, Nat.reduceLT, Nat.reduceMul, Nat.reduceSub, Int.reduceEq, Int.reduceLT, Int.reduceLE, Int.reduceNeg, hp, hlt, hr, dlen3, dtake3, dlR, wr1, wr2, ws, hj0, hk, hbr, hcm, h20, hkj, hg, dvL_len, f1, dvA6, List.take_of_length_le, Nat.le_refl, ht, d6, dr, List.append_nil, hset, hst, hs]
                      exact ⟨by first | trivial | omega, rfl, trivial⟩
                    | false =>
                      rw [hcm, cond_false] at hst
                      cases a with
                      | false =>
                        rw [cond_false] at hst
                        simp only [go_sem, Int.cast_ofNat_Int, Int.reduceToNat, Bool.true_xor, Bool.false_xor, Bool.xor_true, Bool.xor_false, Nat.reduceAdd, Nat.reduceBEq, Nat.reduceLeDiff, Nat.reduceLT, Nat.reduceMul, Nat.reduceSub, Int.reduceEq, Int.reduceLT, Int.reduceLE, Int.reduceNeg, hp, hlt, hr, dlen3, dtake3, dlR, wr1, wr2, ws, hj0, hk, hbr, hcm, h20, hkj, hg, dvL_len, f1, dvA, hst, hs]
                        exact ⟨by first | trivial | omega, rfl, trivial⟩
                      | true =>
                        rw [cond_true] at hst
                        have hack := ack_A hn1.1 (show j ≤ 8 by omega) (D := List.replicate j true) (W := W) (s := sl) (by simp) f2 (by omega) (by omega) hkj
                        simp only [go_sem, Int.cast_ofNat_Int, Int.reduceToNat, Bool.true_xor, Bool.false_xor, Bool.xor_true, Bool.xor_false, Nat.reduceAdd, Nat.reduceBEq, Nat.reduceLeDiff, Nat.reduceLT, Nat.reduceMul, Nat.reduceSub, Int.reduceEq, Int.reduceLT, Int.reduceLE, Int.reduceNeg, hp, hlt, hr, dlen3, dtake3, dlR, wr1, wr2, ws, hj0, hk, hbr, hcm, h20, hkj, hg, dvL_len, f1, dvAt, hack, hst, hs]
                        exact ⟨by first | trivial | omega, rfl, trivial⟩
                · have hd0 : decide (q < M'.length) = false := decide_eq_false (by omega)
                  have hd1 : ¬ q < M'.length := by omega
                  have ha := agr_A hn1.1 (show j ≤ 8 by omega) (D := List.replicate j true) (W := W) (k := 1) (s := sl) (by simp) f2 (by omega) (by omega) (by omega) (by omega) (fun h => by omega)
                  have hz : decide (sl = 0) = false := decide_eq_false (by omega)
                  cases hb : hasB false W with
                  | true => simp only [go_sem, Int.cast_ofNat_Int, Int.reduceToNat, Bool.true_xor, Bool.false_xor, Bool.xor_true, Bool.xor_false, Nat.reduceAdd, Nat.reduceBEq, Nat.reduceLeDiff, Nat.reduceLT, Nat.reduceMul, Nat.reduceSub, Int.reduceEq, Int.reduceLT, Int.reduceLE, Int.reduceNeg, hp, hd0, hd1, ha, hz, hb]
                  | false =>
                    simp only [go_sem, Int.cast_ofNat_Int, Int.reduceToNat, Bool.true_xor, Bool.false_xor, Bool.xor_true, Bool.xor_false, Nat.reduceAdd, Nat.reduceBEq, Nat.reduceLeDiff, Nat.reduceLT, Nat.reduceMul, Nat.reduceSub, Int.reduceEq, Int.reduceLT, Int.reduceLE, Int.reduceNeg, hp, hd0, hd1, ha, hz, hb, dvL_len, f1]
                    refine loop_rule (fun p => ([(1, .int .u8 sl), (9, .slc 0 0 0 j), (174, .int .i64 j), (175, .int .i64 p)], ⟨[.arr 0 6 (dvL sl A) true, .dead, .box (bA j (List.replicate j true) W 1 sl), .box (cm 1 1 sl idX 1 (rg j) false)], [], 0⟩)) (fun _ => True) j ?_ trivial ?_
                    · simp only [go_sem, Int.cast_ofNat_Int, Int.reduceToNat, Bool.true_xor, Bool.false_xor, Bool.xor_true, Bool.xor_false, Nat.reduceAdd, Nat.reduceBEq, Nat.reduceLeDiff, Nat.reduceLT, Nat.reduceMul, Nat.reduceSub, Int.reduceEq, Int.reduceLT, Int.reduceLE, Int.reduceNeg] <;> rfl
                    · intro p hp _
                      rcases Nat.lt_or_ge p j with hlt2 | hge2
                      · have hs2 := w64_suc hlt2 (Nat.le_trans (show j ≤ 1000 by omega) mx)
                        have hg : (dvL sl A)[p]? = some (dvA sl true) := by rw [dvL_get, f3 p (no_false hb (by omega))]; rfl
                        have h15 := st_A (sl := sl) (by omega) (by omega)
                        simp only [go_sem, Int.cast_ofNat_Int, Int.reduceToNat, Bool.true_xor, Bool.false_xor, Bool.xor_true, Bool.xor_false, Nat.reduceAdd, Nat.reduceBEq, Nat.reduceLeDiff, Nat.reduceLT, Nat.reduceMul, Nat.reduceSub, Int.reduceEq, Int.reduceLT, Int.reduceLE, Int.reduceNeg, hlt2, hs2, hg, dvL_len, f1, dvA6, dvAt, h15, ws, s11x, dself]
                        exact ⟨trivial, rfl, trivial⟩
                      · have hd2 : decide (p < j) = false := decide_eq_false (by omega)
                        have hd3 : ¬ p < j := by omega
                        simp only [go_sem, Int.cast_ofNat_Int, Int.reduceToNat, Bool.true_xor, Bool.false_xor, Bool.xor_true, Bool.xor_false, Nat.reduceAdd, Nat.reduceBEq, Nat.reduceLeDiff, Nat.reduceLT, Nat.reduceMul, Nat.reduceSub, Int.reduceEq, Int.reduceLT, Int.reduceLE, Int.reduceNeg, hd2, hd3]
end Go.Sh
namespace Go.Sh
set_option linter.unusedSectionVars false
set_option linter.unnecessarySimpa false
set_option linter.unusedVariables false
set_option linter.unusedSimpArgs false
set_option maxRecDepth 100000
set_option maxHeartbeats 4000000
/-! Devices that are told, or not, slot by slot. -/
def idO : ByteArray := idOf ⟨#[111]⟩
theorem idB_O : idB idO = true := by rfl
theorem emB_O : emB idO = true := by rfl
theorem idOX : decide (idO = idX) = false := by decide
theorem s11o (n : Nat) (H : Heap) : call1 T (n + 2) (.fn 11) [.str ⟨#[111]⟩] H = some (.str idO, H) := s11 n H _ (by decide)
/-- A device ahead of a slot: 0: it was not told; 1: told in time; 2: too late. -/
def dO (sl t : Int) (q : Nat) : List SV := if q = 1 then (if t ≤ sl then dv idO idX true idX sl 1 else dv idX idX false ⟨#[]⟩ 0 1) else dv idO idX false ⟨#[]⟩ 0 (if q = 0 then 0 else 1)
theorem dvO_a {sl : Int} (h1 : 1 ≤ sl) (h2 : sl ≤ 255) : dvB idO idX true idX sl 1 = true := by
  unfold dvB; rw [emB_O, emB_X, idB_X, decide_eq_true h1, decide_eq_true (show sl ≤ 1073741824 by omega)]; simp
theorem dvO_b : dvB idX idX false ⟨#[]⟩ 0 1 = true := by
  unfold dvB; rw [emB_X]; rfl
theorem dvO_c : dvB idO idX false ⟨#[]⟩ 0 0 = true := by
  unfold dvB; rw [emB_O, emB_X]; rfl
theorem dvO_d : dvB idO idX false ⟨#[]⟩ 0 1 = true := by
  unfold dvB; rw [emB_O, emB_X]; rfl
theorem cpO : cpV idO ⟨#[]⟩ false ⟨#[]⟩ 0 0 idX = .tup [.agg (dv idO idX false ⟨#[]⟩ 0 0), .int .i64 0] := by
  unfold cpV
  rw [show dvB idO ⟨#[]⟩ false ⟨#[]⟩ 0 0 = true by unfold dvB; rw [emB_O, emB_E]; rfl, idB_X]; rfl
theorem step_O {sl t : Int} (q : Nat) (h1 : 1 ≤ sl) (h2 : sl ≤ 255) (t0 : 0 ≤ t) (t1 : t ≤ 300) (H : Heap) :
    call1 T 106 (.fn 15) [.agg (dO sl t q), .int .i64 t] H = some (.tup [.agg (dO sl (t + 1) q), .bool (decide (q = 1) && decide (t = sl)), .int .i64 0], H) := by
  have e1 : decide (t < 0) = false := decide_eq_false (by omega)
  have e2 : decide (1073741824 < t) = false := decide_eq_false (by omega)
  by_cases hq : q = 1
  · subst hq
    unfold dO
    rw [if_pos rfl, if_pos rfl]
    by_cases ht : t ≤ sl
    · rw [if_pos ht]
      have := s15 102 H idO idX true idX sl 1 t
      unfold stV at this
      rw [dvO_a h1 h2, e1, e2] at this
      by_cases hs : t = sl
      · subst hs
        rw [if_neg (by omega), decide_eq_true (show t = t from rfl)]
        rw [decide_eq_false (show ¬ t < t by omega), decide_eq_true (show t = t from rfl)] at this
        exact this
      · rw [if_pos (by omega), decide_eq_false hs]
        rw [decide_eq_true (show t < sl by omega)] at this
        exact this
    · rw [if_neg ht, if_neg (by omega), decide_eq_false (show ¬ t = sl by omega)]
      have := s15 102 H idX idX false ⟨#[]⟩ 0 1 t
      unfold stV at this
      rw [dvO_b, e1, e2] at this
      exact this
  · unfold dO
    rw [if_neg hq, if_neg hq, decide_eq_false hq]
    by_cases h0 : q = 0
    · rw [if_pos h0]
      have := s15 102 H idO idX false ⟨#[]⟩ 0 0 t
      unfold stV at this
      rw [dvO_c, e1, e2] at this
      exact this
    · rw [if_neg h0]
      have := s15 102 H idO idX false ⟨#[]⟩ 0 1 t
      unfold stV at this
      rw [dvO_d, e1, e2] at this
      exact this
/-- What a device is that was told in a slot. -/
def tq (sl t : Int) (q : Nat) : Nat := if q = 0 then (if t < sl then 1 else 2) else q
def tqE (sl t : Int) (q : Nat) : Int := if q = 0 then (if t < sl then 0 else 15) else 23
theorem take_O {sl t : Int} {n k : Nat} (q : Nat) (h0 : 1 ≤ n) (h : n ≤ 8) (hk : k < n) (h1 : 1 ≤ sl) (h2 : sl ≤ 255) (t0 : 0 ≤ t) (t1 : t ≤ 300) (H : Heap) :
    call1 T 106 (.fn 14) [.agg (dO sl (t + 1) q), .agg (cm 1 1 sl idX 1 (rg n) false), .int .i64 k, .int .i64 t] H = some (.tup [.agg (dO sl (t + 1) (tq sl t q)), .int .i64 (tqE sl t q)], H) := by
  have hc : cmB 1 1 sl idX (rg n) = true := cmB_act (by omega) (by omega) (by omega) (by omega) (rg_ls h0 h)
  have hm : (k : Int) ∈ rg n := List.mem_map.2 ⟨k, List.mem_range.2 hk, rfl⟩
  have hx : decide (idX = idX) = true := decide_eq_true rfl
  have e3 : decide ((k : Int) < 0) = false := decide_eq_false (by omega)
  have e4 : decide (32 ≤ (k : Int)) = false := decide_eq_false (by omega)
  have e1 : decide (t < 0) = false := decide_eq_false (by omega)
  have e2 : decide (1073741824 < t) = false := decide_eq_false (by omega)
  have hL : (rg n).length ≤ maxLen := by rw [rg_len]; exact Nat.le_trans (show n ≤ 1000 by omega) mx
  by_cases hq : q = 0
  · subst hq
    have := s14 102 H idO idX false ⟨#[]⟩ 0 0 1 1 sl idX 1 (rg n) false k t (.inl rfl) hL
    unfold tkV at this
    rw [dvO_c, hc, e1, e2, e3, e4, decide_eq_true hm, hx] at this
    unfold tq tqE
    rw [if_pos rfl, if_pos rfl]
    have ea : dO sl (t + 1) 0 = dv idO idX false ⟨#[]⟩ 0 0 := rfl
    rw [ea]
    by_cases ht : t < sl
    · rw [if_pos ht, if_pos ht]
      rw [decide_eq_false (show ¬ sl ≤ t by omega)] at this
      have eb : dO sl (t + 1) 1 = dv idO idX true idX sl 1 := by unfold dO; rw [if_pos rfl, if_pos (by omega)]
      rw [eb]; exact this
    · rw [if_neg ht, if_neg ht]
      rw [decide_eq_true (show sl ≤ t by omega)] at this
      exact this
  · unfold tq tqE
    rw [if_neg hq, if_neg hq]
    by_cases h1q : q = 1
    · subst h1q
      by_cases ht : t + 1 ≤ sl
      · have eb : dO sl (t + 1) 1 = dv idO idX true idX sl 1 := by unfold dO; rw [if_pos rfl, if_pos ht]
        rw [eb]
        have := s14 102 H idO idX true idX sl 1 1 1 sl idX 1 (rg n) false k t (.inl rfl) hL
        unfold tkV at this
        rw [dvO_a h1 h2, hc, e1, e2, e3, e4] at this
        exact this
      · have eb : dO sl (t + 1) 1 = dv idX idX false ⟨#[]⟩ 0 1 := by unfold dO; rw [if_pos rfl, if_neg ht]
        rw [eb]
        have := s14 102 H idX idX false ⟨#[]⟩ 0 1 1 1 sl idX 1 (rg n) false k t (.inl rfl) hL
        unfold tkV at this
        rw [dvO_b, hc, e1, e2, e3, e4] at this
        exact this
    · have eb : dO sl (t + 1) q = dv idO idX false ⟨#[]⟩ 0 1 := by unfold dO; rw [if_neg h1q, if_neg hq]
      rw [eb]
      have := s14 102 H idO idX false ⟨#[]⟩ 0 1 1 1 sl idX 1 (rg n) false k t (.inl rfl) hL
      unfold tkV at this
      rw [dvO_d, hc, e1, e2, e3, e4] at this
      exact this
theorem dO6 (sl t q) : (dO sl t q).length = 6 := by
  unfold dO; split
  · split <;> rfl
  · rfl
theorem dOr (sl t q) : SV.refs.refsL (dO sl t q) = 0 := by
  unfold dO; split
  · split <;> rfl
  · rfl
/-- The number of a device, and whether it runs the image and is armed. -/
theorem dO_at (sl t q) : ∃ r c a x s, dO sl t q = dv r c a x s (if q = 0 then 0 else 1) := by
  unfold dO
  by_cases h : q = 1
  · subst h
    rw [if_pos rfl]
    split
    · exact ⟨_, _, _, _, _, rfl⟩
    · exact ⟨_, _, _, _, _, rfl⟩
  · rw [if_neg h]; exact ⟨_, _, _, _, _, rfl⟩
theorem dO_end (sl : Int) (q : Nat) (h : sl ≤ 255) : ∃ r c x s k, dO sl 260 q = dv r c false x s k ∧ decide (r = idX) = decide (q = 1) := by
  unfold dO
  by_cases hq : q = 1
  · rw [if_pos hq, if_neg (by omega), decide_eq_true hq]
    exact ⟨_, _, _, _, _, rfl, decide_eq_true rfl⟩
  · rw [if_neg hq, decide_eq_false hq]
    exact ⟨_, _, _, _, _, rfl, idOX⟩
/-- All devices: the first p of them behind a slot, the others ahead of it. -/
def dP (sl t : Int) (Q : List Nat) (p : Nat) : List (List SV) := Q.zipIdx.map fun r => dO sl (if r.2 < p then t + 1 else t) r.1
theorem dP_len (sl t Q p) : (dP sl t Q p).length = Q.length := by simp [dP]
theorem dP_get {sl t Q p} {i q : Nat} (h : Q[i]? = some q) : (dP sl t Q p)[i]? = some (dO sl (if i < p then t + 1 else t) q) := by simp [dP, h]
theorem dP_set {sl t : Int} {Q : List Nat} {i q : Nat} (h : Q[i]? = some q) : (dP sl t Q i).set i (dO sl (t + 1) q) = dP sl t Q (i + 1) := by
  apply List.ext_getElem?
  intro j
  by_cases hj : i = j
  · subst hj
    have hl : i < Q.length := (List.getElem?_eq_some_iff.1 h).1
    rw [List.getElem?_set_self (by rw [dP_len]; exact hl), dP_get h, if_pos (by omega)]
  · rw [List.getElem?_set_ne hj]
    cases hq : Q[j]? with
    | none =>
      have : Q.length ≤ j := List.getElem?_eq_none_iff.1 hq
      rw [List.getElem?_eq_none (by rw [dP_len]; exact this), List.getElem?_eq_none (by rw [dP_len]; exact this)]
    | some q' =>
      rw [dP_get hq, dP_get hq]
      by_cases h2 : j < i
      · rw [if_pos h2, if_pos (by omega)]
      · rw [if_neg h2, if_neg (by omega)]
theorem dP_all {sl t : Int} {Q : List Nat} {n : Nat} (h : Q.length = n) : dP sl t Q n = dP sl (t + 1) Q 0 := by
  apply List.ext_getElem?
  intro j
  cases hq : Q[j]? with
  | none =>
    have : Q.length ≤ j := List.getElem?_eq_none_iff.1 hq
    rw [List.getElem?_eq_none (by rw [dP_len]; exact this), List.getElem?_eq_none (by rw [dP_len]; exact this)]
  | some q' =>
    have := (List.getElem?_eq_some_iff.1 hq).1
    rw [dP_get hq, dP_get hq, if_pos (by omega), if_neg (by omega)]
theorem dP_upd {sl t : Int} {Q : List Nat} {k q : Nat} (h : k < Q.length) : (dP sl t Q 0).set k (dO sl t q) = dP sl t (Q.set k q) 0 := by
  apply List.ext_getElem?
  intro j
  by_cases hj : k = j
  · subst hj
    rw [List.getElem?_set_self (by rw [dP_len]; exact h), dP_get (List.getElem?_set_self h), if_neg (by omega)]
  · rw [List.getElem?_set_ne hj]
    cases hq : Q[j]? with
    | none =>
      have : Q.length ≤ j := List.getElem?_eq_none_iff.1 hq
      rw [List.getElem?_eq_none (by rw [dP_len]; exact this), List.getElem?_eq_none (by rw [dP_len, List.length_set]; exact this)]
    | some q' =>
      rw [dP_get hq, dP_get (show (Q.set k q)[j]? = some q' by rw [List.getElem?_set_ne hj]; exact hq)]
def tdL (Q : List Nat) : List (List SV) := Q.map fun q => [.bool (decide (q = 1))]
theorem tdL_len (Q) : (tdL Q).length = Q.length := by simp [tdL]
theorem tdL_get {Q : List Nat} {i q : Nat} (h : Q[i]? = some q) : (tdL Q)[i]? = some [.bool (decide (q = 1))] := by simp [tdL, h]
theorem tdL_set (Q : List Nat) (k q : Nat) : (tdL Q).set k [.bool (decide (q = 1))] = tdL (Q.set k q) := by simp [tdL, List.map_set]
theorem tdL_same {Q : List Nat} {k q q' : Nat} (h : Q[k]? = some q) (hd : decide (q = 1) = decide (q' = 1)) : tdL (Q.set k q') = tdL Q := by
  rw [← tdL_set, ← hd]
  exact by
    apply List.ext_getElem?
    intro j
    by_cases hj : k = j
    · subst hj
      rw [List.getElem?_set_self (by rw [tdL_len]; exact (List.getElem?_eq_some_iff.1 h).1), tdL_get h]
    · rw [List.getElem?_set_ne hj]
/-- The deliveries of one slot, one by one. -/
def dy1 (n : Nat) (sl t : Int) (Q : List Nat) (r : Dl) : List Nat := Q.set (r.1.tmod n).toNat (tq sl t ((Q[(r.1.tmod n).toNat]?).getD 0))
def dyN (n : Nat) (sl t : Int) (Q : List Nat) (R : List Dl) (i : Nat) : List Nat := (R.take i).foldl (dy1 n sl t) Q
theorem dy1_len (n sl t Q r) : (dy1 n sl t Q r).length = Q.length := by simp [dy1]
theorem dyN_len (n : Nat) (sl t : Int) (R : List Dl) (i : Nat) : ∀ Q : List Nat, (dyN n sl t Q R i).length = Q.length := by
  unfold dyN
  generalize R.take i = L
  induction L with
  | nil => intro Q; rfl
  | cons r L ih => intro Q; rw [List.foldl_cons, ih, dy1_len]
theorem dyN_suc {n : Nat} {sl t : Int} {Q : List Nat} {R : List Dl} {i : Nat} {r : Dl} (h : R[i]? = some r) : dyN n sl t Q R (i + 1) = dy1 n sl t (dyN n sl t Q R i) r := by
  unfold dyN
  rw [List.take_add_one, h, List.foldl_append]
  rfl
/-- How many deliveries come in this slot. -/
def cnt (t : Int) (R : List Dl) : Nat := (R.takeWhile fun r => decide (r.2.2 = t)).length
theorem cnt_le (t R) : cnt t R ≤ R.length := by
  unfold cnt
  exact (List.takeWhile_sublist _).length_le
theorem cnt_in : ∀ (t : Int) (R : List Dl) (i : Nat), i < cnt t R → ∃ r, R[i]? = some r ∧ r.2.2 = t
  | t, [], i, h => by simp [cnt] at h
  | t, r :: R, i, h => by
    unfold cnt at h
    by_cases hr : r.2.2 = t
    · rw [List.takeWhile_cons_of_pos (by simpa using hr)] at h
      cases i with
      | zero => exact ⟨r, rfl, hr⟩
      | succ i => exact cnt_in t R i (by unfold cnt; simpa using h)
    · rw [List.takeWhile_cons_of_neg (by simpa using hr)] at h
      simp at h
theorem cnt_end : ∀ (t : Int) (R : List Dl), cnt t R = R.length ∨ ∃ r, R[cnt t R]? = some r ∧ r.2.2 ≠ t
  | t, [] => .inl rfl
  | t, r :: R => by
    unfold cnt
    by_cases hr : r.2.2 = t
    · rw [List.takeWhile_cons_of_pos (by simpa using hr)]
      rcases cnt_end t R with h | ⟨r', h1, h2⟩
      · left; unfold cnt at h; simp [h]
      · right; refine ⟨r', ?_, h2⟩
        unfold cnt at h1
        simpa using h1
    · rw [List.takeWhile_cons_of_neg (by simpa using hr)]
      exact .inr ⟨r, rfl, hr⟩
/-- The state ahead of a slot. -/
def tog (n : Nat) (sl : Int) (M : List Dl) : Nat → List Nat × List Dl
  | 0 => (List.replicate n 0, M)
  | t + 1 => (dyN n sl t (tog n sl M t).1 (tog n sl M t).2 (cnt t (tog n sl M t).2), (tog n sl M t).2.drop (cnt t (tog n sl M t).2))
theorem tog_len (n : Nat) (sl : Int) (M : List Dl) : ∀ t, (tog n sl M t).1.length = n
  | 0 => by simp [tog]
  | t + 1 => by rw [tog, dyN_len, tog_len n sl M t]
theorem tog_sub (n : Nat) (sl : Int) (M : List Dl) : ∀ t, (tog n sl M t).2.length ≤ M.length ∧ ∀ r ∈ (tog n sl M t).2, r ∈ M
  | 0 => ⟨Nat.le_refl _, fun r h => h⟩
  | t + 1 => by
    obtain ⟨h1, h2⟩ := tog_sub n sl M t
    rw [tog]
    refine ⟨?_, fun r hr => h2 r (List.mem_of_mem_drop hr)⟩
    simp only [List.length_drop]
    omega
end Go.Sh
namespace Go.Sh
set_option linter.unusedSectionVars false
set_option linter.unnecessarySimpa false
set_option linter.unusedVariables false
set_option linter.unusedSimpArgs false
set_option maxRecDepth 100000
set_option maxHeartbeats 4000000
theorem dS_of : ∀ {L : List (List SV)}, (∀ q ∈ L, FitsL [.int .u8, .int .u8, .int .u8] q) → ∃ M : List Dl, L = dS M ∧ ∀ r ∈ M, (0 ≤ r.1 ∧ r.1 ≤ 255) ∧ (0 ≤ r.2.1 ∧ r.2.1 ≤ 255) ∧ (0 ≤ r.2.2 ∧ r.2.2 ≤ 255)
  | [], _ => ⟨[], rfl, by simp⟩
  | c :: L, h => by
    obtain ⟨M, rfl, hM⟩ := dS_of (L := L) (fun q hq => h q (by simp [hq]))
    obtain ⟨a, r, rfl, ha, h1⟩ := fitsL_i (h c (by simp))
    obtain ⟨b, r, rfl, hb, h1⟩ := fitsL_i h1
    obtain ⟨d, r, rfl, hd, h1⟩ := fitsL_i h1
    obtain rfl := fitsL_nil' h1
    refine ⟨(a, b, d) :: M, rfl, fun r hr => ?_⟩
    rcases List.mem_cons.1 hr with rfl | hr
    · exact ⟨u8_wf ha, u8_wf hb, u8_wf hd⟩
    · exact hM r hr
abbrev dlD : Bool × List DT := (false, [.lst [.int .u8, .int .u8, .int .u8]])
theorem law9 (xs : List SV) (h : FitsAll [(false, [.int .u8]), (false, [.int .u8]), dlD] xs) : ∃ m, call1 T m (.fn 9) xs heap0 = some (.bool true, heap0) := by
  obtain ⟨x1, r1, rfl, h1, h⟩ := fitsAll_cons h
  obtain ⟨x2, r2, rfl, h2, h⟩ := fitsAll_cons h
  obtain ⟨x3, r3, rfl, h3, h⟩ := fitsAll_cons h
  cases fitsAll_nil h
  obtain ⟨a, rfl, ha⟩ := fits_int (fitsA_one h1)
  obtain ⟨b, rfl, hb⟩ := fits_int (fitsA_one h2)
  obtain ⟨L, f, rfl, hL, q⟩ := fits_lst (fitsA_one h3)
  obtain ⟨M, rfl, hM⟩ := dS_of q
  exact ⟨107, s9 a b M f (u8_wf ha) (u8_wf hb) hM⟩
end Go.Sh
namespace Go.Sh
set_option linter.unusedSectionVars false
set_option linter.unnecessarySimpa false
set_option linter.unusedVariables false
set_option linter.unusedSimpArgs false
set_option maxRecDepth 100000
set_option maxHeartbeats 4000000
theorem mkT (H : Heap) (m : Nat) (h : m ≤ 1000) : smake 1 [.bool false] 1 H (.int .i64 m) (.int .i64 m) = some (.slc H.bl.length 0 0 m, hnew H (.arr 0 1 (List.replicate m [.bool false]) true)) := by
  have h1 : decide ((m : Int) * ((1 : Nat) : Int) ≤ (mostLen : Int)) = true := decide_eq_true (by have : (mostLen : Int) = 1099511627776 := rfl; omega)
  have h2 : decide ((0 : Int) ≤ (m : Int)) = true := decide_eq_true (by omega)
  have h3 : decide ((m : Int) ≤ (m : Int)) = true := decide_eq_true (by omega)
  simp only [smake, h1, h2, h3, Bool.and_self, cond_true, Int.toNat_natCast]
abbrev d0 : List SV := dv idO idX false ⟨#[]⟩ 0 0
def cqL (n i : Nat) : List (List SV) := (List.range n).map fun j => bif decide (j < i) then d0 else dvZ
theorem cqL_zero (n) : cqL n 0 = List.replicate n dvZ := by
  unfold cqL
  apply List.ext_getElem?
  intro j
  by_cases h : j < n <;> simp [h]
theorem cqL_len (n i) : (cqL n i).length = n := by simp [cqL]
theorem cqL_get {n i : Nat} (h : i < n) : (cqL n i)[i]? = some dvZ := by simp [cqL, h]
theorem cqL_set {n i : Nat} (h : i < n) : (cqL n i).set i d0 = cqL n (i + 1) := by
  apply List.ext_getElem?
  intro j
  by_cases hj : j = i
  · subst hj; simp [cqL, h]
  · rw [List.getElem?_set_ne (Ne.symm hj)]
    by_cases hm : j < n
    · simp [cqL, hm, show decide (j < i) = decide (j < i + 1) by rw [decide_eq_decide]; omega]
    · simp [cqL, hm]
theorem cqL_dP (n : Nat) (sl : Int) : cqL n n = dP sl 0 (List.replicate n 0) 0 := by
  apply List.ext_getElem?
  intro j
  by_cases h : j < n
  · rw [dP_get (q := 0) (by simp [h])]
    simp [cqL, h, dO]
  · rw [List.getElem?_eq_none (by rw [cqL_len]; omega), List.getElem?_eq_none (by rw [dP_len]; simp; omega)]
theorem tdL_zero (n : Nat) : List.replicate n [SV.bool false] = tdL (List.replicate n 0) := by simp [tdL]
theorem s8 (nd sl : Int) (M : List Dl) (f : Bool) (hnd : 0 ≤ nd ∧ nd ≤ 255) (hsl : 0 ≤ sl ∧ sl ≤ 255) (hd : ∀ r ∈ M, (0 ≤ r.1 ∧ r.1 ≤ 255) ∧ (0 ≤ r.2.1 ∧ r.2.1 ≤ 255) ∧ (0 ≤ r.2.2 ∧ r.2.2 ≤ 255)) :
    call1 T 107 (.fn 8) [.int .u8 nd, .int .u8 sl, .lst 3 (dS M) f] heap0 = some (.bool true, heap0) := by
  refine call_pure e8 (by rfl) ?_
  cases hx : decide (40 < (M.length : Int)) with
  | true => simp only [c8, heap0, go_sem, Int.cast_ofNat_Int, Int.reduceToNat, Bool.true_xor, Bool.false_xor, Bool.xor_true, Bool.xor_false, Nat.reduceAdd, Nat.reduceBEq, Nat.reduceLeDiff, Nat.reduceLT, Nat.reduceMul, Nat.reduceSub, Int.reduceEq, Int.reduceLT, Int.reduceLE, Int.reduceNeg, s10b, hx]
  | false =>
    cases h2 : decide (sl = 0) with
    | true => simp only [c8, heap0, go_sem, Int.cast_ofNat_Int, Int.reduceToNat, Bool.true_xor, Bool.false_xor, Bool.xor_true, Bool.xor_false, Nat.reduceAdd, Nat.reduceBEq, Nat.reduceLeDiff, Nat.reduceLT, Nat.reduceMul, Nat.reduceSub, Int.reduceEq, Int.reduceLT, Int.reduceLE, Int.reduceNeg, s10b, hx, h2]
    | false =>
      simp only [decide_eq_false_iff_not] at h2 hx
      have h2' : decide (sl = 0) = false := decide_eq_false h2
      have hx' : decide (40 < (M.length : Int)) = false := decide_eq_false hx
      have hs1 : 1 ≤ sl := by omega
      obtain ⟨n, hn⟩ : ∃ n : Nat, 1 + nd.tmod 8 = n := ⟨(1 + nd.tmod 8).toNat, by have := Int.tmod_nonneg (a := nd) 8 hnd.1; omega⟩
      have hn1 : 1 ≤ n ∧ n ≤ 8 := by
        have h3 := Int.tmod_nonneg (a := nd) 8 hnd.1
        have h4 := Int.tmod_lt_of_pos nd (show (0 : Int) < 8 by omega)
        omega
      have w1 : w64 (nd.tmod 8) = nd.tmod 8 := w64_id (by omega) (by omega)
      have w2 : w64 (1 + nd.tmod 8) = n := by rw [w64_id (by omega) (by omega)]; exact hn
      have h8 : decide ((8 : Int) = 0) = false := by rfl
      have ws : w64 sl = sl := w64_id (by omega) (by omega)
      have h12 : ∀ H, call1 T 106 (.fn 12) [.agg (dv idO ⟨#[]⟩ false ⟨#[]⟩ 0 0), .str idX] H = some (.tup [.agg d0, .int .i64 0], H) := fun H => cpO ▸ s12 102 H idO ⟨#[]⟩ false ⟨#[]⟩ 0 0 idX
      simp only [c8, heap0, go_sem, Int.cast_ofNat_Int, Int.reduceToNat, Bool.true_xor, Bool.false_xor, Bool.xor_true, Bool.xor_false, Nat.reduceAdd, Nat.reduceBEq, Nat.reduceLeDiff, Nat.reduceLT, Nat.reduceMul, Nat.reduceSub, Int.reduceEq, Int.reduceLT, Int.reduceLE, Int.reduceNeg, s10b, hx', h2', h8, w1, w2, mkD _ n (by omega), ← cqL_zero n]
      refine loop_rule (fun i => ([(1, .int .u8 sl), (2, .lst 3 (dS M) f), (7, .int .i64 n), (8, .slc 1 i 0 i), (9, .slc 0 0 0 n), (44, .int .i64 n), (45, .int .i64 i)], ⟨[.arr 0 6 (cqL n i) true, .arr i 1 (iS (rg i)) false], [], 0⟩)) (fun _ => True) n ?_ trivial ?_
      · simp only [go_sem, Int.cast_ofNat_Int, Int.reduceToNat, Bool.true_xor, Bool.false_xor, Bool.xor_true, Bool.xor_false, Nat.reduceAdd, Nat.reduceBEq, Nat.reduceLeDiff, Nat.reduceLT, Nat.reduceMul, Nat.reduceSub, Int.reduceEq, Int.reduceLT, Int.reduceLE, Int.reduceNeg] <;> rfl
      · intro i hi _
        rcases Nat.lt_or_ge i n with hlt | hge
        · have hs := w64_suc hlt (Nat.le_trans (show n ≤ 1000 by omega) mx)
          have gb := fun H => apB_grow 1 H 1 i i [[.int .i64 (i : Int)]] (iS (rg i)) (by rw [iS_len, rg_len])
          have r1 : decide ((i + 1) * 8 ≤ mostLen) = true := decide_eq_true (Nat.le_trans (show (i + 1) * 8 ≤ 1000 by omega) (by decide))
          simp only [go_sem, Int.cast_ofNat_Int, Int.reduceToNat, Bool.true_xor, Bool.false_xor, Bool.xor_true, Bool.xor_false, Nat.reduceAdd, Nat.reduceBEq, Nat.reduceLeDiff, Nat.reduceLT, Nat.reduceMul, Nat.reduceSub, Int.reduceEq, Int.reduceLT, Int.reduceLE, Int.reduceNeg, hlt, hs, gb, r1, rg_suc, cqL_get hlt, s11x, s11o, h12, cqL_set hlt, cqL_len]
          exact ⟨trivial, rfl, trivial⟩
        · obtain rfl : i = n := by omega
          have hc : decide (i < i) = false := decide_eq_false (by omega)
          have hfz := fun H => fTB_whole H 1 i i 1 (iS (rg i)) false (by rw [iS_len, rg_len]) (Still.ints _).zero
          obtain ⟨M', hM', h40⟩ : ∃ M', Sub M' M ∧ ∀ H, call1 T 106 (.fn 40) [.lst 3 (dS M) f] H = some (.lst 3 (dS M') false, H) := by
            obtain ⟨M', q1, q2⟩ := s40 M f (by omega) heap0
            exact ⟨M', q1, fun H => pure_any e40 (by rfl) q2⟩
          simp only [go_sem, Int.cast_ofNat_Int, Int.reduceToNat, Bool.true_xor, Bool.false_xor, Bool.xor_true, Bool.xor_false, Nat.reduceAdd, Nat.reduceBEq, Nat.reduceLeDiff, Nat.reduceLT, Nat.reduceMul, Nat.reduceSub, Int.reduceEq, Int.reduceLT, Int.reduceLE, Int.reduceNeg, hc, hfz, s11x, ws, mkT _ i (by omega), h40]
          clear hfz h12 h40
          refine loop_rule (fun t => ([(1, .int .u8 sl), (7, .int .i64 i), (9, .slc 0 0 0 i), (13, .ptr 2 0 0 0), (14, .slc 3 0 0 i), (15, .lst 3 (dS (tog i sl M' t).2) false), (75, .int .i64 t)],
            ⟨[.arr 0 6 (dP sl t (tog i sl M' t).1 0) true, .dead, .box (cm 1 1 sl idX 1 (rg i) false), .arr 0 1 (tdL (tog i sl M' t).1) true], [], 0⟩)) (fun _ => True) 260 ?_ trivial ?_
          · have e1 : cqL i i = dP sl 0 (tog i sl M' 0).1 0 := cqL_dP i sl
            have e2 : (tog i sl M' 0).2 = M' := rfl
            simp only [go_sem, Int.cast_ofNat_Int, Int.reduceToNat, Bool.true_xor, Bool.false_xor, Bool.xor_true, Bool.xor_false, Nat.reduceAdd, Nat.reduceBEq, Nat.reduceLeDiff, Nat.reduceLT, Nat.reduceMul, Nat.reduceSub, Int.reduceEq, Int.reduceLT, Int.reduceLE, Int.reduceNeg, e1, tdL_zero, e2] <;> rfl
          · intro t ht _
            have hQ := tog_len i sl M' t
            have hR := tog_sub i sl M' t
            have hstep : tog i sl M' (t + 1) = (dyN i sl t (tog i sl M' t).1 (tog i sl M' t).2 (cnt t (tog i sl M' t).2), (tog i sl M' t).2.drop (cnt t (tog i sl M' t).2)) := rfl
            obtain ⟨Q, hQd⟩ : ∃ Q, (tog i sl M' t).1 = Q := ⟨_, rfl⟩
            obtain ⟨R, hRd⟩ : ∃ R, (tog i sl M' t).2 = R := ⟨_, rfl⟩
            rw [hQd] at hQ hstep ⊢
            rw [hRd] at hR hstep ⊢
            rcases Nat.lt_or_ge t 260 with htl | htg
            · have hx1 : decide ((t : Int) < 260) = true := decide_eq_true (by omega)
              have hst : w64 ((t : Int) + 1) = ((t + 1 : Nat) : Int) := by rw [w64_id (by omega) (by omega)]; omega
              have hi0 : decide ((i : Int) = 0) = false := decide_eq_false (by omega)
              simp only [go_sem, Int.cast_ofNat_Int, Int.reduceToNat, Bool.true_xor, Bool.false_xor, Bool.xor_true, Bool.xor_false, Nat.reduceAdd, Nat.reduceBEq, Nat.reduceLeDiff, Nat.reduceLT, Nat.reduceMul, Nat.reduceSub, Int.reduceEq, Int.reduceLT, Int.reduceLE, Int.reduceNeg, hx1, dP_len, hQ]
              refine loop_post (fun p => ([(1, .int .u8 sl), (7, .int .i64 i), (9, .slc 0 0 0 i), (13, .ptr 2 0 0 0), (14, .slc 3 0 0 i), (15, .lst 3 (dS R) false), (16, .int .i64 t), (75, .int .i64 t), (79, .int .i64 i), (80, .int .i64 p)],
                ⟨[.arr 0 6 (dP sl t Q p) true, .dead, .box (cm 1 1 sl idX 1 (rg i) false), .arr 0 1 (tdL Q) true], [], 0⟩)) (fun _ => True) i ?_ trivial ?_
              · simp only [go_sem, Int.cast_ofNat_Int, Int.reduceToNat, Bool.true_xor, Bool.false_xor, Bool.xor_true, Bool.xor_false, Nat.reduceAdd, Nat.reduceBEq, Nat.reduceLeDiff, Nat.reduceLT, Nat.reduceMul, Nat.reduceSub, Int.reduceEq, Int.reduceLT, Int.reduceLE, Int.reduceNeg] <;> rfl
              · intro p hp _
                rcases Nat.lt_or_ge p i with hlt | hge
                · have hs := w64_suc hlt (Nat.le_trans (show i ≤ 1000 by omega) mx)
                  obtain ⟨q, hq⟩ := getS (show p < Q.length by omega)
                  have hg : (dP sl t Q p)[p]? = some (dO sl t q) := by rw [dP_get hq, if_neg (by omega)]
                  have htd := tdL_get hq
                  have h15 := step_O (sl := sl) (t := t) q hs1 hsl.2 (by omega) (by omega)
                  have hset := dP_set (sl := sl) (t := (t : Int)) hq
                  have dr := dOr sl ((t : Int) + 1) q
                  have tk : ∀ t' : Int, List.take 6 (dO sl t' q) = dO sl t' q := fun t' => List.take_of_length_le (by rw [dO6]; exact Nat.le_refl _)
                  have d6 : ∀ t' : Int, List.drop 6 (dO sl t' q) = [] := fun t' => List.drop_of_length_le (by rw [dO6]; exact Nat.le_refl _)
                  have hs5 : decide ((t : Int) = sl) = decide ((t : Int) = sl) := rfl
                  cases hq1 : decide (q = 1) <;> cases ht1 : decide ((t : Int) = sl) <;> rw [hq1, ht1] at h15 <;> rw [hq1] at htd <;> simp only [go_sem, Int.cast_ofNat_Int, Int.reduceToNat, Bool.true_xor, Bool.false_xor, Bool.xor_true, Bool.xor_false, Nat.reduceAdd, Nat.reduceBEq, Nat.reduceLeDiff, Nat.reduceLT, Nat.reduceMul, Nat.reduceSub, Int.reduceEq, Int.reduceLT, Int.reduceLE, Int.reduceNeg, hlt, hs, hg, htd, ht1, dP_len, tdL_len, hQ, dO6, Nat.le_refl, tk, d6, dr, h15, ws, List.append_nil, hset] <;> exact ⟨by first | trivial | omega, by first | trivial | rfl, trivial⟩
                · obtain rfl : p = i := by omega
                  have hc : decide (p < p) = false := decide_eq_false (by omega)
                  have hx2 : decide (p < p) = false := hc
                  rw [dP_all hQ]
                  simp only [go_sem, Int.cast_ofNat_Int, Int.reduceToNat, Bool.true_xor, Bool.false_xor, Bool.xor_true, Bool.xor_false, Nat.reduceAdd, Nat.reduceBEq, Nat.reduceLeDiff, Nat.reduceLT, Nat.reduceMul, Nat.reduceSub, Int.reduceEq, Int.reduceLT, Int.reduceLE, Int.reduceNeg, hc]
                  have hcl := cnt_le t R
                  refine loop_post (fun j => ([(1, .int .u8 sl), (7, .int .i64 p), (9, .slc 0 0 0 p), (13, .ptr 2 0 0 0), (14, .slc 3 0 0 p), (15, .lst 3 (dS (R.drop j)) false), (16, .int .i64 t), (75, .int .i64 t)],
                    ⟨[.arr 0 6 (dP sl ((t : Int) + 1) (dyN p sl t Q R j) 0) true, .dead, .box (cm 1 1 sl idX 1 (rg p) false), .arr 0 1 (tdL (dyN p sl t Q R j)) true], [], 0⟩)) (fun _ => True) (cnt t R) ?_ trivial ?_
                  · have e1 : dyN p sl t Q R 0 = Q := rfl
                    have e2 : R.drop 0 = R := rfl
                    simp only [go_sem, Int.cast_ofNat_Int, Int.reduceToNat, Bool.true_xor, Bool.false_xor, Bool.xor_true, Bool.xor_false, Nat.reduceAdd, Nat.reduceBEq, Nat.reduceLeDiff, Nat.reduceLT, Nat.reduceMul, Nat.reduceSub, Int.reduceEq, Int.reduceLT, Int.reduceLE, Int.reduceNeg, e1, e2] <;> rfl
                  · intro j hj _
                    have hQj : (dyN p sl t Q R j).length = p := by rw [dyN_len]; exact hQ
                    rcases Nat.lt_or_ge j (cnt t R) with hlt | hge
                    · obtain ⟨r, hr, hrt⟩ := cnt_in t R j hlt
                      have hsuc : dyN p sl t Q R (j + 1) = dy1 p sl t (dyN p sl t Q R j) r := dyN_suc hr
                      obtain ⟨⟨r0, r1⟩, _, r4, r5⟩ := hd r (hM'.2 r (hR.2 r (List.mem_of_getElem? hr)))
                      have hX0 : (R.drop j)[0]? = some r := by rw [List.getElem?_drop]; exact hr
                      have hXl : (dS (R.drop j)).length = R.length - j := by unfold dS; rw [List.length_map, List.length_drop]
                      have hjl : j < R.length := by omega
                      have hl0 : decide (0 < ((R.length - j : Nat) : Int)) = true := decide_eq_true (by omega)
                      have hl1 : decide (0 < R.length - j) = true := decide_eq_true (by omega)
                      have hl2 : decide ((1 : Int) ≤ ((R.length - j : Nat) : Int)) = true := decide_eq_true (by omega)
                      have hl3 : decide (1 ≤ R.length - j) = true := decide_eq_true (by omega)
                      have hlz : decide ((0 : Int) < ((R.length - j : Nat) : Int)) = true := decide_eq_true (by omega)
                      have hsl2 : List.drop 1 (List.take (R.length - j) (dS (R.drop j))) = dS (R.drop (j + 1)) := by
                        rw [List.take_of_length_le (by rw [hXl]; exact Nat.le_refl _)]
                        unfold dS
                        rw [← List.map_drop, List.drop_drop]
                      have wr1 : w64 r.1 = r.1 := w64_id (by omega) (by omega)
                      have wr2 : w64 r.2.2 = r.2.2 := w64_id (by omega) (by omega)
                      have hdt : decide (r.2.2 = (t : Int)) = true := decide_eq_true hrt
                      obtain ⟨k, hk⟩ : ∃ k : Nat, r.1.tmod p = k := ⟨(r.1.tmod p).toNat, by have := Int.tmod_nonneg (a := r.1) (p : Int) r0; omega⟩
                      have hkp : k < p := by have := Int.tmod_lt_of_pos r.1 (show (0 : Int) < p by omega); omega
                      obtain ⟨Qj, hQjd⟩ : ∃ Q', dyN p sl t Q R j = Q' := ⟨_, rfl⟩
                      rw [hQjd] at hsuc hQj ⊢
                      obtain ⟨q, hq⟩ := getS (show k < Qj.length by omega)
                      have hg : (dP sl ((t : Int) + 1) Qj 0)[k]? = some (dO sl ((t : Int) + 1) q) := by rw [dP_get hq, if_neg (by omega)]
                      have htd := tdL_get hq
                      have h14 := take_O (sl := sl) (t := t) (n := p) (k := k) q hn1.1 hn1.2 hkp hs1 hsl.2 (by omega) (by omega)
                      unfold dy1 at hsuc
                      rw [hk, Int.toNat_natCast, hq, Option.getD_some] at hsuc
                      have hset : (dP sl ((t : Int) + 1) Qj 0).set k (dO sl ((t : Int) + 1) (tq sl t q)) = dP sl ((t : Int) + 1) (Qj.set k (tq sl t q)) 0 := dP_upd (by omega)
                      have dr := dOr sl ((t : Int) + 1) (tq sl t q)
                      have tk : ∀ q' : Nat, List.take 6 (dO sl ((t : Int) + 1) q') = dO sl ((t : Int) + 1) q' := fun q' => List.take_of_length_le (by rw [dO6]; exact Nat.le_refl _)
                      have d6 : ∀ q' : Nat, List.drop 6 (dO sl ((t : Int) + 1) q') = [] := fun q' => List.drop_of_length_le (by rw [dO6]; exact Nat.le_refl _)
                      have h5 : (dO sl ((t : Int) + 1) q)[5]? = some (.int .i64 (if q = 0 then 0 else 1)) := by
                        obtain ⟨r', c', a', x', s', h⟩ := dO_at sl ((t : Int) + 1) q
                        rw [h]; rfl
                      have wt : w64 (t : Int) = (t : Int) := w64_id (by omega) (by omega)
                      have hdt2 : decide ((t : Int) = (t : Int)) = true := decide_eq_true rfl
                      by_cases hq0 : q = 0
                      · subst hq0
                        have h5 : (dO sl ((t : Int) + 1) 0)[5]? = some (.int .i64 0) := h5
                        have htd : (tdL Qj)[k]? = some [.bool false] := htd
                        by_cases hts : (t : Int) < sl
                        · have ea : tq sl t 0 = 1 := by unfold tq; rw [if_pos rfl, if_pos hts]
                          have eb : tqE sl t 0 = 0 := by unfold tqE; rw [if_pos rfl, if_pos hts]
                          rw [ea, eb] at h14
                          rw [ea] at hset hsuc dr
                          have hT : (tdL Qj).set k [.bool true] = tdL (Qj.set k 1) := tdL_set Qj k 1
                          have dts : decide ((t : Int) < sl) = true := decide_eq_true hts
                          simp only [go_sem, Int.cast_ofNat_Int, Int.reduceToNat, Bool.true_xor, Bool.false_xor, Bool.xor_true, Bool.xor_false, Nat.reduceAdd, Nat.reduceBEq, Nat.reduceLeDiff, Nat.reduceLT, Nat.reduceMul, Nat.reduceSub, Int.reduceEq, Int.reduceLT, Int.reduceLE, Int.reduceNeg, hXl, hl0, hl1, hl2, hl3, hlz, hsl2, hX0, dlen3, dtake3, dlR, wr1, wt, ws, hdt2, hi0, hk, hkp, hg, htd, h5, dP_len, tdL_len, hQj, dO6, Nat.le_refl, tk, d6, dr, h14, hrt, hset, List.append_nil, hT, dts, hsuc]
                          exact ⟨by first | trivial | omega, by first | trivial | rfl, trivial⟩
                        · have ea : tq sl t 0 = 2 := by unfold tq; rw [if_pos rfl, if_neg hts]
                          have eb : tqE sl t 0 = 15 := by unfold tqE; rw [if_pos rfl, if_neg hts]
                          rw [ea, eb] at h14
                          rw [ea] at hset hsuc dr
                          have hT : tdL (Qj.set k 2) = tdL Qj := tdL_same hq rfl
                          have dts : decide ((t : Int) < sl) = false := decide_eq_false hts
                          simp only [go_sem, Int.cast_ofNat_Int, Int.reduceToNat, Bool.true_xor, Bool.false_xor, Bool.xor_true, Bool.xor_false, Nat.reduceAdd, Nat.reduceBEq, Nat.reduceLeDiff, Nat.reduceLT, Nat.reduceMul, Nat.reduceSub, Int.reduceEq, Int.reduceLT, Int.reduceLE, Int.reduceNeg, hXl, hl0, hl1, hl2, hl3, hlz, hsl2, hX0, dlen3, dtake3, dlR, wr1, wt, ws, hdt2, hi0, hk, hkp, hg, htd, h5, dP_len, tdL_len, hQj, dO6, Nat.le_refl, tk, d6, dr, h14, hrt, hset, List.append_nil, hT, dts, hsuc]
                          exact ⟨by first | trivial | omega, by first | trivial | rfl, trivial⟩
                      · have ea : tq sl t q = q := by unfold tq; rw [if_neg hq0]
                        have eb : tqE sl t q = 23 := by unfold tqE; rw [if_neg hq0]
                        have h5 : (dO sl ((t : Int) + 1) q)[5]? = some (.int .i64 1) := by rw [h5, if_neg hq0]
                        rw [ea, eb] at h14
                        rw [ea] at hset hsuc dr
                        have hT : tdL (Qj.set k q) = tdL Qj := tdL_same hq rfl
                        cases dts : decide ((t : Int) < sl) <;> simp only [go_sem, Int.cast_ofNat_Int, Int.reduceToNat, Bool.true_xor, Bool.false_xor, Bool.xor_true, Bool.xor_false, Nat.reduceAdd, Nat.reduceBEq, Nat.reduceLeDiff, Nat.reduceLT, Nat.reduceMul, Nat.reduceSub, Int.reduceEq, Int.reduceLT, Int.reduceLE, Int.reduceNeg, hXl, hl0, hl1, hl2, hl3, hlz, hsl2, hX0, dlen3, dtake3, dlR, wr1, wt, ws, hdt2, hi0, hk, hkp, hg, htd, h5, dP_len, tdL_len, hQj, dO6, Nat.le_refl, tk, d6, dr, h14, hrt, hset, List.append_nil, hT, dts, hsuc] <;> exact ⟨by first | trivial | omega, by first | trivial | rfl, trivial⟩
                    · obtain rfl : j = cnt t R := by omega
                      rcases cnt_end t R with he | ⟨r, hr, hrt⟩
                      · have hXl : (dS (R.drop (cnt t R))).length = 0 := by unfold dS; rw [List.length_map, List.length_drop]; omega
                        simp only [go_sem, Int.cast_ofNat_Int, Int.reduceToNat, Bool.true_xor, Bool.false_xor, Bool.xor_true, Bool.xor_false, Nat.reduceAdd, Nat.reduceBEq, Nat.reduceLeDiff, Nat.reduceLT, Nat.reduceMul, Nat.reduceSub, Int.reduceEq, Int.reduceLT, Int.reduceLE, Int.reduceNeg, hXl, hst, hstep, Int.natCast_zero, Int.ofNat_zero]
                        exact ⟨by first | trivial | omega, by first | trivial | rfl, trivial⟩
                      · have hX0 : (R.drop (cnt t R))[0]? = some r := by rw [List.getElem?_drop]; exact hr
                        have hjl : cnt t R < R.length := (List.getElem?_eq_some_iff.1 hr).1
                        have hXl : (dS (R.drop (cnt t R))).length = R.length - cnt t R := by unfold dS; rw [List.length_map, List.length_drop]
                        obtain ⟨_, _, r4, r5⟩ := hd r (hM'.2 r (hR.2 r (List.mem_of_getElem? hr)))
                        have hl0 : decide (0 < ((R.length - cnt t R : Nat) : Int)) = true := decide_eq_true (by omega)
                        have hl1 : decide (0 < R.length - cnt t R) = true := decide_eq_true (by omega)
                        have wr2 : w64 r.2.2 = r.2.2 := w64_id (by omega) (by omega)
                        have hdt : decide (r.2.2 = (t : Int)) = false := decide_eq_false hrt
                        simp only [go_sem, Int.cast_ofNat_Int, Int.reduceToNat, Bool.true_xor, Bool.false_xor, Bool.xor_true, Bool.xor_false, Nat.reduceAdd, Nat.reduceBEq, Nat.reduceLeDiff, Nat.reduceLT, Nat.reduceMul, Nat.reduceSub, Int.reduceEq, Int.reduceLT, Int.reduceLE, Int.reduceNeg, hXl, hl0, hl1, hX0, dlen3, dtake3, dlR, wr2, hdt, hst, hstep]
                        exact ⟨by first | trivial | omega, by first | trivial | rfl, trivial⟩
            · clear hstep
              obtain rfl : t = 260 := by omega
              have hx1 : decide (((260 : Nat) : Int) < 260) = false := by decide
              simp only [go_sem, Int.cast_ofNat_Int, Int.reduceToNat, Bool.true_xor, Bool.false_xor, Bool.xor_true, Bool.xor_false, Nat.reduceAdd, Nat.reduceBEq, Nat.reduceLeDiff, Nat.reduceLT, Nat.reduceMul, Nat.reduceSub, Int.reduceEq, Int.reduceLT, Int.reduceLE, Int.reduceNeg, hx1, dP_len, hQ]
              refine loop_rule (fun p => ([(14, .slc 3 0 0 i), (171, .slc 0 0 0 i), (172, .int .i64 i), (173, .int .i64 p)],
                ⟨[.arr 0 6 (dP sl 260 Q 0) true, .dead, .box (cm 1 1 sl idX 1 (rg i) false), .arr 0 1 (tdL Q) true], [], 0⟩)) (fun _ => True) i ?_ trivial ?_
              · simp only [go_sem, Int.cast_ofNat_Int, Int.reduceToNat, Bool.true_xor, Bool.false_xor, Bool.xor_true, Bool.xor_false, Nat.reduceAdd, Nat.reduceBEq, Nat.reduceLeDiff, Nat.reduceLT, Nat.reduceMul, Nat.reduceSub, Int.reduceEq, Int.reduceLT, Int.reduceLE, Int.reduceNeg] <;> rfl
              · intro p hp _
                rcases Nat.lt_or_ge p i with hlt | hge
                · have hs := w64_suc hlt (Nat.le_trans (show i ≤ 1000 by omega) mx)
                  obtain ⟨q, hq⟩ := getS (show p < Q.length by omega)
                  have hg : (dP sl 260 Q 0)[p]? = some (dO sl 260 q) := by rw [dP_get hq, if_neg (by omega)]
                  have htd := tdL_get hq
                  obtain ⟨r', c', x', s', k', e1, e2⟩ := dO_end sl q hsl.2
                  rw [e1] at hg
                  cases hq1 : decide (q = 1) <;> rw [hq1] at htd e2 <;> simp only [go_sem, Int.cast_ofNat_Int, Int.reduceToNat, Bool.true_xor, Bool.false_xor, Bool.xor_true, Bool.xor_false, Nat.reduceAdd, Nat.reduceBEq, Nat.reduceLeDiff, Nat.reduceLT, Nat.reduceMul, Nat.reduceSub, Int.reduceEq, Int.reduceLT, Int.reduceLE, Int.reduceNeg, hlt, hs, hg, htd, dP_len, tdL_len, hQ, s11x, e2] <;> exact ⟨trivial, rfl, trivial⟩
                · obtain rfl : p = i := by omega
                  simp only [go_sem, Int.cast_ofNat_Int, Int.reduceToNat, Bool.true_xor, Bool.false_xor, Bool.xor_true, Bool.xor_false, Nat.reduceAdd, Nat.reduceBEq, Nat.reduceLeDiff, Nat.reduceLT, Nat.reduceMul, Nat.reduceSub, Int.reduceEq, Int.reduceLT, Int.reduceLE, Int.reduceNeg, hc]
theorem law8 (xs : List SV) (h : FitsAll [(false, [.int .u8]), (false, [.int .u8]), dlD] xs) : ∃ m, call1 T m (.fn 8) xs heap0 = some (.bool true, heap0) := by
  obtain ⟨x1, r1, rfl, h1, h⟩ := fitsAll_cons h
  obtain ⟨x2, r2, rfl, h2, h⟩ := fitsAll_cons h
  obtain ⟨x3, r3, rfl, h3, h⟩ := fitsAll_cons h
  cases fitsAll_nil h
  obtain ⟨a, rfl, ha⟩ := fits_int (fitsA_one h1)
  obtain ⟨b, rfl, hb⟩ := fits_int (fitsA_one h2)
  obtain ⟨L, f, rfl, hL, q⟩ := fits_lst (fitsA_one h3)
  obtain ⟨M, rfl, hM⟩ := dS_of q
  exact ⟨107, s8 a b M f (u8_wf ha) (u8_wf hb) hM⟩
end Go.Sh
