

import Derived.Test.YtpebbijbgnbnnaaC1
namespace Go.Sh
set_option linter.unusedSectionVars false
set_option linter.unnecessarySimpa false
set_option linter.unusedVariables false
set_option linter.unusedSimpArgs false
set_option maxRecDepth 100000
set_option maxHeartbeats 4000000
def cS (C : List (Int × Int)) : List (List SV) := C.map fun c => [.int .i64 c.1, .int .i64 c.2]
@[go_sem] theorem cS_len (C) : (cS C).length = C.length := by simp [cS]
@[go_sem] theorem cS_get (C) (i : Nat) : (cS C)[i]? = (C[i]?).map (fun c => [.int .i64 c.1, .int .i64 c.2]) := by simp [cS]
theorem cS_still (C) : Still (cS C) := by
  intro cs hcs c hc
  simp only [cS, List.mem_map] at hcs
  obtain ⟨b, _, rfl⟩ := hcs
  simp only [List.mem_cons, List.not_mem_nil, or_false] at hc
  rcases hc with rfl | rfl <;> exact ⟨by simp [SV.refs], fun N H d => by simp only [frz]⟩
theorem cS_set (C : List (Int × Int)) (i : Nat) (c : Int × Int) : (cS C).set i [.int .i64 c.1, .int .i64 c.2] = cS (C.set i c) := by simp [cS, List.map_set]
theorem iS_set (C : List Int) (i : Nat) (c : Int) : (iS C).set i [.int .i64 c] = iS (C.set i c) := by simp [iS, List.map_set]
abbrev lr (r : Int) (C : List (Int × Int)) (U D : List Int) (f g h : Bool) : SV := .agg [.int .i64 r, .lst 2 (cS C) f, .lst 1 (iS U) g, .lst 1 (iS D) h]
abbrev lz : SV := .agg [.int .i64 0, .lst 0 [] true, .lst 0 [] true, .lst 0 [] true]
/-! ### hold -/
def hB (n : Int) : Bool := decide (n = 0) || decide (n = 1) || decide (n = 2) || decide (n = 4) || decide (n = 8) || decide (n = 16) || decide (n = 32) || decide (n = 64)
theorem hold_and : ∀ n : Fin 65, decide (w64 ((BitVec.ofInt 64 (n.val : Int) &&& BitVec.ofInt 64 (w64 ((n.val : Int) - 1))).toNat : Int) = 0) = hB n.val := by decide +kernel
theorem s41 (n : Nat) (H : Heap) (x : Int) : call1 T (n + 1) (.fn 41) [.int .i64 x] H = some (.bool (hB x), H) := by
  refine call_pure e41 (by rfl) ?_
  cases h1 : decide (0 ≤ x) with
  | false =>
    have : hB x = false := by simp only [decide_eq_false_iff_not] at h1; simp [hB]; omega
    simp only [c41, heap0, go_sem, Int.cast_ofNat_Int, Int.reduceToNat, Bool.true_xor, Bool.false_xor, Bool.xor_true, Bool.xor_false, Nat.reduceAdd, Nat.reduceBEq, Nat.reduceLeDiff, Nat.reduceLT, Nat.reduceMul, Nat.reduceSub, Int.reduceEq, Int.reduceLT, Int.reduceLE, Int.reduceNeg, h1, this]
  | true =>
    cases h2 : decide (x ≤ 64) with
    | false =>
      have : hB x = false := by simp only [decide_eq_false_iff_not] at h2; simp [hB]; omega
      simp only [c41, heap0, go_sem, Int.cast_ofNat_Int, Int.reduceToNat, Bool.true_xor, Bool.false_xor, Bool.xor_true, Bool.xor_false, Nat.reduceAdd, Nat.reduceBEq, Nat.reduceLeDiff, Nat.reduceLT, Nat.reduceMul, Nat.reduceSub, Int.reduceEq, Int.reduceLT, Int.reduceLE, Int.reduceNeg, h1, h2, this]
    | true =>
      have h1' := of_decide_eq_true h1
      have h2' := of_decide_eq_true h2
      have := hold_and ⟨x.toNat, by omega⟩
      rw [show ((⟨x.toNat, by omega⟩ : Fin 65).val : Int) = x from Int.toNat_of_nonneg h1'] at this
      simp only [c41, heap0, go_sem, Int.cast_ofNat_Int, Int.reduceToNat, Bool.true_xor, Bool.false_xor, Bool.xor_true, Bool.xor_false, Nat.reduceAdd, Nat.reduceBEq, Nat.reduceLeDiff, Nat.reduceLT, Nat.reduceMul, Nat.reduceSub, Int.reduceEq, Int.reduceLT, Int.reduceLE, Int.reduceNeg, h1, h2]
      exact congrArg (fun b => some (SV.bool b)) this
theorem s51 (n : Nat) (H : Heap) (x : Int) : call1 T (n + 1) (.fn 51) [.int .i64 x] H = some (.bool (hB x), H) := by
  refine call_pure e51 (by rfl) ?_
  simp only [c51, heap0, go_sem, Int.cast_ofNat_Int, Int.reduceToNat, Bool.true_xor, Bool.false_xor, Bool.xor_true, Bool.xor_false, Nat.reduceAdd, Nat.reduceBEq, Nat.reduceLeDiff, Nat.reduceLT, Nat.reduceMul, Nat.reduceSub, Int.reduceEq, Int.reduceLT, Int.reduceLE, Int.reduceNeg]
  refine loop_rule (fun i => ([(0, .int .i64 x), (3, .int .i64 (2 ^ i))], ⟨[], [], 0⟩)) (fun i => ∀ j, j < i → x ≠ 2 ^ j) 7 (by simp only [go_sem, Int.cast_ofNat_Int, Int.reduceToNat, Bool.true_xor, Bool.false_xor, Bool.xor_true, Bool.xor_false, Nat.reduceAdd, Nat.reduceBEq, Nat.reduceLeDiff, Nat.reduceLT, Nat.reduceMul, Nat.reduceSub, Int.reduceEq, Int.reduceLT, Int.reduceLE, Int.reduceNeg]; rfl) (fun j h => by omega) ?_
  intro i hi hP
  rcases Nat.lt_or_ge i 7 with hlt | hge
  · have hp : ∀ i : Nat, i < 7 → ((2 : Int) ^ i ≤ 64) ∧ w64 (2 * 2 ^ i) = (2 : Int) ^ (i + 1) ∧ hB (2 ^ i) = true := by decide +kernel
    obtain ⟨p1, p2, p3⟩ := hp i hlt
    simp only [go_sem, Int.cast_ofNat_Int, Int.reduceToNat, Bool.true_xor, Bool.false_xor, Bool.xor_true, Bool.xor_false, Nat.reduceAdd, Nat.reduceBEq, Nat.reduceLeDiff, Nat.reduceLT, Nat.reduceMul, Nat.reduceSub, Int.reduceEq, Int.reduceLT, Int.reduceLE, Int.reduceNeg, p1, p2]
    with_reducible refine post_fork (fun hx => ?_) (fun hx => ?_)
    · have hx := of_decide_eq_true hx
      subst hx
      simp only [go_sem, Int.cast_ofNat_Int, Int.reduceToNat, Bool.true_xor, Bool.false_xor, Bool.xor_true, Bool.xor_false, Nat.reduceAdd, Nat.reduceBEq, Nat.reduceLeDiff, Nat.reduceLT, Nat.reduceMul, Nat.reduceSub, Int.reduceEq, Int.reduceLT, Int.reduceLE, Int.reduceNeg, p3]
    · have hx := of_decide_eq_false hx
      simp only [go_sem, Int.cast_ofNat_Int, Int.reduceToNat, Bool.true_xor, Bool.false_xor, Bool.xor_true, Bool.xor_false, Nat.reduceAdd, Nat.reduceBEq, Nat.reduceLeDiff, Nat.reduceLT, Nat.reduceMul, Nat.reduceSub, Int.reduceEq, Int.reduceLT, Int.reduceLE, Int.reduceNeg, hlt, p2]
      refine ⟨trivial, by first | trivial | rfl, fun j hj => ?_⟩
      rcases Nat.lt_or_ge j i with h3 | h3
      · exact hP j h3
      · obtain rfl : j = i := by omega
        exact hx
  · obtain rfl : i = 7 := by omega
    have hb : decide (x = 0) = hB x := by
      have q0 := hP 0 (by omega)
      have q1 := hP 1 (by omega)
      have q2 := hP 2 (by omega)
      have q3 := hP 3 (by omega)
      have q4 := hP 4 (by omega)
      have q5 := hP 5 (by omega)
      have q6 := hP 6 (by omega)
      simp only [Int.reducePow] at q0 q1 q2 q3 q4 q5 q6
      simp [hB, q1, q2, q3, q4, q5, q6]
      intro h; exact absurd h q0
    simp only [go_sem, Int.cast_ofNat_Int, Int.reduceToNat, Bool.true_xor, Bool.false_xor, Bool.xor_true, Bool.xor_false, Nat.reduceAdd, Nat.reduceBEq, Nat.reduceLeDiff, Nat.reduceLT, Nat.reduceMul, Nat.reduceSub, Int.reduceEq, Int.reduceLT, Int.reduceLE, Int.reduceNeg, show decide ((2 : Int) ^ 7 ≤ 64) = false from by decide, hb]
/-! ### Valid -/
def okAt (r : Int) (c : Int × Int) (u d : Int) : Bool := cB c.1 c.2 && hB d && !(!decide (u = 0) && (decide (u ≤ r) || decide (w64 (r + 64) < u) || decide (d = 0)))
def okI (r : Int) (C : List (Int × Int)) (U D : List Int) (i : Nat) : Bool := match C[i]?, U[i]?, D[i]? with
  | some c, some u, some d => okAt r c u d
  | _, _, _ => false
def lenB (r : Int) (C : List (Int × Int)) (U D : List Int) : Bool := decide (0 ≤ r) && decide (r ≤ 1073741824) && decide (C.length = 16) && decide (U.length = 16) && decide (D.length = 16)
def vB (r : Int) (C : List (Int × Int)) (U D : List Int) : Bool := lenB r C U D && (List.range 16).all (okI r C U D)
def vI (r : Int) (C : List (Int × Int)) (U D : List Int) : Int := bif vB r C U D then 0 else 1
@[go_sem] theorem vI0 (r C U D) : decide (vI r C U D = 0) = vB r C U D := by unfold vI; cases vB r C U D <;> rfl
theorem vI_no {r C U D} (h : vB r C U D = false) : vI r C U D = 1 := by simp only [vI, h, cond_false]
theorem vI_yes {r C U D} (h : vB r C U D = true) : vI r C U D = 0 := by simp only [vI, h, cond_true]
theorem vB_at {r C U D} {i : Nat} (hi : i < 16) (h : okI r C U D i = false) : vB r C U D = false := by
  simp only [vB, Bool.and_eq_false_imp]
  intro _
  rw [List.all_eq_false]
  exact ⟨i, by simp [hi], by simp [h]⟩
theorem vB_all {r C U D} (h1 : lenB r C U D = true) (h : ∀ i, i < 16 → okI r C U D i = true) : vB r C U D = true := by
  simp only [vB, h1, Bool.true_and, List.all_eq_true, List.mem_range]
  exact h
@[go_sem] theorem lenD (n : Nat) : decide ((n : Int) = 16) = decide (n = 16) := by
  rw [Bool.eq_iff_iff, decide_eq_true_eq, decide_eq_true_eq]; omega
theorem s12 (n : Nat) (H : Heap) (r C U D f g h) : call1 T (n + 2) (.fn 12) [lr r C U D f g h] H = some (.int .i64 (vI r C U D), H) := by
  refine call_pure e12 (by rfl) ?_
  cases hl : lenB r C U D with
  | false =>
    have hv : vI r C U D = 1 := vI_no (by simp only [vB, hl, Bool.false_and])
    simp only [c12, heap0, go_sem, Int.cast_ofNat_Int, Int.reduceToNat, Bool.true_xor, Bool.false_xor, Bool.xor_true, Bool.xor_false, Nat.reduceAdd, Nat.reduceBEq, Nat.reduceLeDiff, Nat.reduceLT, Nat.reduceMul, Nat.reduceSub, Int.reduceEq, Int.reduceLT, Int.reduceLE, Int.reduceNeg, hv, lenD]
    cases h1 : decide (r < 0) with
    | true => simp only [*, s24, s41, go_sem, Int.cast_ofNat_Int, Int.reduceToNat, Bool.true_xor, Bool.false_xor, Bool.xor_true, Bool.xor_false, Nat.reduceAdd, Nat.reduceBEq, Nat.reduceLeDiff, Nat.reduceLT, Nat.reduceMul, Nat.reduceSub, Int.reduceEq, Int.reduceLT, Int.reduceLE, Int.reduceNeg]
    | false =>
      cases h2 : decide (1073741824 < r) with
      | true => simp only [*, s24, s41, go_sem, Int.cast_ofNat_Int, Int.reduceToNat, Bool.true_xor, Bool.false_xor, Bool.xor_true, Bool.xor_false, Nat.reduceAdd, Nat.reduceBEq, Nat.reduceLeDiff, Nat.reduceLT, Nat.reduceMul, Nat.reduceSub, Int.reduceEq, Int.reduceLT, Int.reduceLE, Int.reduceNeg]
      | false =>
        cases h3 : decide (C.length = 16) with
        | false => simp only [*, s24, s41, go_sem, Int.cast_ofNat_Int, Int.reduceToNat, Bool.true_xor, Bool.false_xor, Bool.xor_true, Bool.xor_false, Nat.reduceAdd, Nat.reduceBEq, Nat.reduceLeDiff, Nat.reduceLT, Nat.reduceMul, Nat.reduceSub, Int.reduceEq, Int.reduceLT, Int.reduceLE, Int.reduceNeg]
        | true =>
          cases h4 : decide (U.length = 16) with
          | false => simp only [*, s24, s41, go_sem, Int.cast_ofNat_Int, Int.reduceToNat, Bool.true_xor, Bool.false_xor, Bool.xor_true, Bool.xor_false, Nat.reduceAdd, Nat.reduceBEq, Nat.reduceLeDiff, Nat.reduceLT, Nat.reduceMul, Nat.reduceSub, Int.reduceEq, Int.reduceLT, Int.reduceLE, Int.reduceNeg]
          | true =>
            have h5 : decide (D.length = 16) = false := by
              rw [Bool.eq_false_iff]; intro h5
              simp only [decide_eq_true_eq, decide_eq_false_iff_not] at h1 h2 h3 h4 h5
              simp only [lenB, Bool.and_eq_false_iff, decide_eq_false_iff_not] at hl
              omega
            simp only [*, s24, s41, go_sem, Int.cast_ofNat_Int, Int.reduceToNat, Bool.true_xor, Bool.false_xor, Bool.xor_true, Bool.xor_false, Nat.reduceAdd, Nat.reduceBEq, Nat.reduceLeDiff, Nat.reduceLT, Nat.reduceMul, Nat.reduceSub, Int.reduceEq, Int.reduceLT, Int.reduceLE, Int.reduceNeg, h5]
  | true =>
    have hl' := hl
    simp only [lenB, Bool.and_eq_true, decide_eq_true_eq] at hl'
    obtain ⟨⟨⟨⟨r0, r1⟩, hC⟩, hU⟩, hD⟩ := hl'
    have g0 : decide (r < 0) = false := decide_eq_false (by omega)
    have g1 : decide (1073741824 < r) = false := decide_eq_false (by omega)
    simp only [c12, heap0, go_sem, Int.cast_ofNat_Int, Int.reduceToNat, Bool.true_xor, Bool.false_xor, Bool.xor_true, Bool.xor_false, Nat.reduceAdd, Nat.reduceBEq, Nat.reduceLeDiff, Nat.reduceLT, Nat.reduceMul, Nat.reduceSub, Int.reduceEq, Int.reduceLT, Int.reduceLE, Int.reduceNeg, lenD, g0, g1, hC, hU, hD]
    refine loop_rule (fun i => ([(1, .ptr 0 0 0 0), (33, .lst 2 (cS C) f), (34, .int .i64 16), (35, .int .i64 i)], ⟨[.box [.int .i64 r, .lst 2 (cS C) f, .lst 1 (iS U) g, .lst 1 (iS D) h]], [], 0⟩))
      (fun i => ∀ j, j < i → okI r C U D j = true) 16 (by simp only [*, s24, s41, go_sem, Int.cast_ofNat_Int, Int.reduceToNat, Bool.true_xor, Bool.false_xor, Bool.xor_true, Bool.xor_false, Nat.reduceAdd, Nat.reduceBEq, Nat.reduceLeDiff, Nat.reduceLT, Nat.reduceMul, Nat.reduceSub, Int.reduceEq, Int.reduceLT, Int.reduceLE, Int.reduceNeg]; rfl) (fun j h => by omega) ?_
    intro i hi hP
    rcases Nat.lt_or_ge i 16 with hlt | hge
    · obtain ⟨c, hc⟩ := getS (l := C) (i := i) (by omega)
      obtain ⟨u, hu⟩ := getS (l := U) (i := i) (by omega)
      obtain ⟨d, hd⟩ := getS (l := D) (i := i) (by omega)
      have hok : okI r C U D i = okAt r c u d := by simp only [okI, hc, hu, hd]
      have hw : w64 ((i : Int) + 1) = ((i + 1 : Nat) : Int) := w64_suc (n := 16) hlt (by decide)
      have hlt' : decide ((i : Int) < 16) = true := decide_eq_true (by omega)
      have hlC : i < C.length := by omega
      have hlU : i < U.length := by omega
      have hlD : i < D.length := by omega
      have fin : okAt r c u d = false → vI r C U D = 1 := fun h => vI_no (vB_at hlt (by rw [hok, h]))
      have go : okAt r c u d = true → ∀ j, j < i + 1 → okI r C U D j = true := fun h j hj => by
        rcases Nat.lt_or_ge j i with h3 | h3
        · exact hP j h3
        · obtain rfl : j = i := by omega
          rw [hok, h]
      simp only [*, s24, s41, go_sem, Int.cast_ofNat_Int, Int.reduceToNat, Bool.true_xor, Bool.false_xor, Bool.xor_true, Bool.xor_false, Nat.reduceAdd, Nat.reduceBEq, Nat.reduceLeDiff, Nat.reduceLT, Nat.reduceMul, Nat.reduceSub, Int.reduceEq, Int.reduceLT, Int.reduceLE, Int.reduceNeg, hlt', hlC, hlU, hlD, hc, hu, hd, s24, s41, hw]
      cases k1 : cB c.1 c.2 with
      | false => simp only [*, s24, s41, go_sem, Int.cast_ofNat_Int, Int.reduceToNat, Bool.true_xor, Bool.false_xor, Bool.xor_true, Bool.xor_false, Nat.reduceAdd, Nat.reduceBEq, Nat.reduceLeDiff, Nat.reduceLT, Nat.reduceMul, Nat.reduceSub, Int.reduceEq, Int.reduceLT, Int.reduceLE, Int.reduceNeg, fin (by simp only [okAt, k1, Bool.false_and])]
      | true =>
        cases k2 : hB d with
        | false => simp only [*, s24, s41, go_sem, Int.cast_ofNat_Int, Int.reduceToNat, Bool.true_xor, Bool.false_xor, Bool.xor_true, Bool.xor_false, Nat.reduceAdd, Nat.reduceBEq, Nat.reduceLeDiff, Nat.reduceLT, Nat.reduceMul, Nat.reduceSub, Int.reduceEq, Int.reduceLT, Int.reduceLE, Int.reduceNeg, fin (by simp only [okAt, k1, k2, Bool.false_and, Bool.true_and])]
        | true =>
          cases k3 : decide (u = 0) with
          | true =>
            simp only [*, s24, s41, go_sem, Int.cast_ofNat_Int, Int.reduceToNat, Bool.true_xor, Bool.false_xor, Bool.xor_true, Bool.xor_false, Nat.reduceAdd, Nat.reduceBEq, Nat.reduceLeDiff, Nat.reduceLT, Nat.reduceMul, Nat.reduceSub, Int.reduceEq, Int.reduceLT, Int.reduceLE, Int.reduceNeg, hlt]
            exact ⟨trivial, by first | trivial | rfl, go (by simp only [okAt, k1, k2, k3]; rfl)⟩
          | false =>
            cases k4 : decide (u ≤ r) with
            | true => simp only [*, s24, s41, go_sem, Int.cast_ofNat_Int, Int.reduceToNat, Bool.true_xor, Bool.false_xor, Bool.xor_true, Bool.xor_false, Nat.reduceAdd, Nat.reduceBEq, Nat.reduceLeDiff, Nat.reduceLT, Nat.reduceMul, Nat.reduceSub, Int.reduceEq, Int.reduceLT, Int.reduceLE, Int.reduceNeg, fin (by simp only [okAt, k1, k2, k3, k4]; rfl)]
            | false =>
              cases k5 : decide (w64 (r + 64) < u) with
              | true => simp only [*, s24, s41, go_sem, Int.cast_ofNat_Int, Int.reduceToNat, Bool.true_xor, Bool.false_xor, Bool.xor_true, Bool.xor_false, Nat.reduceAdd, Nat.reduceBEq, Nat.reduceLeDiff, Nat.reduceLT, Nat.reduceMul, Nat.reduceSub, Int.reduceEq, Int.reduceLT, Int.reduceLE, Int.reduceNeg, k5, fin (by simp only [okAt, k1, k2, k3, k4, k5]; rfl)]
              | false =>
                cases k6 : decide (d = 0) with
                | true => simp only [*, s24, s41, go_sem, Int.cast_ofNat_Int, Int.reduceToNat, Bool.true_xor, Bool.false_xor, Bool.xor_true, Bool.xor_false, Nat.reduceAdd, Nat.reduceBEq, Nat.reduceLeDiff, Nat.reduceLT, Nat.reduceMul, Nat.reduceSub, Int.reduceEq, Int.reduceLT, Int.reduceLE, Int.reduceNeg, k5, hlD, hd, k6, fin (by simp only [okAt, k1, k2, k3, k4, k5, k6]; rfl)]
                | false =>
                  simp only [*, s24, s41, go_sem, Int.cast_ofNat_Int, Int.reduceToNat, Bool.true_xor, Bool.false_xor, Bool.xor_true, Bool.xor_false, Nat.reduceAdd, Nat.reduceBEq, Nat.reduceLeDiff, Nat.reduceLT, Nat.reduceMul, Nat.reduceSub, Int.reduceEq, Int.reduceLT, Int.reduceLE, Int.reduceNeg, k5, hlD, hd, k6, hlt]
                  exact ⟨trivial, by first | trivial | rfl, go (by simp only [okAt, k1, k2, k3, k4, k5, k6]; rfl)⟩
    · obtain rfl : i = 16 := by omega
      have hv : vI r C U D = 0 := vI_yes (vB_all hl (fun j hj => hP j hj))
      simp only [*, s24, s41, go_sem, Int.cast_ofNat_Int, Int.reduceToNat, Bool.true_xor, Bool.false_xor, Bool.xor_true, Bool.xor_false, Nat.reduceAdd, Nat.reduceBEq, Nat.reduceLeDiff, Nat.reduceLT, Nat.reduceMul, Nat.reduceSub, Int.reduceEq, Int.reduceLT, Int.reduceLE, Int.reduceNeg, hv, show decide (((16 : Nat) : Int) < 16) = false from by decide]
end Go.Sh
namespace Go.Sh
set_option linter.unusedSectionVars false
set_option linter.unnecessarySimpa false
set_option linter.unusedVariables false
set_option linter.unusedSimpArgs false
set_option maxRecDepth 100000
set_option maxHeartbeats 4000000
@[go_sem] theorem fz_cS (N H d v C e) : fzB N H (d + 1) v 0 C.length (some (.arr v 2 (cS C) e)) = some (.lst 2 (cS C) e) := (cS_still C).fz N H d v _ 2 e (cS_len C)
@[go_sem] theorem fz_iS (N H d v C e) : fzB N H (d + 1) v 0 C.length (some (.arr v 1 (iS C) e)) = some (.lst 1 (iS C) e) := (Still.ints C).fz N H d v _ 1 e iS_len
theorem fz_cS16 (N H d v C e) (h : C.length = 16) : fzB N H (d + 1) v 0 16 (some (.arr v 2 (cS C) e)) = some (.lst 2 (cS C) e) := by rw [← h]; exact fz_cS N H d v C e
theorem fz_iS16 (N H d v C e) (h : C.length = 16) : fzB N H (d + 1) v 0 16 (some (.arr v 1 (iS C) e)) = some (.lst 1 (iS C) e) := by rw [← h]; exact fz_iS N H d v C e
@[go_sem] theorem refs_cS (C) : SV.refs.refsL (cS C).flatten = 0 := (cS_still C).zero
@[go_sem] theorem refs_iS (C) : SV.refs.refsL (iS C).flatten = 0 := (Still.ints C).zero
def C0 : List (Int × Int) := List.replicate 16 (0, 0)
def Z0 : List Int := List.replicate 16 0
@[go_sem] theorem C0_len : C0.length = 16 := by rfl
@[go_sem] theorem Z0_len : Z0.length = 16 := by rfl
@[go_sem] theorem mkC0 (H : Heap) : smake 2 [.int .i64 0, .int .i64 0] 16 H (.int .i64 16) (.int .i64 16) = some (.slc H.bl.length 0 0 16, hnew H (.arr 0 2 (cS C0) true)) := by rfl
@[go_sem] theorem mkZ0 (H : Heap) : smake 1 [.int .i64 0] 8 H (.int .i64 16) (.int .i64 16) = some (.slc H.bl.length 0 0 16, hnew H (.arr 0 1 (iS Z0) true)) := by rfl
theorem cpB_full {esz : Nat} {H : Heap} {X L : List (List SV)} {b v n : Nat} {e : Bool} (hX : X.length = n) (hL : L.length = n) (h0 : SV.refs.refsL X.flatten = 0) : cpB esz H X b v 0 n (some (.arr v esz L e)) = (hset H b (.arr v esz X e) 0).map fun H => (.int .i64 n, H) := by
  subst hX
  simp only [cpB_arr, Nat.zero_add, hL, Nat.le_refl, decide_true, cond_true, h0, List.take_zero, List.nil_append, List.take_length, Nat.min_self]
  rw [List.drop_of_length_le (by omega), List.append_nil]
theorem few16 {n : Nat} (h : n ≤ 20) : decide (n * 16 ≤ mostLen) = true ∧ decide (n * 8 ≤ mostLen) = true := by
  simp only [decide_eq_true_eq]
  exact ⟨Nat.le_trans (show n * 16 ≤ 1000 by omega) (by decide), Nat.le_trans (show n * 8 ≤ 1000 by omega) (by decide)⟩
theorem s13 (n : Nat) (H : Heap) (r C U D f g h) (hC : C.length ≤ 20) (hU : U.length ≤ 20) (hD : D.length ≤ 20) : call1 T (n + 1) (.fn 13) [lr r C U D f g h] H = some (lr r C U D false false false, H) := by
  refine call_pure e13 (by rfl) ?_
  simp only [c13, heap0, go_sem, Int.cast_ofNat_Int, Int.reduceToNat, Bool.true_xor, Bool.false_xor, Bool.xor_true, Bool.xor_false, Nat.reduceAdd, Nat.reduceBEq, Nat.reduceLeDiff, Nat.reduceLT, Nat.reduceMul, Nat.reduceSub, Int.reduceEq, Int.reduceLT, Int.reduceLE, Int.reduceNeg, (few16 hC).1, (few16 hU).2, (few16 hD).2]
theorem s13z (H : Heap) : call1 T 40 (.fn 13) [lz] H = some (lr 0 [] [] [] false false false, H) := pure_any e13 (by rfl) (callB_up (T := T) 100 40 (.fn 13) [lz] heap0 (lr 0 [] [] [] false false false, heap0) (by kernel_rfl))
@[go_sem] theorem dmax {a b c d : Nat} : decide (max 0 (max a (max b (max c 0))) ≤ d) = (decide (a ≤ d) && decide (b ≤ d) && decide (c ≤ d)) := by
  rw [Bool.eq_iff_iff]; simp; omega
/-- A learner whose lists lie in blocks. -/
abbrev ls (r : Int) (b : Nat) (c u d : Nat) : SV := .agg [.int .i64 r, .slc b 0 0 c, .slc (b + 1) 0 0 u, .slc (b + 2) 0 0 d]
abbrev lsC (r : Int) (b : Nat) (c u d : Nat) : List SV := [.int .i64 r, .slc b 0 0 c, .slc (b + 1) 0 0 u, .slc (b + 2) 0 0 d]
theorem s13k (n : Nat) (x y z : SBlk) (es : List (Nat × Nat)) (r C U D f g h) (hC : C.length ≤ 20) (hU : U.length ≤ 20) (hD : D.length ≤ 20) : call1 T (n + 1) (.kfn 13) [lr r C U D f g h] ⟨[x, y, z], es, 0⟩ =
    some (ls r 5 C.length U.length D.length, ⟨[x, y, z, .box [.int .i64 r, .lst 2 (cS C) f, .lst 1 (iS U) g, .lst 1 (iS D) h], .box (lsC r 5 C.length U.length D.length), .arr 0 2 (cS C) false, .arr 0 1 (iS U) false, .arr 0 1 (iS D) false], es ++ [(4, max 0 (max 6 (max 7 (max 8 0))))], 0⟩) := by
  refine kcall_in e13 ?_
  simp only [c13, heap0, go_sem, Int.cast_ofNat_Int, Int.reduceToNat, Bool.true_xor, Bool.false_xor, Bool.xor_true, Bool.xor_false, Nat.reduceAdd, Nat.reduceBEq, Nat.reduceLeDiff, Nat.reduceLT, Nat.reduceMul, Nat.reduceSub, Int.reduceEq, Int.reduceLT, Int.reduceLE, Int.reduceNeg, (few16 hC).1, (few16 hU).2, (few16 hD).2]
theorem s13k2 (n : Nat) (x y : SBlk) (es : List (Nat × Nat)) (r C U D f g h) (hC : C.length ≤ 20) (hU : U.length ≤ 20) (hD : D.length ≤ 20) : call1 T (n + 1) (.kfn 13) [lr r C U D f g h] ⟨[x, y], es, 0⟩ =
    some (ls r 4 C.length U.length D.length, ⟨[x, y, .box [.int .i64 r, .lst 2 (cS C) f, .lst 1 (iS U) g, .lst 1 (iS D) h], .box (lsC r 4 C.length U.length D.length), .arr 0 2 (cS C) false, .arr 0 1 (iS U) false, .arr 0 1 (iS D) false], es ++ [(3, max 0 (max 5 (max 6 (max 7 0))))], 0⟩) := by
  refine kcall_in e13 ?_
  simp only [c13, heap0, go_sem, Int.cast_ofNat_Int, Int.reduceToNat, Bool.true_xor, Bool.false_xor, Bool.xor_true, Bool.xor_false, Nat.reduceAdd, Nat.reduceBEq, Nat.reduceLeDiff, Nat.reduceLT, Nat.reduceMul, Nat.reduceSub, Int.reduceEq, Int.reduceLT, Int.reduceLE, Int.reduceNeg, (few16 hC).1, (few16 hU).2, (few16 hD).2]
theorem s31 (n : Nat) (H : Heap) : call1 T (n + 1) (.fn 31) [] H = some (lr 0 C0 Z0 Z0 true true true, H) := by
  refine call_pure e31 (by rfl) ?_
  simp only [c31, heap0, go_sem, Int.cast_ofNat_Int, Int.reduceToNat, Bool.true_xor, Bool.false_xor, Bool.xor_true, Bool.xor_false, Nat.reduceAdd, Nat.reduceBEq, Nat.reduceLeDiff, Nat.reduceLT, Nat.reduceMul, Nat.reduceSub, Int.reduceEq, Int.reduceLT, Int.reduceLE, Int.reduceNeg, fz_cS16, fz_iS16]
theorem s32 (n : Nat) (H : Heap) : call1 T (n + 1) (.fn 32) [] H = some (lr 0 C0 Z0 Z0 true true true, H) := by
  refine call_pure e32 (by rfl) ?_
  simp only [c32, heap0, go_sem, Int.cast_ofNat_Int, Int.reduceToNat, Bool.true_xor, Bool.false_xor, Bool.xor_true, Bool.xor_false, Nat.reduceAdd, Nat.reduceBEq, Nat.reduceLeDiff, Nat.reduceLT, Nat.reduceMul, Nat.reduceSub, Int.reduceEq, Int.reduceLT, Int.reduceLE, Int.reduceNeg, fz_cS16, fz_iS16]
theorem s31k (n : Nat) (x y z u v : SBlk) (es : List (Nat × Nat)) : call1 T (n + 1) (.kfn 31) [] ⟨[x, y, z, u, v], es, 0⟩ =
    some (ls 0 6 16 16 16, ⟨[x, y, z, u, v, .box (lsC 0 6 16 16 16), .arr 0 2 (cS C0) true, .arr 0 1 (iS Z0) true, .arr 0 1 (iS Z0) true], es ++ [(5, max 0 (max 7 (max 8 (max 9 0))))], 0⟩) := by
  refine kcall_in e31 ?_
  simp only [c31, heap0, go_sem, Int.cast_ofNat_Int, Int.reduceToNat, Bool.true_xor, Bool.false_xor, Bool.xor_true, Bool.xor_false, Nat.reduceAdd, Nat.reduceBEq, Nat.reduceLeDiff, Nat.reduceLT, Nat.reduceMul, Nat.reduceSub, Int.reduceEq, Int.reduceLT, Int.reduceLE, Int.reduceNeg]
theorem tk_cS (C) (h : C.length = 16) : (cS C).take 16 = cS C := List.take_of_length_le (by rw [cS_len]; omega)
theorem tk_iS (C) (h : C.length = 16) : (iS C).take 16 = iS C := List.take_of_length_le (by rw [iS_len]; omega)
theorem dr_C0 : (cS C0).drop (min 16 16) = [] := rfl
theorem dr_Z0 : (iS Z0).drop (min 16 16) = [] := rfl
theorem s47k (n : Nat) (x y z : SBlk) (es : List (Nat × Nat)) (r C U D f g h) (hC : C.length = 16) (hU : U.length = 16) (hD : D.length = 16) : call1 T (n + 2) (.kfn 47) [lr r C U D f g h] ⟨[x, y, z], es, 0⟩ =
    some (ls r 6 16 16 16, ⟨[x, y, z, .box [.int .i64 r, .lst 2 (cS C) f, .lst 1 (iS U) g, .lst 1 (iS D) h], .box (lsC r 6 16 16 16), .box (lsC 0 6 16 16 16), .arr 0 2 (cS C) true, .arr 0 1 (iS U) true, .arr 0 1 (iS D) true, .box (lsC r 6 16 16 16)],
      es ++ [(4, max 0 (max 7 (max 8 (max 9 0)))), (5, max 0 (max 7 (max 8 (max 9 0))))], 0⟩) := by
  refine kcall_in e47 ?_
  simp only [c47, heap0, go_sem, Int.cast_ofNat_Int, Int.reduceToNat, Bool.true_xor, Bool.false_xor, Bool.xor_true, Bool.xor_false, Nat.reduceAdd, Nat.reduceBEq, Nat.reduceLeDiff, Nat.reduceLT, Nat.reduceMul, Nat.reduceSub, Int.reduceEq, Int.reduceLT, Int.reduceLE, Int.reduceNeg, s31k, hC, hU, hD, tk_cS _ hC, tk_iS _ hU, tk_iS _ hD, dr_C0, dr_Z0]
end Go.Sh
namespace Go.Sh
set_option linter.unusedSectionVars false
set_option linter.unnecessarySimpa false
set_option linter.unusedVariables false
set_option linter.unusedSimpArgs false
set_option maxRecDepth 100000
set_option maxHeartbeats 4000000
theorem ext_upto {A : Type} {L M : List A} (hl : L.length = M.length) {i : Nat} (hi : L.length ≤ i) (h : ∀ j : Nat, j < i → L[j]? = M[j]?) : L = M := List.ext_getElem? (fun j => by
  rcases Nat.lt_or_ge j L.length with h3 | h3
  · exact h j (by omega)
  · rw [List.getElem?_eq_none h3, List.getElem?_eq_none (by omega)])
theorem upto_suc {A : Type} {L M : List A} {i : Nat} (h : ∀ j : Nat, j < i → L[j]? = M[j]?) (hi : L[i]? = M[i]?) : ∀ j : Nat, j < i + 1 → L[j]? = M[j]? := fun j hj => by
  rcases Nat.lt_or_ge j i with h3 | h3
  · exact h j h3
  · obtain rfl : j = i := by omega
    exact hi
def smB (r : Int) (C : List (Int × Int)) (U D : List Int) (r' : Int) (C' : List (Int × Int)) (U' D' : List Int) : Bool := decide (r = r' ∧ C = C' ∧ U = U' ∧ D = D')
@[go_sem] theorem lenE (a b : Nat) : decide ((a : Int) = (b : Int)) = decide (a = b) := by
  rw [Bool.eq_iff_iff, decide_eq_true_eq, decide_eq_true_eq]; omega
theorem s30 (n : Nat) (H : Heap) (r C U D f g h r' C' U' D' f' g' h') (hC : C.length ≤ maxLen) (hU : U.length ≤ maxLen) (hD : D.length ≤ maxLen) :
    call1 T (n + 1) (.fn 30) [lr r C U D f g h, lr r' C' U' D' f' g' h'] H = some (.bool (smB r C U D r' C' U' D'), H) := by
  refine call_pure e30 (by rfl) ?_
  have fin : (r ≠ r' ∨ C ≠ C' ∨ U ≠ U' ∨ D ≠ D') → smB r C U D r' C' U' D' = false := fun h => by
    rw [smB, decide_eq_false_iff_not]; rintro ⟨rfl, rfl, rfl, rfl⟩; simp at h
  simp only [c30, heap0, go_sem, Int.cast_ofNat_Int, Int.reduceToNat, Bool.true_xor, Bool.false_xor, Bool.xor_true, Bool.xor_false, Nat.reduceAdd, Nat.reduceBEq, Nat.reduceLeDiff, Nat.reduceLT, Nat.reduceMul, Nat.reduceSub, Int.reduceEq, Int.reduceLT, Int.reduceLE, Int.reduceNeg, lenE]
  cases h1 : decide (r = r') with
  | false => simp only [go_sem, Int.cast_ofNat_Int, Int.reduceToNat, Bool.true_xor, Bool.false_xor, Bool.xor_true, Bool.xor_false, Nat.reduceAdd, Nat.reduceBEq, Nat.reduceLeDiff, Nat.reduceLT, Nat.reduceMul, Nat.reduceSub, Int.reduceEq, Int.reduceLT, Int.reduceLE, Int.reduceNeg, fin (.inl (of_decide_eq_false h1))]
  | true =>
    cases h2 : decide (C.length = C'.length) with
    | false => simp only [go_sem, Int.cast_ofNat_Int, Int.reduceToNat, Bool.true_xor, Bool.false_xor, Bool.xor_true, Bool.xor_false, Nat.reduceAdd, Nat.reduceBEq, Nat.reduceLeDiff, Nat.reduceLT, Nat.reduceMul, Nat.reduceSub, Int.reduceEq, Int.reduceLT, Int.reduceLE, Int.reduceNeg, h2, fin (.inr (.inl (fun h => by subst h; simp at h2)))]
    | true =>
      cases h3 : decide (U.length = U'.length) with
      | false => simp only [go_sem, Int.cast_ofNat_Int, Int.reduceToNat, Bool.true_xor, Bool.false_xor, Bool.xor_true, Bool.xor_false, Nat.reduceAdd, Nat.reduceBEq, Nat.reduceLeDiff, Nat.reduceLT, Nat.reduceMul, Nat.reduceSub, Int.reduceEq, Int.reduceLT, Int.reduceLE, Int.reduceNeg, h2, h3, fin (.inr (.inr (.inl (fun h => by subst h; simp at h3))))]
      | true =>
        cases h4 : decide (D.length = D'.length) with
        | false => simp only [go_sem, Int.cast_ofNat_Int, Int.reduceToNat, Bool.true_xor, Bool.false_xor, Bool.xor_true, Bool.xor_false, Nat.reduceAdd, Nat.reduceBEq, Nat.reduceLeDiff, Nat.reduceLT, Nat.reduceMul, Nat.reduceSub, Int.reduceEq, Int.reduceLT, Int.reduceLE, Int.reduceNeg, h2, h3, h4, fin (.inr (.inr (.inr (fun h => by subst h; simp at h4))))]
        | true =>
          have hr := of_decide_eq_true h1
          have lC := of_decide_eq_true h2
          have lU := of_decide_eq_true h3
          have lD := of_decide_eq_true h4
          simp only [go_sem, Int.cast_ofNat_Int, Int.reduceToNat, Bool.true_xor, Bool.false_xor, Bool.xor_true, Bool.xor_false, Nat.reduceAdd, Nat.reduceBEq, Nat.reduceLeDiff, Nat.reduceLT, Nat.reduceMul, Nat.reduceSub, Int.reduceEq, Int.reduceLT, Int.reduceLE, Int.reduceNeg, h2, h3, h4]
          refine loop_rule (fun i => ([(2, .ptr 0 0 0 0), (3, .ptr 1 0 0 0), (5, .int .i64 i)], ⟨[.box [.int .i64 r, .lst 2 (cS C) f, .lst 1 (iS U) g, .lst 1 (iS D) h], .box [.int .i64 r', .lst 2 (cS C') f', .lst 1 (iS U') g', .lst 1 (iS D') h']], [], 0⟩))
            (fun i => ∀ j : Nat, j < i → C[j]? = C'[j]?) C.length (by simp only [go_sem, Int.cast_ofNat_Int, Int.reduceToNat, Bool.true_xor, Bool.false_xor, Bool.xor_true, Bool.xor_false, Nat.reduceAdd, Nat.reduceBEq, Nat.reduceLeDiff, Nat.reduceLT, Nat.reduceMul, Nat.reduceSub, Int.reduceEq, Int.reduceLT, Int.reduceLE, Int.reduceNeg]; rfl) (fun j h => by omega) ?_
          intro i hi hP
          rcases Nat.lt_or_ge i C.length with hlt | hge
          · obtain ⟨c, hc⟩ := getS hlt
            obtain ⟨c', hc'⟩ := getS (l := C') (i := i) (by omega)
            have hlt2 : i < C'.length := by omega
            have hw := w64_suc hlt hC
            simp only [go_sem, Int.cast_ofNat_Int, Int.reduceToNat, Bool.true_xor, Bool.false_xor, Bool.xor_true, Bool.xor_false, Nat.reduceAdd, Nat.reduceBEq, Nat.reduceLeDiff, Nat.reduceLT, Nat.reduceMul, Nat.reduceSub, Int.reduceEq, Int.reduceLT, Int.reduceLE, Int.reduceNeg, hlt, hlt2, hc, hc']
            with_reducible refine post_fork (fun hx => ?_) (fun hx => ?_)
            · have hx : c = c' := by
                simp only [Bool.and_eq_true, decide_eq_true_eq] at hx
                exact Prod.ext hx.1 hx.2
              simp only [go_sem, Int.cast_ofNat_Int, Int.reduceToNat, Bool.true_xor, Bool.false_xor, Bool.xor_true, Bool.xor_false, Nat.reduceAdd, Nat.reduceBEq, Nat.reduceLeDiff, Nat.reduceLT, Nat.reduceMul, Nat.reduceSub, Int.reduceEq, Int.reduceLT, Int.reduceLE, Int.reduceNeg, hw, hlt]
              exact ⟨trivial, by first | trivial | rfl, upto_suc hP (by rw [hc, hc', hx])⟩
            · have : C ≠ C' := fun h => by subst h; rw [hc] at hc'; cases hc'; simp at hx
              simp only [go_sem, Int.cast_ofNat_Int, Int.reduceToNat, Bool.true_xor, Bool.false_xor, Bool.xor_true, Bool.xor_false, Nat.reduceAdd, Nat.reduceBEq, Nat.reduceLeDiff, Nat.reduceLT, Nat.reduceMul, Nat.reduceSub, Int.reduceEq, Int.reduceLT, Int.reduceLE, Int.reduceNeg, fin (.inr (.inl this))]
          have eC : C = C' := ext_upto lC hge hP
          have hlt : ¬ i < C.length := by omega
          simp only [go_sem, Int.cast_ofNat_Int, Int.reduceToNat, Bool.true_xor, Bool.false_xor, Bool.xor_true, Bool.xor_false, Nat.reduceAdd, Nat.reduceBEq, Nat.reduceLeDiff, Nat.reduceLT, Nat.reduceMul, Nat.reduceSub, Int.reduceEq, Int.reduceLT, Int.reduceLE, Int.reduceNeg, hlt]
          refine loop_rule (fun i => ([(2, .ptr 0 0 0 0), (3, .ptr 1 0 0 0), (6, .int .i64 i)], ⟨[.box [.int .i64 r, .lst 2 (cS C) f, .lst 1 (iS U) g, .lst 1 (iS D) h], .box [.int .i64 r', .lst 2 (cS C') f', .lst 1 (iS U') g', .lst 1 (iS D') h']], [], 0⟩))
            (fun i => ∀ j : Nat, j < i → U[j]? = U'[j]?) U.length (by simp only [go_sem, Int.cast_ofNat_Int, Int.reduceToNat, Bool.true_xor, Bool.false_xor, Bool.xor_true, Bool.xor_false, Nat.reduceAdd, Nat.reduceBEq, Nat.reduceLeDiff, Nat.reduceLT, Nat.reduceMul, Nat.reduceSub, Int.reduceEq, Int.reduceLT, Int.reduceLE, Int.reduceNeg]; rfl) (fun j h => by omega) ?_
          clear hP hi hge hlt i
          intro i hi hP
          rcases Nat.lt_or_ge i U.length with hlt | hge
          · obtain ⟨c, hc⟩ := getS hlt
            obtain ⟨c', hc'⟩ := getS (l := U') (i := i) (by omega)
            have hlt2 : i < U'.length := by omega
            have hw := w64_suc hlt hU
            simp only [go_sem, Int.cast_ofNat_Int, Int.reduceToNat, Bool.true_xor, Bool.false_xor, Bool.xor_true, Bool.xor_false, Nat.reduceAdd, Nat.reduceBEq, Nat.reduceLeDiff, Nat.reduceLT, Nat.reduceMul, Nat.reduceSub, Int.reduceEq, Int.reduceLT, Int.reduceLE, Int.reduceNeg, hlt, hlt2, hc, hc']
            with_reducible refine post_fork (fun hx => ?_) (fun hx => ?_)
            · have hx := of_decide_eq_true hx
              subst hx
              simp only [go_sem, Int.cast_ofNat_Int, Int.reduceToNat, Bool.true_xor, Bool.false_xor, Bool.xor_true, Bool.xor_false, Nat.reduceAdd, Nat.reduceBEq, Nat.reduceLeDiff, Nat.reduceLT, Nat.reduceMul, Nat.reduceSub, Int.reduceEq, Int.reduceLT, Int.reduceLE, Int.reduceNeg, hw, hlt]
              exact ⟨trivial, by first | trivial | rfl, upto_suc hP (by rw [hc, hc'])⟩
            · have : U ≠ U' := fun h => by subst h; rw [hc] at hc'; cases hc'; simp at hx
              simp only [go_sem, Int.cast_ofNat_Int, Int.reduceToNat, Bool.true_xor, Bool.false_xor, Bool.xor_true, Bool.xor_false, Nat.reduceAdd, Nat.reduceBEq, Nat.reduceLeDiff, Nat.reduceLT, Nat.reduceMul, Nat.reduceSub, Int.reduceEq, Int.reduceLT, Int.reduceLE, Int.reduceNeg, fin (.inr (.inr (.inl this)))]
          have eU : U = U' := ext_upto lU hge hP
          have hlt : ¬ i < U.length := by omega
          simp only [go_sem, Int.cast_ofNat_Int, Int.reduceToNat, Bool.true_xor, Bool.false_xor, Bool.xor_true, Bool.xor_false, Nat.reduceAdd, Nat.reduceBEq, Nat.reduceLeDiff, Nat.reduceLT, Nat.reduceMul, Nat.reduceSub, Int.reduceEq, Int.reduceLT, Int.reduceLE, Int.reduceNeg, hlt]
          refine loop_rule (fun i => ([(2, .ptr 0 0 0 0), (3, .ptr 1 0 0 0), (7, .int .i64 i)], ⟨[.box [.int .i64 r, .lst 2 (cS C) f, .lst 1 (iS U) g, .lst 1 (iS D) h], .box [.int .i64 r', .lst 2 (cS C') f', .lst 1 (iS U') g', .lst 1 (iS D') h']], [], 0⟩))
            (fun i => ∀ j : Nat, j < i → D[j]? = D'[j]?) D.length (by simp only [go_sem, Int.cast_ofNat_Int, Int.reduceToNat, Bool.true_xor, Bool.false_xor, Bool.xor_true, Bool.xor_false, Nat.reduceAdd, Nat.reduceBEq, Nat.reduceLeDiff, Nat.reduceLT, Nat.reduceMul, Nat.reduceSub, Int.reduceEq, Int.reduceLT, Int.reduceLE, Int.reduceNeg]; rfl) (fun j h => by omega) ?_
          clear hP hi hge hlt i
          intro i hi hP
          rcases Nat.lt_or_ge i D.length with hlt | hge
          · obtain ⟨c, hc⟩ := getS hlt
            obtain ⟨c', hc'⟩ := getS (l := D') (i := i) (by omega)
            have hlt2 : i < D'.length := by omega
            have hw := w64_suc hlt hD
            simp only [go_sem, Int.cast_ofNat_Int, Int.reduceToNat, Bool.true_xor, Bool.false_xor, Bool.xor_true, Bool.xor_false, Nat.reduceAdd, Nat.reduceBEq, Nat.reduceLeDiff, Nat.reduceLT, Nat.reduceMul, Nat.reduceSub, Int.reduceEq, Int.reduceLT, Int.reduceLE, Int.reduceNeg, hlt, hlt2, hc, hc']
            with_reducible refine post_fork (fun hx => ?_) (fun hx => ?_)
            · have hx := of_decide_eq_true hx
              subst hx
              simp only [go_sem, Int.cast_ofNat_Int, Int.reduceToNat, Bool.true_xor, Bool.false_xor, Bool.xor_true, Bool.xor_false, Nat.reduceAdd, Nat.reduceBEq, Nat.reduceLeDiff, Nat.reduceLT, Nat.reduceMul, Nat.reduceSub, Int.reduceEq, Int.reduceLT, Int.reduceLE, Int.reduceNeg, hw, hlt]
              exact ⟨trivial, by first | trivial | rfl, upto_suc hP (by rw [hc, hc'])⟩
            · have : D ≠ D' := fun h => by subst h; rw [hc] at hc'; cases hc'; simp at hx
              simp only [go_sem, Int.cast_ofNat_Int, Int.reduceToNat, Bool.true_xor, Bool.false_xor, Bool.xor_true, Bool.xor_false, Nat.reduceAdd, Nat.reduceBEq, Nat.reduceLeDiff, Nat.reduceLT, Nat.reduceMul, Nat.reduceSub, Int.reduceEq, Int.reduceLT, Int.reduceLE, Int.reduceNeg, fin (.inr (.inr (.inr this)))]
          have eD : D = D' := ext_upto lD hge hP
          have hlt : ¬ i < D.length := by omega
          have hs : smB r C U D r' C' U' D' = true := by rw [smB, decide_eq_true_eq]; exact ⟨hr, eC, eU, eD⟩
          simp only [go_sem, Int.cast_ofNat_Int, Int.reduceToNat, Bool.true_xor, Bool.false_xor, Bool.xor_true, Bool.xor_false, Nat.reduceAdd, Nat.reduceBEq, Nat.reduceLeDiff, Nat.reduceLT, Nat.reduceMul, Nat.reduceSub, Int.reduceEq, Int.reduceLT, Int.reduceLE, Int.reduceNeg, hlt, hs]
theorem s30z (H : Heap) : call1 T 40 (.fn 30) [lz, lz] H = some (.bool true, H) := pure_any e30 (by rfl) (callB_up (T := T) 100 40 (.fn 30) [lz, lz] heap0 (.bool true, heap0) (by kernel_rfl))
end Go.Sh
namespace Go.Sh
set_option linter.unusedSectionVars false
set_option linter.unnecessarySimpa false
set_option linter.unusedVariables false
set_option linter.unusedSimpArgs false
set_option maxRecDepth 100000
set_option maxHeartbeats 4000000
theorem s39 (n : Nat) (H : Heap) (r C U D f g h) : call1 T (n + 2) (.fn 39) [lr r C U D f g h] H = some (.int .i64 (vI r C U D), H) := by
  refine call_pure e39 (by rfl) ?_
  cases hl : lenB r C U D with
  | false =>
    have hv : vI r C U D = 1 := vI_no (by simp only [vB, hl, Bool.false_and])
    simp only [c39, heap0, go_sem, Int.cast_ofNat_Int, Int.reduceToNat, Bool.true_xor, Bool.false_xor, Bool.xor_true, Bool.xor_false, Nat.reduceAdd, Nat.reduceBEq, Nat.reduceLeDiff, Nat.reduceLT, Nat.reduceMul, Nat.reduceSub, Int.reduceEq, Int.reduceLT, Int.reduceLE, Int.reduceNeg, hv, lenD]
    cases h1 : decide (r < 0) with
    | true => simp only [*, s25, s51, go_sem, Int.cast_ofNat_Int, Int.reduceToNat, Bool.true_xor, Bool.false_xor, Bool.xor_true, Bool.xor_false, Nat.reduceAdd, Nat.reduceBEq, Nat.reduceLeDiff, Nat.reduceLT, Nat.reduceMul, Nat.reduceSub, Int.reduceEq, Int.reduceLT, Int.reduceLE, Int.reduceNeg]
    | false =>
      cases h2 : decide (1073741824 < r) with
      | true => simp only [*, s25, s51, go_sem, Int.cast_ofNat_Int, Int.reduceToNat, Bool.true_xor, Bool.false_xor, Bool.xor_true, Bool.xor_false, Nat.reduceAdd, Nat.reduceBEq, Nat.reduceLeDiff, Nat.reduceLT, Nat.reduceMul, Nat.reduceSub, Int.reduceEq, Int.reduceLT, Int.reduceLE, Int.reduceNeg]
      | false =>
        cases h3 : decide (C.length = 16) with
        | false => simp only [*, s25, s51, go_sem, Int.cast_ofNat_Int, Int.reduceToNat, Bool.true_xor, Bool.false_xor, Bool.xor_true, Bool.xor_false, Nat.reduceAdd, Nat.reduceBEq, Nat.reduceLeDiff, Nat.reduceLT, Nat.reduceMul, Nat.reduceSub, Int.reduceEq, Int.reduceLT, Int.reduceLE, Int.reduceNeg]
        | true =>
          cases h4 : decide (U.length = 16) with
          | false => simp only [*, s25, s51, go_sem, Int.cast_ofNat_Int, Int.reduceToNat, Bool.true_xor, Bool.false_xor, Bool.xor_true, Bool.xor_false, Nat.reduceAdd, Nat.reduceBEq, Nat.reduceLeDiff, Nat.reduceLT, Nat.reduceMul, Nat.reduceSub, Int.reduceEq, Int.reduceLT, Int.reduceLE, Int.reduceNeg]
          | true =>
            have h5 : decide (D.length = 16) = false := by
              rw [Bool.eq_false_iff]; intro h5
              simp only [decide_eq_true_eq, decide_eq_false_iff_not] at h1 h2 h3 h4 h5
              simp only [lenB, Bool.and_eq_false_iff, decide_eq_false_iff_not] at hl
              omega
            simp only [*, s25, s51, go_sem, Int.cast_ofNat_Int, Int.reduceToNat, Bool.true_xor, Bool.false_xor, Bool.xor_true, Bool.xor_false, Nat.reduceAdd, Nat.reduceBEq, Nat.reduceLeDiff, Nat.reduceLT, Nat.reduceMul, Nat.reduceSub, Int.reduceEq, Int.reduceLT, Int.reduceLE, Int.reduceNeg, h5]
  | true =>
    have hl' := hl
    simp only [lenB, Bool.and_eq_true, decide_eq_true_eq] at hl'
    obtain ⟨⟨⟨⟨r0, r1⟩, hC⟩, hU⟩, hD⟩ := hl'
    have g0 : decide (r < 0) = false := decide_eq_false (by omega)
    have g1 : decide (1073741824 < r) = false := decide_eq_false (by omega)
    simp only [c39, heap0, go_sem, Int.cast_ofNat_Int, Int.reduceToNat, Bool.true_xor, Bool.false_xor, Bool.xor_true, Bool.xor_false, Nat.reduceAdd, Nat.reduceBEq, Nat.reduceLeDiff, Nat.reduceLT, Nat.reduceMul, Nat.reduceSub, Int.reduceEq, Int.reduceLT, Int.reduceLE, Int.reduceNeg, lenD, g0, g1, hC, hU, hD]
    refine loop_rule (fun i => ([(1, .ptr 0 0 0 0), (3, .int .i64 i)], ⟨[.box [.int .i64 r, .lst 2 (cS C) f, .lst 1 (iS U) g, .lst 1 (iS D) h]], [], 0⟩))
      (fun i => ∀ j, j < i → okI r C U D j = true) 16 (by simp only [*, s25, s51, go_sem, Int.cast_ofNat_Int, Int.reduceToNat, Bool.true_xor, Bool.false_xor, Bool.xor_true, Bool.xor_false, Nat.reduceAdd, Nat.reduceBEq, Nat.reduceLeDiff, Nat.reduceLT, Nat.reduceMul, Nat.reduceSub, Int.reduceEq, Int.reduceLT, Int.reduceLE, Int.reduceNeg]; rfl) (fun j h => by omega) ?_
    intro i hi hP
    rcases Nat.lt_or_ge i 16 with hlt | hge
    · obtain ⟨c, hc⟩ := getS (l := C) (i := i) (by omega)
      obtain ⟨u, hu⟩ := getS (l := U) (i := i) (by omega)
      obtain ⟨d, hd⟩ := getS (l := D) (i := i) (by omega)
      have hok : okI r C U D i = okAt r c u d := by simp only [okI, hc, hu, hd]
      have hw : w64 ((i : Int) + 1) = ((i + 1 : Nat) : Int) := w64_suc (n := 16) hlt (by decide)
      have hlt' : decide ((i : Int) < 16) = true := decide_eq_true (by omega)
      have hlC : i < C.length := by omega
      have hlU : i < U.length := by omega
      have hlD : i < D.length := by omega
      have fin : okAt r c u d = false → vI r C U D = 1 := fun h => vI_no (vB_at hlt (by rw [hok, h]))
      have go : okAt r c u d = true → ∀ j, j < i + 1 → okI r C U D j = true := fun h j hj => by
        rcases Nat.lt_or_ge j i with h3 | h3
        · exact hP j h3
        · obtain rfl : j = i := by omega
          rw [hok, h]
      simp only [*, s25, s51, go_sem, Int.cast_ofNat_Int, Int.reduceToNat, Bool.true_xor, Bool.false_xor, Bool.xor_true, Bool.xor_false, Nat.reduceAdd, Nat.reduceBEq, Nat.reduceLeDiff, Nat.reduceLT, Nat.reduceMul, Nat.reduceSub, Int.reduceEq, Int.reduceLT, Int.reduceLE, Int.reduceNeg, hlt', hlC, hlU, hlD, hc, hu, hd, s25, s51, hw]
      cases k1 : cB c.1 c.2 with
      | false => simp only [*, s25, s51, go_sem, Int.cast_ofNat_Int, Int.reduceToNat, Bool.true_xor, Bool.false_xor, Bool.xor_true, Bool.xor_false, Nat.reduceAdd, Nat.reduceBEq, Nat.reduceLeDiff, Nat.reduceLT, Nat.reduceMul, Nat.reduceSub, Int.reduceEq, Int.reduceLT, Int.reduceLE, Int.reduceNeg, fin (by simp only [okAt, k1, Bool.false_and])]
      | true =>
        cases k2 : hB d with
        | false => simp only [*, s25, s51, go_sem, Int.cast_ofNat_Int, Int.reduceToNat, Bool.true_xor, Bool.false_xor, Bool.xor_true, Bool.xor_false, Nat.reduceAdd, Nat.reduceBEq, Nat.reduceLeDiff, Nat.reduceLT, Nat.reduceMul, Nat.reduceSub, Int.reduceEq, Int.reduceLT, Int.reduceLE, Int.reduceNeg, fin (by simp only [okAt, k1, k2, Bool.false_and, Bool.true_and])]
        | true =>
          cases k3 : decide (u = 0) with
          | true =>
            simp only [*, s25, s51, go_sem, Int.cast_ofNat_Int, Int.reduceToNat, Bool.true_xor, Bool.false_xor, Bool.xor_true, Bool.xor_false, Nat.reduceAdd, Nat.reduceBEq, Nat.reduceLeDiff, Nat.reduceLT, Nat.reduceMul, Nat.reduceSub, Int.reduceEq, Int.reduceLT, Int.reduceLE, Int.reduceNeg, hlt]
            exact ⟨trivial, by first | trivial | rfl, go (by simp only [okAt, k1, k2, k3]; rfl)⟩
          | false =>
            cases k4 : decide (u ≤ r) with
            | true => simp only [*, s25, s51, go_sem, Int.cast_ofNat_Int, Int.reduceToNat, Bool.true_xor, Bool.false_xor, Bool.xor_true, Bool.xor_false, Nat.reduceAdd, Nat.reduceBEq, Nat.reduceLeDiff, Nat.reduceLT, Nat.reduceMul, Nat.reduceSub, Int.reduceEq, Int.reduceLT, Int.reduceLE, Int.reduceNeg, fin (by simp only [okAt, k1, k2, k3, k4]; rfl)]
            | false =>
              cases k5 : decide (w64 (r + 64) < u) with
              | true => simp only [*, s25, s51, go_sem, Int.cast_ofNat_Int, Int.reduceToNat, Bool.true_xor, Bool.false_xor, Bool.xor_true, Bool.xor_false, Nat.reduceAdd, Nat.reduceBEq, Nat.reduceLeDiff, Nat.reduceLT, Nat.reduceMul, Nat.reduceSub, Int.reduceEq, Int.reduceLT, Int.reduceLE, Int.reduceNeg, k5, fin (by simp only [okAt, k1, k2, k3, k4, k5]; rfl)]
              | false =>
                cases k6 : decide (d = 0) with
                | true => simp only [*, s25, s51, go_sem, Int.cast_ofNat_Int, Int.reduceToNat, Bool.true_xor, Bool.false_xor, Bool.xor_true, Bool.xor_false, Nat.reduceAdd, Nat.reduceBEq, Nat.reduceLeDiff, Nat.reduceLT, Nat.reduceMul, Nat.reduceSub, Int.reduceEq, Int.reduceLT, Int.reduceLE, Int.reduceNeg, k5, hlD, hd, k6, fin (by simp only [okAt, k1, k2, k3, k4, k5, k6]; rfl)]
                | false =>
                  simp only [*, s25, s51, go_sem, Int.cast_ofNat_Int, Int.reduceToNat, Bool.true_xor, Bool.false_xor, Bool.xor_true, Bool.xor_false, Nat.reduceAdd, Nat.reduceBEq, Nat.reduceLeDiff, Nat.reduceLT, Nat.reduceMul, Nat.reduceSub, Int.reduceEq, Int.reduceLT, Int.reduceLE, Int.reduceNeg, k5, hlD, hd, k6, hlt]
                  exact ⟨trivial, by first | trivial | rfl, go (by simp only [okAt, k1, k2, k3, k4, k5, k6]; rfl)⟩
    · obtain rfl : i = 16 := by omega
      have hv : vI r C U D = 0 := vI_yes (vB_all hl (fun j hj => hP j hj))
      simp only [*, s25, s51, go_sem, Int.cast_ofNat_Int, Int.reduceToNat, Bool.true_xor, Bool.false_xor, Bool.xor_true, Bool.xor_false, Nat.reduceAdd, Nat.reduceBEq, Nat.reduceLeDiff, Nat.reduceLT, Nat.reduceMul, Nat.reduceSub, Int.reduceEq, Int.reduceLT, Int.reduceLE, Int.reduceNeg, hv, show decide (((16 : Nat) : Int) < 16) = false from by decide]
end Go.Sh
namespace Go.Sh
set_option linter.unusedSectionVars false
set_option linter.unnecessarySimpa false
set_option linter.unusedVariables false
set_option linter.unusedSimpArgs false
set_option maxRecDepth 100000
set_option maxHeartbeats 4000000
def ad1 (c : Int × Int) (a : Bool) : Int × Int := (c.1 + 1, bif a then c.2 + 1 else c.2)
theorem ad_ok {c : Int × Int} (h : cB c.1 c.2 = true) (h2 : decide (c.1 = 1073741824) = false) (a : Bool) : adV c.1 c.2 a = .tup [ct (ad1 c a).1 (ad1 c a).2, .int .i64 0] := by
  have g := cB_iff.1 h
  have h2' := of_decide_eq_false h2
  have w1 : w64 (c.1 + 1) = c.1 + 1 := w64_id (by omega) (by omega)
  have w2 : w64 (c.2 + 1) = c.2 + 1 := w64_id (by omega) (by omega)
  simp only [adV, h, h2, w1, w2, cond_true, cond_false, ad1]
theorem ad_full {c : Int × Int} (h : cB c.1 c.2 = true) (h2 : decide (c.1 = 1073741824) = true) (a : Bool) : adV c.1 c.2 a = .tup [ct 0 0, .int .i64 13] := by
  simp only [adV, h, h2, cond_true]
theorem vB_iff {r C U D} : vB r C U D = true ↔ (0 ≤ r ∧ r ≤ 1073741824 ∧ C.length = 16 ∧ U.length = 16 ∧ D.length = 16) ∧ ∀ i, i < 16 → okI r C U D i = true := by
  simp only [vB, lenB, Bool.and_eq_true, decide_eq_true_eq, List.all_eq_true, List.mem_range, and_assoc]
theorem vB_cB {r C U D} (h : vB r C U D = true) {i : Nat} {c : Int × Int} (hc : C[i]? = some c) : cB c.1 c.2 = true := by
  obtain ⟨⟨_, _, h3, h4, h5⟩, h6⟩ := vB_iff.1 h
  have hi : i < 16 := by have := (List.getElem?_eq_some_iff.1 hc).1; omega
  have := h6 i hi
  obtain ⟨u, hu⟩ := getS (l := U) (i := i) (by omega)
  obtain ⟨d, hd⟩ := getS (l := D) (i := i) (by omega)
  simp only [okI, hc, hu, hd, okAt, Bool.and_eq_true] at this
  exact this.1.1
def ntV (fl : Bool) (r : Int) (C : List (Int × Int)) (U D : List Int) (x : Int) (a : Bool) : SV :=
  bif vB r C U D then
    bif decide (x < 0) || decide (16 ≤ x) then .tup [lz, .int .i64 2]
    else bif decide ((C.getD x.toNat (0, 0)).1 = 1073741824) then .tup [lz, .int .i64 13]
    else .tup [lr r (C.set x.toNat (ad1 (C.getD x.toNat (0, 0)) a)) U D fl fl fl, .int .i64 0]
  else .tup [lz, .int .i64 1]
theorem s35 (n : Nat) (H : Heap) (r C U D f g h x a) : call1 T (n + 3) (.fn 35) [lr r C U D f g h, .int .i64 x, .bool a] H = some (ntV true r C U D x a, H) := by
  refine call_pure e35 (by rfl) ?_
  have h12 := fun H => s12 n H r C U D f g h
  cases hv : vB r C U D with
  | false => simp only [c35, heap0, go_sem, Int.cast_ofNat_Int, Int.reduceToNat, Bool.true_xor, Bool.false_xor, Bool.xor_true, Bool.xor_false, Nat.reduceAdd, Nat.reduceBEq, Nat.reduceLeDiff, Nat.reduceLT, Nat.reduceMul, Nat.reduceSub, Int.reduceEq, Int.reduceLT, Int.reduceLE, Int.reduceNeg, h12, hv, ntV]
  | true =>
    cases h1 : decide (x < 0) with
    | true => simp only [c35, heap0, go_sem, Int.cast_ofNat_Int, Int.reduceToNat, Bool.true_xor, Bool.false_xor, Bool.xor_true, Bool.xor_false, Nat.reduceAdd, Nat.reduceBEq, Nat.reduceLeDiff, Nat.reduceLT, Nat.reduceMul, Nat.reduceSub, Int.reduceEq, Int.reduceLT, Int.reduceLE, Int.reduceNeg, h12, hv, ntV, h1]
    | false =>
      cases h2 : decide (16 ≤ x) with
      | true => simp only [c35, heap0, go_sem, Int.cast_ofNat_Int, Int.reduceToNat, Bool.true_xor, Bool.false_xor, Bool.xor_true, Bool.xor_false, Nat.reduceAdd, Nat.reduceBEq, Nat.reduceLeDiff, Nat.reduceLT, Nat.reduceMul, Nat.reduceSub, Int.reduceEq, Int.reduceLT, Int.reduceLE, Int.reduceNeg, h12, hv, ntV, h1, h2]
      | false =>
        obtain ⟨⟨_, _, hC, hU, hD⟩, _⟩ := vB_iff.1 hv
        have h1' := of_decide_eq_false h1
        have h2' := of_decide_eq_false h2
        have k1 : decide (0 ≤ x) = true := decide_eq_true (by omega)
        have k2 : decide (x < 16) = true := decide_eq_true (by omega)
        have hlt : x.toNat < 16 := by omega
        have hltC : decide (x < (C.length : Int)) = true := decide_eq_true (by omega)
        obtain ⟨c, hc⟩ := getS (l := C) (i := x.toNat) (by omega)
        have hg : C.getD x.toNat (0, 0) = c := by simp [hc]
        have hcb := vB_cB hv hc
        have h18 := fun H => s18 n H c.1 c.2 a
        cases h3 : decide (c.1 = 1073741824) with
        | true =>
          rw [ad_full hcb h3] at h18
          simp only [c35, heap0, go_sem, Int.cast_ofNat_Int, Int.reduceToNat, Bool.true_xor, Bool.false_xor, Bool.xor_true, Bool.xor_false, Nat.reduceAdd, Nat.reduceBEq, Nat.reduceLeDiff, Nat.reduceLT, Nat.reduceMul, Nat.reduceSub, Int.reduceEq, Int.reduceLT, Int.reduceLE, Int.reduceNeg, h12, hv, ntV, h1, h2, k1, hltC, hc, h18, hg, h3]
        | false =>
          rw [ad_ok hcb h3] at h18
          have h47 := fun x y z es => s47k n x y z es r C U D f g h hC hU hD
          have hl : (C.set x.toNat (ad1 c a)).length = 16 := by simp [hC]
          simp only [c35, heap0, go_sem, Int.cast_ofNat_Int, Int.reduceToNat, Bool.true_xor, Bool.false_xor, Bool.xor_true, Bool.xor_false, Nat.reduceAdd, Nat.reduceBEq, Nat.reduceLeDiff, Nat.reduceLT, Nat.reduceMul, Nat.reduceSub, Int.reduceEq, Int.reduceLT, Int.reduceLE, Int.reduceNeg, h12, hv, ntV, h1, h2, k1, k2, hltC, hc, h18, hg, h3, h47, cS_set, fz_cS16 _ _ _ _ _ _ hl, fz_iS16 _ _ _ _ _ _ hU, fz_iS16 _ _ _ _ _ _ hD]
theorem s36 (n : Nat) (H : Heap) (r C U D f g h x a) : call1 T (n + 3) (.fn 36) [lr r C U D f g h, .int .i64 x, .bool a] H = some (ntV false r C U D x a, H) := by
  refine call_pure e36 (by rfl) ?_
  have h39 := fun H => s39 n H r C U D f g h
  cases hv : vB r C U D with
  | false => simp only [c36, heap0, go_sem, Int.cast_ofNat_Int, Int.reduceToNat, Bool.true_xor, Bool.false_xor, Bool.xor_true, Bool.xor_false, Nat.reduceAdd, Nat.reduceBEq, Nat.reduceLeDiff, Nat.reduceLT, Nat.reduceMul, Nat.reduceSub, Int.reduceEq, Int.reduceLT, Int.reduceLE, Int.reduceNeg, h39, hv, ntV]
  | true =>
    cases h1 : decide (x < 0) with
    | true => simp only [c36, heap0, go_sem, Int.cast_ofNat_Int, Int.reduceToNat, Bool.true_xor, Bool.false_xor, Bool.xor_true, Bool.xor_false, Nat.reduceAdd, Nat.reduceBEq, Nat.reduceLeDiff, Nat.reduceLT, Nat.reduceMul, Nat.reduceSub, Int.reduceEq, Int.reduceLT, Int.reduceLE, Int.reduceNeg, h39, hv, ntV, h1]
    | false =>
      cases h2 : decide (16 ≤ x) with
      | true => simp only [c36, heap0, go_sem, Int.cast_ofNat_Int, Int.reduceToNat, Bool.true_xor, Bool.false_xor, Bool.xor_true, Bool.xor_false, Nat.reduceAdd, Nat.reduceBEq, Nat.reduceLeDiff, Nat.reduceLT, Nat.reduceMul, Nat.reduceSub, Int.reduceEq, Int.reduceLT, Int.reduceLE, Int.reduceNeg, h39, hv, ntV, h1, h2]
      | false =>
        obtain ⟨⟨_, _, hC, hU, hD⟩, _⟩ := vB_iff.1 hv
        have h1' := of_decide_eq_false h1
        have h2' := of_decide_eq_false h2
        have k1 : decide (0 ≤ x) = true := decide_eq_true (by omega)
        have k2 : decide (x < 16) = true := decide_eq_true (by omega)
        have hlt : x.toNat < 16 := by omega
        have hltC : decide (x < (C.length : Int)) = true := decide_eq_true (by omega)
        obtain ⟨c, hc⟩ := getS (l := C) (i := x.toNat) (by omega)
        have hg : C.getD x.toNat (0, 0) = c := by simp [hc]
        have hcb := vB_cB hv hc
        have h19 := fun H => s19 n H c.1 c.2 a
        cases h3 : decide (c.1 = 1073741824) with
        | true =>
          rw [ad_full hcb h3] at h19
          simp only [c36, heap0, go_sem, Int.cast_ofNat_Int, Int.reduceToNat, Bool.true_xor, Bool.false_xor, Bool.xor_true, Bool.xor_false, Nat.reduceAdd, Nat.reduceBEq, Nat.reduceLeDiff, Nat.reduceLT, Nat.reduceMul, Nat.reduceSub, Int.reduceEq, Int.reduceLT, Int.reduceLE, Int.reduceNeg, h39, hv, ntV, h1, h2, k1, hltC, hc, h19, hg, h3]
        | false =>
          rw [ad_ok hcb h3] at h19
          have h13 := fun x y z es => s13k (n + 1) x y z es r C U D f g h (by omega) (by omega) (by omega)
          have hl : (C.set x.toNat (ad1 c a)).length = 16 := by simp [hC]
          rw [hC, hU, hD] at h13
          simp only [c36, heap0, go_sem, Int.cast_ofNat_Int, Int.reduceToNat, Bool.true_xor, Bool.false_xor, Bool.xor_true, Bool.xor_false, Nat.reduceAdd, Nat.reduceBEq, Nat.reduceLeDiff, Nat.reduceLT, Nat.reduceMul, Nat.reduceSub, Int.reduceEq, Int.reduceLT, Int.reduceLE, Int.reduceNeg, h39, hv, ntV, h1, h2, k1, k2, hltC, hc, h19, hg, h3, h13, cS_set, fz_cS16 _ _ _ _ _ _ hl, fz_iS16 _ _ _ _ _ _ hU, fz_iS16 _ _ _ _ _ _ hD]
end Go.Sh
namespace Go.Sh
set_option linter.unusedSectionVars false
set_option linter.unnecessarySimpa false
set_option linter.unusedVariables false
set_option linter.unusedSimpArgs false
set_option maxRecDepth 100000
set_option maxHeartbeats 4000000
theorem s17 (n : Nat) (H : Heap) (L M : List Int) (f g : Bool) (hL : L.length ≤ maxLen) : call1 T (n + 1) (.fn 17) [.lst 1 (iS L) f, .lst 1 (iS M) g] H = some (.bool (decide (L = M)), H) :=
  stdEq_ok (T := T) (f := 17) (n := n) (H := H) e17 (.lst 1 f (.inl rfl)) (.lst 1 g (.inl rfl)) hL
theorem mid_get {A : Type} {S C : List A} {i : Nat} (h : i ≤ S.length) : (S.take i ++ C.drop i)[i]? = C[i]? := by
  rw [List.getElem?_append_right (by simp; omega)]
  simp [Nat.min_eq_left h]
theorem mid_len {A : Type} {S C : List A} {i : Nat} (h : S.length = C.length) : (S.take i ++ C.drop i).length = C.length := by
  simp; omega
theorem mid_set {A : Type} {S C : List A} {i : Nat} {s : A} (h : S[i]? = some s) (hl : S.length = C.length) : (S.take i ++ C.drop i).set i s = S.take (i + 1) ++ C.drop (i + 1) := by
  have hi := (List.getElem?_eq_some_iff.1 h).1
  apply List.ext_getElem?
  intro j
  rw [take_snoc h]
  simp only [List.getElem?_set, List.getElem?_append, List.length_take, List.length_append, List.length_cons, List.length_nil, List.getElem?_drop, List.getElem?_take]
  have e1 : min i S.length = i := by omega
  simp only [e1, List.length_drop]
  by_cases h1 : i = j
  · subst h1
    simp; omega
  · by_cases h2 : j < i
    · simp [h1, h2, show j < i + 1 by omega]
    · simp only [h1, h2, if_false, show ¬ j < i + 1 by omega]
      congr 1; omega
theorem mid_end {A : Type} {S C : List A} {i : Nat} (h : C.length ≤ i) (hs : S.length = C.length) : S.take i ++ C.drop i = S := by
  rw [List.drop_of_length_le h, List.append_nil, List.take_of_length_le (by omega)]
theorem cS_set2 (C : List (Int × Int)) (i : Nat) (x y : Int) : (cS C).set i [.int .i64 x, .int .i64 y] = cS (C.set i (x, y)) := by simp [cS, List.map_set]
def sumC (C C' : List (Int × Int)) : List (Int × Int) := C.zipWith (fun a b => (a.1 + b.1, a.2 + b.2)) C'
theorem sumC_len {C C' : List (Int × Int)} (h : C.length = C'.length) : (sumC C C').length = C.length := by simp [sumC]; omega
theorem sumC_get {C C' : List (Int × Int)} {i : Nat} {a b} (h : C[i]? = some a) (h2 : C'[i]? = some b) : (sumC C C')[i]? = some (a.1 + b.1, a.2 + b.2) := by simp [sumC, List.getElem?_zipWith, h, h2]
def okS (S : List (Int × Int)) : Bool := S.all fun c => decide (c.1 ≤ 1073741824)
def mgV (fl : Bool) (r : Int) (C : List (Int × Int)) (U D : List Int) (r' : Int) (C' : List (Int × Int)) (U' D' : List Int) : SV :=
  bif vB r C U D && vB r' C' U' D' then
    bif decide (r = r') && decide (U = U') && decide (D = D') then
      bif okS (sumC C C') then .tup [lr r (sumC C C') U D fl fl fl, .int .i64 0] else .tup [lz, .int .i64 13]
    else .tup [lz, .int .i64 11]
  else .tup [lz, .int .i64 1]
theorem sum_cB {a b : Int × Int} (h : cB a.1 a.2 = true) (h2 : cB b.1 b.2 = true) : w64 (a.1 + b.1) = a.1 + b.1 ∧ w64 (a.2 + b.2) = a.2 + b.2 ∧ cB (a.1 + b.1) (a.2 + b.2) = decide (a.1 + b.1 ≤ 1073741824) := by
  have g := cB_iff.1 h
  have g2 := cB_iff.1 h2
  refine ⟨w64_id (by omega) (by omega), w64_id (by omega) (by omega), ?_⟩
  rw [Bool.eq_iff_iff, cB_iff, decide_eq_true_eq]; omega
theorem okS_no {S : List (Int × Int)} {i : Nat} {c} (h : S[i]? = some c) (h2 : decide (c.1 ≤ 1073741824) = false) : okS S = false := by
  rw [okS, List.all_eq_false]
  exact ⟨c, List.mem_of_getElem? h, by simp [of_decide_eq_false h2]⟩
theorem okS_yes {S : List (Int × Int)} (h : ∀ (j : Nat) c, S[j]? = some c → decide (c.1 ≤ 1073741824) = true) : okS S = true := by
  rw [okS, List.all_eq_true]
  intro c hc
  obtain ⟨j, hj⟩ := List.getElem?_of_mem hc
  exact h j c hj
theorem ln16 : (16 : Nat) ≤ maxLen := by decide
theorem s28 (n : Nat) (H : Heap) (r C U D f g h r' C' U' D' f' g' h') : call1 T (n + 3) (.fn 28) [lr r C U D f g h, lr r' C' U' D' f' g' h'] H = some (mgV true r C U D r' C' U' D', H) := by
  refine call_pure e28 (by rfl) ?_
  have h12 := fun H => s12 n H r C U D f g h
  have h12' := fun H => s12 n H r' C' U' D' f' g' h'
  cases hv : vB r C U D with
  | false => simp only [c28, heap0, go_sem, Int.cast_ofNat_Int, Int.reduceToNat, Bool.true_xor, Bool.false_xor, Bool.xor_true, Bool.xor_false, Nat.reduceAdd, Nat.reduceBEq, Nat.reduceLeDiff, Nat.reduceLT, Nat.reduceMul, Nat.reduceSub, Int.reduceEq, Int.reduceLT, Int.reduceLE, Int.reduceNeg, h12, hv, mgV]
  | true =>
    cases hv' : vB r' C' U' D' with
    | false => simp only [c28, heap0, go_sem, Int.cast_ofNat_Int, Int.reduceToNat, Bool.true_xor, Bool.false_xor, Bool.xor_true, Bool.xor_false, Nat.reduceAdd, Nat.reduceBEq, Nat.reduceLeDiff, Nat.reduceLT, Nat.reduceMul, Nat.reduceSub, Int.reduceEq, Int.reduceLT, Int.reduceLE, Int.reduceNeg, h12, h12', hv, hv', mgV]
    | true =>
      obtain ⟨⟨_, _, hC, hU, hD⟩, _⟩ := vB_iff.1 hv
      obtain ⟨⟨_, _, hC', hU', hD'⟩, _⟩ := vB_iff.1 hv'
      have h17 := fun H => s17 (n + 1) H U U' g g' (by rw [hU]; exact ln16)
      have h17' := fun H => s17 (n + 1) H D D' h h' (by rw [hD]; exact ln16)
      cases h1 : decide (r = r') with
      | false => simp only [c28, heap0, go_sem, Int.cast_ofNat_Int, Int.reduceToNat, Bool.true_xor, Bool.false_xor, Bool.xor_true, Bool.xor_false, Nat.reduceAdd, Nat.reduceBEq, Nat.reduceLeDiff, Nat.reduceLT, Nat.reduceMul, Nat.reduceSub, Int.reduceEq, Int.reduceLT, Int.reduceLE, Int.reduceNeg, h12, h12', hv, hv', mgV, h1]
      | true =>
        cases h2 : decide (U = U') with
        | false => simp only [c28, heap0, go_sem, Int.cast_ofNat_Int, Int.reduceToNat, Bool.true_xor, Bool.false_xor, Bool.xor_true, Bool.xor_false, Nat.reduceAdd, Nat.reduceBEq, Nat.reduceLeDiff, Nat.reduceLT, Nat.reduceMul, Nat.reduceSub, Int.reduceEq, Int.reduceLT, Int.reduceLE, Int.reduceNeg, h12, h12', h17, hv, hv', mgV, h1, h2]
        | true =>
          cases h3 : decide (D = D') with
          | false => simp only [c28, heap0, go_sem, Int.cast_ofNat_Int, Int.reduceToNat, Bool.true_xor, Bool.false_xor, Bool.xor_true, Bool.xor_false, Nat.reduceAdd, Nat.reduceBEq, Nat.reduceLeDiff, Nat.reduceLT, Nat.reduceMul, Nat.reduceSub, Int.reduceEq, Int.reduceLT, Int.reduceLE, Int.reduceNeg, h12, h12', h17, h17', hv, hv', mgV, h1, h2, h3]
          | true =>
            have h47 := fun x y z es => s47k n x y z es r C U D f g h hC hU hD
            have hS : (sumC C C').length = C.length := sumC_len (by omega)
            simp only [c28, heap0, go_sem, Int.cast_ofNat_Int, Int.reduceToNat, Bool.true_xor, Bool.false_xor, Bool.xor_true, Bool.xor_false, Nat.reduceAdd, Nat.reduceBEq, Nat.reduceLeDiff, Nat.reduceLT, Nat.reduceMul, Nat.reduceSub, Int.reduceEq, Int.reduceLT, Int.reduceLE, Int.reduceNeg, h12, h12', h17, h17', hv, hv', mgV, h1, h2, h3, h47]
            refine loop_rule (fun i => ([(3, .ptr 1 0 0 0), (4, .ptr 2 0 0 0), (6, .ptr 10 0 0 0), (45, .int .i64 16), (46, .int .i64 i)],
              ⟨[.box [.int .i64 r, .lst 2 (cS C) f, .lst 1 (iS U) g, .lst 1 (iS D) h], .box [.int .i64 r', .lst 2 (cS C') f', .lst 1 (iS U') g', .lst 1 (iS D') h'], .box [.int .i64 0, .lst 0 [] true, .lst 0 [] true, .lst 0 [] true],
                .box [.int .i64 r, .lst 2 (cS C) f, .lst 1 (iS U) g, .lst 1 (iS D) h], .box (lsC r 6 16 16 16), .box (lsC 0 6 16 16 16), .arr 0 2 (cS ((sumC C C').take i ++ C.drop i)) true, .arr 0 1 (iS U) true, .arr 0 1 (iS D) true, .box (lsC r 6 16 16 16), .box (lsC r 6 16 16 16)], [], 0⟩))
              (fun i => ∀ j c, j < i → (sumC C C')[j]? = some c → decide (c.1 ≤ 1073741824) = true) 16 (by simp only [go_sem, Int.cast_ofNat_Int, Int.reduceToNat, Bool.true_xor, Bool.false_xor, Bool.xor_true, Bool.xor_false, Nat.reduceAdd, Nat.reduceBEq, Nat.reduceLeDiff, Nat.reduceLT, Nat.reduceMul, Nat.reduceSub, Int.reduceEq, Int.reduceLT, Int.reduceLE, Int.reduceNeg]; rfl) (fun j c h => by omega) ?_
            intro i hi hP
            rcases Nat.lt_or_ge i 16 with hlt | hge
            · obtain ⟨c, hc⟩ := getS (l := C) (i := i) (by omega)
              obtain ⟨c', hc'⟩ := getS (l := C') (i := i) (by omega)
              obtain ⟨w1, w2, w3⟩ := sum_cB (vB_cB hv hc) (vB_cB hv' hc')
              have hs := sumC_get hc hc'
              have hw : w64 ((i : Int) + 1) = ((i + 1 : Nat) : Int) := w64_suc (n := 16) hlt ln16
              have hlt' : decide ((i : Int) < 16) = true := decide_eq_true (by omega)
              have hltC' : i < C'.length := by omega
              have hm : ((sumC C C').take i ++ C.drop i)[i]? = some c := by rw [mid_get (by omega), hc]
              have hml : i < ((sumC C C').take i ++ C.drop i).length := by rw [mid_len hS]; omega
              have hset := mid_set hs hS
              have hget : ∀ x : Int × Int, (((sumC C C').take i ++ C.drop i).set i x)[i]? = some x := fun x => by rw [List.getElem?_set_self hml]
              have hget2 : ((sumC C C').take (i + 1) ++ C.drop (i + 1))[i]? = some (c.1 + c'.1, c.2 + c'.2) := by rw [← hset]; exact hget _
              simp only [go_sem, Int.cast_ofNat_Int, Int.reduceToNat, Bool.true_xor, Bool.false_xor, Bool.xor_true, Bool.xor_false, Nat.reduceAdd, Nat.reduceBEq, Nat.reduceLeDiff, Nat.reduceLT, Nat.reduceMul, Nat.reduceSub, Int.reduceEq, Int.reduceLT, Int.reduceLE, Int.reduceNeg, hlt', hltC', hc', hm, cS_set2, hget, hget2, List.set_set, w1, w2, w3, hset, s24, hw]
              cases h4 : decide (c.1 + c'.1 ≤ 1073741824) with
              | false => simp only [go_sem, Int.cast_ofNat_Int, Int.reduceToNat, Bool.true_xor, Bool.false_xor, Bool.xor_true, Bool.xor_false, Nat.reduceAdd, Nat.reduceBEq, Nat.reduceLeDiff, Nat.reduceLT, Nat.reduceMul, Nat.reduceSub, Int.reduceEq, Int.reduceLT, Int.reduceLE, Int.reduceNeg, okS_no hs h4]
              | true =>
                simp only [go_sem, Int.cast_ofNat_Int, Int.reduceToNat, Bool.true_xor, Bool.false_xor, Bool.xor_true, Bool.xor_false, Nat.reduceAdd, Nat.reduceBEq, Nat.reduceLeDiff, Nat.reduceLT, Nat.reduceMul, Nat.reduceSub, Int.reduceEq, Int.reduceLT, Int.reduceLE, Int.reduceNeg, hlt, hw]
                refine ⟨trivial, by first | trivial | rfl, fun j d hj hd => ?_⟩
                rcases Nat.lt_or_ge j i with h3 | h3
                · exact hP j d h3 hd
                · obtain rfl : j = i := by omega
                  rw [hs] at hd; cases hd; exact h4
            · obtain rfl : i = 16 := by omega
              have hok : okS (sumC C C') = true := okS_yes (fun j d hd => hP j d (by have := (List.getElem?_eq_some_iff.1 hd).1; omega) hd)
              have hme : (sumC C C').take 16 ++ C.drop 16 = sumC C C' := mid_end (by omega) hS
              have hl : (sumC C C').length = 16 := by omega
              simp only [go_sem, Int.cast_ofNat_Int, Int.reduceToNat, Bool.true_xor, Bool.false_xor, Bool.xor_true, Bool.xor_false, Nat.reduceAdd, Nat.reduceBEq, Nat.reduceLeDiff, Nat.reduceLT, Nat.reduceMul, Nat.reduceSub, Int.reduceEq, Int.reduceLT, Int.reduceLE, Int.reduceNeg, show decide (((16 : Nat) : Int) < 16) = false from by decide, hok, hme, fz_cS16 _ _ _ _ _ _ hl, fz_iS16 _ _ _ _ _ _ hU, fz_iS16 _ _ _ _ _ _ hD]
theorem s29 (n : Nat) (H : Heap) (r C U D f g h r' C' U' D' f' g' h') : call1 T (n + 3) (.fn 29) [lr r C U D f g h, lr r' C' U' D' f' g' h'] H = some (mgV false r C U D r' C' U' D', H) := by
  refine call_pure e29 (by rfl) ?_
  have h39 := fun H => s39 n H r C U D f g h
  have h39' := fun H => s39 n H r' C' U' D' f' g' h'
  cases hv : vB r C U D with
  | false => simp only [c29, heap0, go_sem, Int.cast_ofNat_Int, Int.reduceToNat, Bool.true_xor, Bool.false_xor, Bool.xor_true, Bool.xor_false, Nat.reduceAdd, Nat.reduceBEq, Nat.reduceLeDiff, Nat.reduceLT, Nat.reduceMul, Nat.reduceSub, Int.reduceEq, Int.reduceLT, Int.reduceLE, Int.reduceNeg, h39, hv, mgV]
  | true =>
    cases hv' : vB r' C' U' D' with
    | false => simp only [c29, heap0, go_sem, Int.cast_ofNat_Int, Int.reduceToNat, Bool.true_xor, Bool.false_xor, Bool.xor_true, Bool.xor_false, Nat.reduceAdd, Nat.reduceBEq, Nat.reduceLeDiff, Nat.reduceLT, Nat.reduceMul, Nat.reduceSub, Int.reduceEq, Int.reduceLT, Int.reduceLE, Int.reduceNeg, h39, h39', hv, hv', mgV]
    | true =>
      obtain ⟨⟨_, _, hC, hU, hD⟩, _⟩ := vB_iff.1 hv
      obtain ⟨⟨_, _, hC', hU', hD'⟩, _⟩ := vB_iff.1 hv'
      cases h1 : decide (r = r') with
      | false => simp only [c29, heap0, go_sem, Int.cast_ofNat_Int, Int.reduceToNat, Bool.true_xor, Bool.false_xor, Bool.xor_true, Bool.xor_false, Nat.reduceAdd, Nat.reduceBEq, Nat.reduceLeDiff, Nat.reduceLT, Nat.reduceMul, Nat.reduceSub, Int.reduceEq, Int.reduceLT, Int.reduceLE, Int.reduceNeg, h39, h39', hv, hv', mgV, h1]
      | true =>
        have fin : (U ≠ U' ∨ D ≠ D') → mgV false r C U D r' C' U' D' = .tup [lz, .int .i64 11] := fun h => by
          simp only [mgV, hv, hv', h1, Bool.and_self, cond_true, Bool.true_and]
          rw [show (decide (U = U') && decide (D = D')) = false from by
            rw [Bool.and_eq_false_iff, decide_eq_false_iff_not, decide_eq_false_iff_not]; exact h]
          rfl
        simp only [c29, heap0, go_sem, Int.cast_ofNat_Int, Int.reduceToNat, Bool.true_xor, Bool.false_xor, Bool.xor_true, Bool.xor_false, Nat.reduceAdd, Nat.reduceBEq, Nat.reduceLeDiff, Nat.reduceLT, Nat.reduceMul, Nat.reduceSub, Int.reduceEq, Int.reduceLT, Int.reduceLE, Int.reduceNeg, h39, h39', hv, hv', h1]
        refine loop_rule (fun i => ([(2, .ptr 0 0 0 0), (3, .ptr 1 0 0 0), (4, .ptr 2 0 0 0), (6, .int .i64 i)],
              ⟨[.box [.int .i64 r, .lst 2 (cS C) f, .lst 1 (iS U) g, .lst 1 (iS D) h], .box [.int .i64 r', .lst 2 (cS C') f', .lst 1 (iS U') g', .lst 1 (iS D') h'], .box [.int .i64 0, .lst 0 [] true, .lst 0 [] true, .lst 0 [] true]], [], 0⟩))
              (fun i => (∀ j : Nat, j < i → U[j]? = U'[j]?) ∧ ∀ j : Nat, j < i → D[j]? = D'[j]?) 16 (by simp only [go_sem, Int.cast_ofNat_Int, Int.reduceToNat, Bool.true_xor, Bool.false_xor, Bool.xor_true, Bool.xor_false, Nat.reduceAdd, Nat.reduceBEq, Nat.reduceLeDiff, Nat.reduceLT, Nat.reduceMul, Nat.reduceSub, Int.reduceEq, Int.reduceLT, Int.reduceLE, Int.reduceNeg]; rfl) ⟨fun j h => by omega, fun j h => by omega⟩ ?_
        intro i hi hP
        rcases Nat.lt_or_ge i 16 with hlt | hge
        · obtain ⟨u, hu⟩ := getS (l := U) (i := i) (by omega)
          obtain ⟨u', hu'⟩ := getS (l := U') (i := i) (by omega)
          obtain ⟨d, hd⟩ := getS (l := D) (i := i) (by omega)
          obtain ⟨d', hd'⟩ := getS (l := D') (i := i) (by omega)
          have hw : w64 ((i : Int) + 1) = ((i + 1 : Nat) : Int) := w64_suc (n := 16) hlt ln16
          have hlt' : decide ((i : Int) < 16) = true := decide_eq_true (by omega)
          have l1 : i < U.length := by omega
          have l2 : i < U'.length := by omega
          have l3 : i < D.length := by omega
          have l4 : i < D'.length := by omega
          simp only [go_sem, Int.cast_ofNat_Int, Int.reduceToNat, Bool.true_xor, Bool.false_xor, Bool.xor_true, Bool.xor_false, Nat.reduceAdd, Nat.reduceBEq, Nat.reduceLeDiff, Nat.reduceLT, Nat.reduceMul, Nat.reduceSub, Int.reduceEq, Int.reduceLT, Int.reduceLE, Int.reduceNeg, hlt', l1, l2, l3, l4, hu, hu', hd, hd', hw]
          cases h2 : decide (u = u') with
          | false =>
            have : U ≠ U' := fun h => by subst h; rw [hu] at hu'; cases hu'; simp at h2
            simp only [go_sem, Int.cast_ofNat_Int, Int.reduceToNat, Bool.true_xor, Bool.false_xor, Bool.xor_true, Bool.xor_false, Nat.reduceAdd, Nat.reduceBEq, Nat.reduceLeDiff, Nat.reduceLT, Nat.reduceMul, Nat.reduceSub, Int.reduceEq, Int.reduceLT, Int.reduceLE, Int.reduceNeg, h2, fin (.inl this)]
          | true =>
            cases h3 : decide (d = d') with
            | false =>
              have : D ≠ D' := fun h => by subst h; rw [hd] at hd'; cases hd'; simp at h3
              simp only [go_sem, Int.cast_ofNat_Int, Int.reduceToNat, Bool.true_xor, Bool.false_xor, Bool.xor_true, Bool.xor_false, Nat.reduceAdd, Nat.reduceBEq, Nat.reduceLeDiff, Nat.reduceLT, Nat.reduceMul, Nat.reduceSub, Int.reduceEq, Int.reduceLT, Int.reduceLE, Int.reduceNeg, h2, h3, l3, l4, hd, hd', fin (.inr this)]
            | true =>
              simp only [go_sem, Int.cast_ofNat_Int, Int.reduceToNat, Bool.true_xor, Bool.false_xor, Bool.xor_true, Bool.xor_false, Nat.reduceAdd, Nat.reduceBEq, Nat.reduceLeDiff, Nat.reduceLT, Nat.reduceMul, Nat.reduceSub, Int.reduceEq, Int.reduceLT, Int.reduceLE, Int.reduceNeg, h2, h3, l3, l4, hd, hd', hlt, hw]
              exact ⟨trivial, by first | trivial | rfl, upto_suc hP.1 (by rw [hu, hu', of_decide_eq_true h2]), upto_suc hP.2 (by rw [hd, hd', of_decide_eq_true h3])⟩
        obtain rfl : i = 16 := by omega
        have h2 : U = U' := ext_upto (by omega) (by omega) hP.1
        have h3 : D = D' := ext_upto (by omega) (by omega) hP.2
        clear hP hi hge fin
        subst h2
        subst h3
        have h13 := fun x y z es => s13k (n + 1) x y z es r C U D f g h (by omega) (by omega) (by omega)
        rw [hC, hU, hD] at h13
        have hS : (sumC C C').length = C.length := sumC_len (by omega)
        simp only [go_sem, Int.cast_ofNat_Int, Int.reduceToNat, Bool.true_xor, Bool.false_xor, Bool.xor_true, Bool.xor_false, Nat.reduceAdd, Nat.reduceBEq, Nat.reduceLeDiff, Nat.reduceLT, Nat.reduceMul, Nat.reduceSub, Int.reduceEq, Int.reduceLT, Int.reduceLE, Int.reduceNeg, show decide (((16 : Nat) : Int) < 16) = false from by decide, h13, mgV, hv, hv', h1]
        refine loop_rule (fun i => ([(2, .ptr 0 0 0 0), (3, .ptr 1 0 0 0), (4, .ptr 2 0 0 0), (7, .ptr 8 0 0 0), (8, .int .i64 i)],
              ⟨[.box [.int .i64 r, .lst 2 (cS C) f, .lst 1 (iS U) g, .lst 1 (iS D) h], .box [.int .i64 r', .lst 2 (cS C') f', .lst 1 (iS U) g', .lst 1 (iS D) h'], .box [.int .i64 0, .lst 0 [] true, .lst 0 [] true, .lst 0 [] true],
                .box [.int .i64 r, .lst 2 (cS C) f, .lst 1 (iS U) g, .lst 1 (iS D) h], .box (lsC r 5 16 16 16), .arr 0 2 (cS ((sumC C C').take i ++ C.drop i)) false, .arr 0 1 (iS U) false, .arr 0 1 (iS D) false, .box (lsC r 5 16 16 16)], [], 0⟩))
              (fun i => ∀ j c, j < i → (sumC C C')[j]? = some c → decide (c.1 ≤ 1073741824) = true) 16 (by simp only [go_sem, Int.cast_ofNat_Int, Int.reduceToNat, Bool.true_xor, Bool.false_xor, Bool.xor_true, Bool.xor_false, Nat.reduceAdd, Nat.reduceBEq, Nat.reduceLeDiff, Nat.reduceLT, Nat.reduceMul, Nat.reduceSub, Int.reduceEq, Int.reduceLT, Int.reduceLE, Int.reduceNeg]; rfl) (fun j c h => by omega) ?_
        intro i hi hP
        rcases Nat.lt_or_ge i 16 with hlt | hge
        · obtain ⟨c, hc⟩ := getS (l := C) (i := i) (by omega)
          obtain ⟨c', hc'⟩ := getS (l := C') (i := i) (by omega)
          obtain ⟨w1, w2, w3⟩ := sum_cB (vB_cB hv hc) (vB_cB hv' hc')
          have hs := sumC_get hc hc'
          have hw : w64 ((i : Int) + 1) = ((i + 1 : Nat) : Int) := w64_suc (n := 16) hlt ln16
          have hlt' : decide ((i : Int) < 16) = true := decide_eq_true (by omega)
          have hltC : i < C.length := by omega
          have hltC' : i < C'.length := by omega
          have hm : ((sumC C C').take i ++ C.drop i)[i]? = some c := by rw [mid_get (by omega), hc]
          have hml : i < ((sumC C C').take i ++ C.drop i).length := by rw [mid_len hS]; omega
          have hset := mid_set hs hS
          have hget : ∀ x : Int × Int, (((sumC C C').take i ++ C.drop i).set i x)[i]? = some x := fun x => by rw [List.getElem?_set_self hml]
          have hget2 : ((sumC C C').take (i + 1) ++ C.drop (i + 1))[i]? = some (c.1 + c'.1, c.2 + c'.2) := by rw [← hset]; exact hget _
          have h4 : decide (1073741824 < c.1 + c'.1) = !decide (c.1 + c'.1 ≤ 1073741824) := by
            rw [Bool.eq_iff_iff]; simp
          simp only [go_sem, Int.cast_ofNat_Int, Int.reduceToNat, Bool.true_xor, Bool.false_xor, Bool.xor_true, Bool.xor_false, Nat.reduceAdd, Nat.reduceBEq, Nat.reduceLeDiff, Nat.reduceLT, Nat.reduceMul, Nat.reduceSub, Int.reduceEq, Int.reduceLT, Int.reduceLE, Int.reduceNeg, hlt', hltC, hltC', hc, hc', hm, cS_set2, hget, hget2, List.set_set, w1, w2, hset, hw, h4]
          cases h4 : decide (c.1 + c'.1 ≤ 1073741824) with
          | false => simp only [go_sem, Int.cast_ofNat_Int, Int.reduceToNat, Bool.true_xor, Bool.false_xor, Bool.xor_true, Bool.xor_false, Nat.reduceAdd, Nat.reduceBEq, Nat.reduceLeDiff, Nat.reduceLT, Nat.reduceMul, Nat.reduceSub, Int.reduceEq, Int.reduceLT, Int.reduceLE, Int.reduceNeg, okS_no hs h4]
          | true =>
            simp only [go_sem, Int.cast_ofNat_Int, Int.reduceToNat, Bool.true_xor, Bool.false_xor, Bool.xor_true, Bool.xor_false, Nat.reduceAdd, Nat.reduceBEq, Nat.reduceLeDiff, Nat.reduceLT, Nat.reduceMul, Nat.reduceSub, Int.reduceEq, Int.reduceLT, Int.reduceLE, Int.reduceNeg, hlt, hw]
            refine ⟨trivial, by first | trivial | rfl, fun j d hj hd => ?_⟩
            rcases Nat.lt_or_ge j i with h3 | h3
            · exact hP j d h3 hd
            · obtain rfl : j = i := by omega
              rw [hs] at hd; cases hd; exact h4
        · obtain rfl : i = 16 := by omega
          have hok : okS (sumC C C') = true := okS_yes (fun j d hd => hP j d (by have := (List.getElem?_eq_some_iff.1 hd).1; omega) hd)
          have hme : (sumC C C').take 16 ++ C.drop 16 = sumC C C' := mid_end (by omega) hS
          have hl : (sumC C C').length = 16 := by omega
          simp only [go_sem, Int.cast_ofNat_Int, Int.reduceToNat, Bool.true_xor, Bool.false_xor, Bool.xor_true, Bool.xor_false, Nat.reduceAdd, Nat.reduceBEq, Nat.reduceLeDiff, Nat.reduceLT, Nat.reduceMul, Nat.reduceSub, Int.reduceEq, Int.reduceLT, Int.reduceLE, Int.reduceNeg, show decide (((16 : Nat) : Int) < 16) = false from by decide, hok, hme, fz_cS16 _ _ _ _ _ _ hl, fz_iS16 _ _ _ _ _ _ hU, fz_iS16 _ _ _ _ _ _ hD]
end Go.Sh
namespace Go.Sh
set_option linter.unusedSectionVars false
set_option linter.unnecessarySimpa false
set_option linter.unusedVariables false
set_option linter.unusedSimpArgs false
set_option maxRecDepth 100000
set_option maxHeartbeats 4000000
def fewB (C : List (Int × Int)) (U D : List Int) : Bool := decide (C.length ≤ 20) && decide (U.length ≤ 20) && decide (D.length ≤ 20)
@[go_sem] theorem lenF (n : Nat) : decide ((n : Int) ≤ 20) = decide (n ≤ 20) := by
  rw [Bool.eq_iff_iff, decide_eq_true_eq, decide_eq_true_eq]; omega
theorem s11 (n : Nat) (H : Heap) (r C U D f g h) : call1 T (n + 1) (.fn 11) [lr r C U D f g h] H = some (.bool (fewB C U D), H) := by
  refine call_pure e11 (by rfl) ?_
  cases h1 : decide (C.length ≤ 20) with
  | false => simp only [c11, heap0, go_sem, Int.cast_ofNat_Int, Int.reduceToNat, Bool.true_xor, Bool.false_xor, Bool.xor_true, Bool.xor_false, Nat.reduceAdd, Nat.reduceBEq, Nat.reduceLeDiff, Nat.reduceLT, Nat.reduceMul, Nat.reduceSub, Int.reduceEq, Int.reduceLT, Int.reduceLE, Int.reduceNeg, h1, fewB]
  | true =>
    cases h2 : decide (U.length ≤ 20) with
    | false => simp only [c11, heap0, go_sem, Int.cast_ofNat_Int, Int.reduceToNat, Bool.true_xor, Bool.false_xor, Bool.xor_true, Bool.xor_false, Nat.reduceAdd, Nat.reduceBEq, Nat.reduceLeDiff, Nat.reduceLT, Nat.reduceMul, Nat.reduceSub, Int.reduceEq, Int.reduceLT, Int.reduceLE, Int.reduceNeg, h1, h2, fewB]
    | true => simp only [c11, heap0, go_sem, Int.cast_ofNat_Int, Int.reduceToNat, Bool.true_xor, Bool.false_xor, Bool.xor_true, Bool.xor_false, Nat.reduceAdd, Nat.reduceBEq, Nat.reduceLeDiff, Nat.reduceLT, Nat.reduceMul, Nat.reduceSub, Int.reduceEq, Int.reduceLT, Int.reduceLE, Int.reduceNeg, h1, h2, fewB]
theorem few_len {C U D} (h : fewB C U D = true) : C.length ≤ 20 ∧ U.length ≤ 20 ∧ D.length ≤ 20 := by
  simp only [fewB, Bool.and_eq_true, decide_eq_true_eq] at h; omega
theorem ln20 {n : Nat} (h : n ≤ 20) : n ≤ maxLen := by simp only [maxLen]; omega
theorem mg_eq (r C U D r' C' U' D') : (∃ e, ∀ fl, mgV fl r C U D r' C' U' D' = .tup [lz, .int .i64 e]) ∨ ((sumC C C').length ≤ 20 ∧ U.length ≤ 20 ∧ D.length ≤ 20 ∧ ∃ e, ∀ fl, mgV fl r C U D r' C' U' D' = .tup [lr r (sumC C C') U D fl fl fl, .int .i64 e]) := by
  unfold mgV
  cases h : vB r C U D with
  | false => exact .inl ⟨1, fun _ => rfl⟩
  | true =>
    cases h' : vB r' C' U' D' with
    | false => exact .inl ⟨1, fun _ => rfl⟩
    | true =>
      obtain ⟨⟨_, _, hC, hU, hD⟩, _⟩ := vB_iff.1 h
      obtain ⟨⟨_, _, hC', hU', hD'⟩, _⟩ := vB_iff.1 h'
      cases decide (r = r') && decide (U = U') && decide (D = D') with
      | false => exact .inl ⟨11, fun _ => rfl⟩
      | true =>
        cases okS (sumC C C') with
        | false => exact .inl ⟨13, fun _ => rfl⟩
        | true => exact .inr ⟨by rw [sumC_len (by omega)]; omega, by omega, by omega, 0, fun _ => rfl⟩
theorem sm_self (r C U D) : smB r C U D r C U D = true := by simp [smB]
theorem s6 (r C U D f g h r' C' U' D' f' g' h') : call1 T 41 (.fn 6) [lr r C U D f g h, lr r' C' U' D' f' g' h'] heap0 = some (.bool true, heap0) := by
  refine call_pure e6 (by rfl) ?_
  have h10 := s10
  have h11 := fun H r C U D f g h => s11 39 H r C U D f g h
  cases k1 : fewB C U D with
  | false => simp only [c6, heap0, go_sem, Int.cast_ofNat_Int, Int.reduceToNat, Bool.true_xor, Bool.false_xor, Bool.xor_true, Bool.xor_false, Nat.reduceAdd, Nat.reduceBEq, Nat.reduceLeDiff, Nat.reduceLT, Nat.reduceMul, Nat.reduceSub, Int.reduceEq, Int.reduceLT, Int.reduceLE, Int.reduceNeg, h10, h11, k1]
  | true =>
    cases k2 : fewB C' U' D' with
    | false => simp only [c6, heap0, go_sem, Int.cast_ofNat_Int, Int.reduceToNat, Bool.true_xor, Bool.false_xor, Bool.xor_true, Bool.xor_false, Nat.reduceAdd, Nat.reduceBEq, Nat.reduceLeDiff, Nat.reduceLT, Nat.reduceMul, Nat.reduceSub, Int.reduceEq, Int.reduceLT, Int.reduceLE, Int.reduceNeg, h10, h11, k1, k2]
    | true =>
      obtain ⟨a1, a2, a3⟩ := few_len k1
      obtain ⟨b1, b2, b3⟩ := few_len k2
      have h13 := fun H => s13 39 H r C U D f g h a1 a2 a3
      have h13' := fun H => s13 39 H r' C' U' D' f' g' h' b1 b2 b3
      have h28 := fun H => s28 37 H r C U D false false false r' C' U' D' false false false
      have h29 := fun H => s29 37 H r C U D f g h r' C' U' D' f' g' h'
      have h31 := fun H => s31 39 H
      have h32 := fun H => s32 39 H
      have h30 := fun H => s30 39 H 0 C0 Z0 Z0 true true true 0 C0 Z0 Z0 true true true (by decide) (by decide) (by decide)
      rw [sm_self] at h30
      rcases mg_eq r C U D r' C' U' D' with ⟨e, q⟩ | ⟨q1, q2, q3, e, q⟩
      · rw [q] at h28 h29
        have h30' := fun H => s30z H
        simp only [c6, heap0, go_sem, Int.cast_ofNat_Int, Int.reduceToNat, Bool.true_xor, Bool.false_xor, Bool.xor_true, Bool.xor_false, Nat.reduceAdd, Nat.reduceBEq, Nat.reduceLeDiff, Nat.reduceLT, Nat.reduceMul, Nat.reduceSub, Int.reduceEq, Int.reduceLT, Int.reduceLE, Int.reduceNeg, h10, h11, h13, h13', h28, h29, h30, h30', h31, h32, k1, k2]
      · rw [q] at h28 h29
        have h30' := fun H => s30 39 H r (sumC C C') U D true true true r (sumC C C') U D false false false (ln20 q1) (ln20 q2) (ln20 q3)
        rw [sm_self] at h30'
        simp only [c6, heap0, go_sem, Int.cast_ofNat_Int, Int.reduceToNat, Bool.true_xor, Bool.false_xor, Bool.xor_true, Bool.xor_false, Nat.reduceAdd, Nat.reduceBEq, Nat.reduceLeDiff, Nat.reduceLT, Nat.reduceMul, Nat.reduceSub, Int.reduceEq, Int.reduceLT, Int.reduceLE, Int.reduceNeg, h10, h11, h13, h13', h28, h29, h30, h30', h31, h32, k1, k2]
abbrev lrT : List DT := [.int .i64, .lst [.int .i64, .int .i64], .lst [.int .i64], .lst [.int .i64]]
theorem cS_of : ∀ {L : List (List SV)}, (∀ q ∈ L, FitsL [.int .i64, .int .i64] q) → ∃ N, L = cS N
  | [], _ => ⟨[], rfl⟩
  | q :: L, h => by
    obtain ⟨N, rfl⟩ := cS_of (L := L) (fun q hq => h q (by simp [hq]))
    have k := h q (by simp)
    obtain ⟨a, _, rfl, _, k⟩ := fitsL_i k
    obtain ⟨b, _, rfl, _, k⟩ := fitsL_i k
    cases fitsL_nil' k
    exact ⟨(a, b) :: N, rfl⟩
theorem iS_of : ∀ {L : List (List SV)}, (∀ q ∈ L, FitsL [.int .i64] q) → ∃ N, L = iS N
  | [], _ => ⟨[], rfl⟩
  | q :: L, h => by
    obtain ⟨N, rfl⟩ := iS_of (L := L) (fun q hq => h q (by simp [hq]))
    have k := h q (by simp)
    obtain ⟨a, _, rfl, _, k⟩ := fitsL_i k
    cases fitsL_nil' k
    exact ⟨a :: N, rfl⟩
theorem lr_of {x : SV} (h : FitsA (true, lrT) x) : ∃ r C U D f g h, x = lr r C U D f g h ∧ (-9223372036854775808 ≤ r ∧ r ≤ 9223372036854775807) := by
  obtain ⟨cs, rfl, k⟩ := fitsA_agg h
  obtain ⟨r, _, rfl, w, k⟩ := fitsL_i k
  obtain ⟨L1, f1, _, rfl, m1, a1, k⟩ := fitsL_l k
  obtain ⟨L2, f2, _, rfl, m2, a2, k⟩ := fitsL_l k
  obtain ⟨L3, f3, _, rfl, m3, a3, k⟩ := fitsL_l k
  cases fitsL_nil' k
  obtain ⟨C, rfl⟩ := cS_of a1
  obtain ⟨U, rfl⟩ := iS_of a2
  obtain ⟨D, rfl⟩ := iS_of a3
  refine ⟨r, C, U, D, f1, f2, f3, rfl, ?_⟩
  simp only [Lit.wf, Bool.and_eq_true, decide_eq_true_eq] at w
  exact w
theorem law6 (xs : List SV) (h : FitsAll [(true, lrT), (true, lrT)] xs) : ∃ m, call1 T m (.fn 6) xs heap0 = some (.bool true, heap0) := by
  obtain ⟨x1, r1, rfl, h1, h⟩ := fitsAll_cons h
  obtain ⟨x2, r2, rfl, h2, h⟩ := fitsAll_cons h
  cases fitsAll_nil h
  obtain ⟨r, C, U, D, f1, f2, f3, rfl, _⟩ := lr_of h1
  obtain ⟨r', C', U', D', f1', f2', f3', rfl, _⟩ := lr_of h2
  exact ⟨41, s6 r C U D f1 f2 f3 r' C' U' D' f1' f2' f3'⟩
end Go.Sh
