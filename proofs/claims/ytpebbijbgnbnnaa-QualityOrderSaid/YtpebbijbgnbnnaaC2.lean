

import Derived.Test.YtpebbijbgnbnnaaC1
namespace Go.Sh
set_option linter.unusedSectionVars false
set_option linter.unnecessarySimpa false
set_option linter.unusedVariables false
set_option linter.unusedSimpArgs false
set_option maxRecDepth 100000
set_option maxHeartbeats 4000000
def cS (C : List (Int × Int)) : List (List SV) := C.map fun c => [.int .i64 c.1, .int .i64 c.2]
@[go_sem] theorem cS_len (C) : (cS C).length = C.length := by simp [cS]
@[go_sem] theorem cS_get (C) (i : Nat) : (cS C)[i]? = (C[i]?).map (fun c => [.int .i64 c.1, .int .i64 c.2]) := by simp [cS]
theorem cS_still (C) : Still (cS C) := by
  intro cs hcs c hc
  simp only [cS, List.mem_map] at hcs
  obtain ⟨b, _, rfl⟩ := hcs
  simp only [List.mem_cons, List.not_mem_nil, or_false] at hc
  rcases hc with rfl | rfl <;> exact ⟨by simp [SV.refs], fun N H d => by simp only [frz]⟩
theorem cS_set (C : List (Int × Int)) (i : Nat) (c : Int × Int) : (cS C).set i [.int .i64 c.1, .int .i64 c.2] = cS (C.set i c) := by simp [cS, List.map_set]
theorem iS_set (C : List Int) (i : Nat) (c : Int) : (iS C).set i [.int .i64 c] = iS (C.set i c) := by simp [iS, List.map_set]
abbrev lr (r : Int) (C : List (Int × Int)) (U D : List Int) (f g h : Bool) : SV := .agg [.int .i64 r, .lst 2 (cS C) f, .lst 1 (iS U) g, .lst 1 (iS D) h]
abbrev lz : SV := .agg [.int .i64 0, .lst 0 [] true, .lst 0 [] true, .lst 0 [] true]
/-! ### hold -/
def hB (n : Int) : Bool := decide (n = 0) || decide (n = 1) || decide (n = 2) || decide (n = 4) || decide (n = 8) || decide (n = 16) || decide (n = 32) || decide (n = 64)
theorem hold_and : ∀ n : Fin 65, decide (w64 ((BitVec.ofInt 64 (n.val : Int) &&& BitVec.ofInt 64 (w64 ((n.val : Int) - 1))).toNat : Int) = 0) = hB n.val := by decide +kernel
theorem s41 (n : Nat) (H : Heap) (x : Int) : call1 T (n + 1) (.fn 41) [.int .i64 x] H = some (.bool (hB x), H) := by
  refine call_pure e41 (by rfl) ?_
  cases h1 : decide (0 ≤ x) with
  | false =>
    have : hB x = false := by simp only [decide_eq_false_iff_not] at h1; simp [hB]; omega
    simp only [c41, heap0, go_sem, Int.cast_ofNat_Int, Int.reduceToNat, Bool.true_xor, Bool.false_xor, Bool.xor_true, Bool.xor_false, Nat.reduceAdd, Nat.reduceBEq, Nat.reduceLeDiff, Nat.reduceLT, Nat.reduceMul, Nat.reduceSub, Int.reduceEq, Int.reduceLT, Int.reduceLE, Int.reduceNeg, h1, this]
  | true =>
    cases h2 : decide (x ≤ 64) with
    | false =>
      have : hB x = false := by simp only [decide_eq_false_iff_not] at h2; simp [hB]; omega
      simp only [c41, heap0, go_sem, Int.cast_ofNat_Int, Int.reduceToNat, Bool.true_xor, Bool.false_xor, Bool.xor_true, Bool.xor_false, Nat.reduceAdd, Nat.reduceBEq, Nat.reduceLeDiff, Nat.reduceLT, Nat.reduceMul, Nat.reduceSub, Int.reduceEq, Int.reduceLT, Int.reduceLE, Int.reduceNeg, h1, h2, this]
    | true =>
      have h1' := of_decide_eq_true h1
      have h2' := of_decide_eq_true h2
      have := hold_and ⟨x.toNat, by omega⟩
      rw [show ((⟨x.toNat, by omega⟩ : Fin 65).val : Int) = x from Int.toNat_of_nonneg h1'] at this
      simp only [c41, heap0, go_sem, Int.cast_ofNat_Int, Int.reduceToNat, Bool.true_xor, Bool.false_xor, Bool.xor_true, Bool.xor_false, Nat.reduceAdd, Nat.reduceBEq, Nat.reduceLeDiff, Nat.reduceLT, Nat.reduceMul, Nat.reduceSub, Int.reduceEq, Int.reduceLT, Int.reduceLE, Int.reduceNeg, h1, h2]
      exact congrArg (fun b => some (SV.bool b)) this
theorem s51 (n : Nat) (H : Heap) (x : Int) : call1 T (n + 1) (.fn 51) [.int .i64 x] H = some (.bool (hB x), H) := by
  refine call_pure e51 (by rfl) ?_
  simp only [c51, heap0, go_sem, Int.cast_ofNat_Int, Int.reduceToNat, Bool.true_xor, Bool.false_xor, Bool.xor_true, Bool.xor_false, Nat.reduceAdd, Nat.reduceBEq, Nat.reduceLeDiff, Nat.reduceLT, Nat.reduceMul, Nat.reduceSub, Int.reduceEq, Int.reduceLT, Int.reduceLE, Int.reduceNeg]
  refine loop_rule (fun i => ([(0, .int .i64 x), (3, .int .i64 (2 ^ i))], ⟨[], [], 0⟩)) (fun i => ∀ j, j < i → x ≠ 2 ^ j) 7 (by simp only [go_sem, Int.cast_ofNat_Int, Int.reduceToNat, Bool.true_xor, Bool.false_xor, Bool.xor_true, Bool.xor_false, Nat.reduceAdd, Nat.reduceBEq, Nat.reduceLeDiff, Nat.reduceLT, Nat.reduceMul, Nat.reduceSub, Int.reduceEq, Int.reduceLT, Int.reduceLE, Int.reduceNeg]; rfl) (fun j h => by omega) ?_
  intro i hi hP
  rcases Nat.lt_or_ge i 7 with hlt | hge
  · have hp : ∀ i : Nat, i < 7 → ((2 : Int) ^ i ≤ 64) ∧ w64 (2 * 2 ^ i) = (2 : Int) ^ (i + 1) ∧ hB (2 ^ i) = true := by decide +kernel
    obtain ⟨p1, p2, p3⟩ := hp i hlt
    simp only [go_sem, Int.cast_ofNat_Int, Int.reduceToNat, Bool.true_xor, Bool.false_xor, Bool.xor_true, Bool.xor_false, Nat.reduceAdd, Nat.reduceBEq, Nat.reduceLeDiff, Nat.reduceLT, Nat.reduceMul, Nat.reduceSub, Int.reduceEq, Int.reduceLT, Int.reduceLE, Int.reduceNeg, p1, p2]
    with_reducible refine post_fork (fun hx => ?_) (fun hx => ?_)
    · have hx := of_decide_eq_true hx
      subst hx
      simp only [go_sem, Int.cast_ofNat_Int, Int.reduceToNat, Bool.true_xor, Bool.false_xor, Bool.xor_true, Bool.xor_false, Nat.reduceAdd, Nat.reduceBEq, Nat.reduceLeDiff, Nat.reduceLT, Nat.reduceMul, Nat.reduceSub, Int.reduceEq, Int.reduceLT, Int.reduceLE, Int.reduceNeg, p3]
    · have hx := of_decide_eq_false hx
      simp only [go_sem, Int.cast_ofNat_Int, Int.reduceToNat, Bool.true_xor, Bool.false_xor, Bool.xor_true, Bool.xor_false, Nat.reduceAdd, Nat.reduceBEq, Nat.reduceLeDiff, Nat.reduceLT, Nat.reduceMul, Nat.reduceSub, Int.reduceEq, Int.reduceLT, Int.reduceLE, Int.reduceNeg, hlt, p2]
      refine ⟨trivial, by first | trivial | rfl, fun j hj => ?_⟩
      rcases Nat.lt_or_ge j i with h3 | h3
      · exact hP j h3
      · obtain rfl : j = i := by omega
        exact hx
  · obtain rfl : i = 7 := by omega
    have hb : decide (x = 0) = hB x := by
      have q0 := hP 0 (by omega)
      have q1 := hP 1 (by omega)
      have q2 := hP 2 (by omega)
      have q3 := hP 3 (by omega)
      have q4 := hP 4 (by omega)
      have q5 := hP 5 (by omega)
      have q6 := hP 6 (by omega)
      simp only [Int.reducePow] at q0 q1 q2 q3 q4 q5 q6
      simp [hB, q1, q2, q3, q4, q5, q6]
      intro h; exact absurd h q0
    simp only [go_sem, Int.cast_ofNat_Int, Int.reduceToNat, Bool.true_xor, Bool.false_xor, Bool.xor_true, Bool.xor_false, Nat.reduceAdd, Nat.reduceBEq, Nat.reduceLeDiff, Nat.reduceLT, Nat.reduceMul, Nat.reduceSub, Int.reduceEq, Int.reduceLT, Int.reduceLE, Int.reduceNeg, show decide ((2 : Int) ^ 7 ≤ 64) = false from by decide, hb]
/-! ### Valid -/
def okAt (r : Int) (c : Int × Int) (u d : Int) : Bool := cB c.1 c.2 && hB d && !(!decide (u = 0) && (decide (u ≤ r) || decide (w64 (r + 64) < u) || decide (d = 0)))
def okI (r : Int) (C : List (Int × Int)) (U D : List Int) (i : Nat) : Bool := match C[i]?, U[i]?, D[i]? with
  | some c, some u, some d => okAt r c u d
  | _, _, _ => false
def lenB (r : Int) (C : List (Int × Int)) (U D : List Int) : Bool := decide (0 ≤ r) && decide (r ≤ 1073741824) && decide (C.length = 16) && decide (U.length = 16) && decide (D.length = 16)
def vB (r : Int) (C : List (Int × Int)) (U D : List Int) : Bool := lenB r C U D && (List.range 16).all (okI r C U D)
def vI (r : Int) (C : List (Int × Int)) (U D : List Int) : Int := bif vB r C U D then 0 else 1
@[go_sem] theorem vI0 (r C U D) : decide (vI r C U D = 0) = vB r C U D := by unfold vI; cases vB r C U D <;> rfl
theorem vI_no {r C U D} (h : vB r C U D = false) : vI r C U D = 1 := by simp only [vI, h, cond_false]
theorem vI_yes {r C U D} (h : vB r C U D = true) : vI r C U D = 0 := by simp only [vI, h, cond_true]
theorem vB_at {r C U D} {i : Nat} (hi : i < 16) (h : okI r C U D i = false) : vB r C U D = false := by
  simp only [vB, Bool.and_eq_false_imp]
  intro _
  rw [List.all_eq_false]
  exact ⟨i, by simp [hi], by simp [h]⟩
theorem vB_all {r C U D} (h1 : lenB r C U D = true) (h : ∀ i, i < 16 → okI r C U D i = true) : vB r C U D = true := by
  simp only [vB, h1, Bool.true_and, List.all_eq_true, List.mem_range]
  exact h
@[go_sem] theorem lenD (n : Nat) : decide ((n : Int) = 16) = decide (n = 16) := by
  rw [Bool.eq_iff_iff, decide_eq_true_eq, decide_eq_true_eq]; omega
theorem s12 (n : Nat) (H : Heap) (r C U D f g h) : call1 T (n + 2) (.fn 12) [lr r C U D f g h] H = some (.int .i64 (vI r C U D), H) := by
  refine call_pure e12 (by rfl) ?_
  cases hl : lenB r C U D with
  | false =>
    have hv : vI r C U D = 1 := vI_no (by simp only [vB, hl, Bool.false_and])
    simp only [c12, heap0, go_sem, Int.cast_ofNat_Int, Int.reduceToNat, Bool.true_xor, Bool.false_xor, Bool.xor_true, Bool.xor_false, Nat.reduceAdd, Nat.reduceBEq, Nat.reduceLeDiff, Nat.reduceLT, Nat.reduceMul, Nat.reduceSub, Int.reduceEq, Int.reduceLT, Int.reduceLE, Int.reduceNeg, hv, lenD]
    cases h1 : decide (r < 0) with
    | true => simp only [*, s24, s41, go_sem, Int.cast_ofNat_Int, Int.reduceToNat, Bool.true_xor, Bool.false_xor, Bool.xor_true, Bool.xor_false, Nat.reduceAdd, Nat.reduceBEq, Nat.reduceLeDiff, Nat.reduceLT, Nat.reduceMul, Nat.reduceSub, Int.reduceEq, Int.reduceLT, Int.reduceLE, Int.reduceNeg]
    | false =>
      cases h2 : decide (1073741824 < r) with
      | true => simp only [*, s24, s41, go_sem, Int.cast_ofNat_Int, Int.reduceToNat, Bool.true_xor, Bool.false_xor, Bool.xor_true, Bool.xor_false, Nat.reduceAdd, Nat.reduceBEq, Nat.reduceLeDiff, Nat.reduceLT, Nat.reduceMul, Nat.reduceSub, Int.reduceEq, Int.reduceLT, Int.reduceLE, Int.reduceNeg]
      | false =>
        cases h3 : decide (C.length = 16) with
        | false => simp only [*, s24, s41, go_sem, Int.cast_ofNat_Int, Int.reduceToNat, Bool.true_xor, Bool.false_xor, Bool.xor_true, Bool.xor_false, Nat.reduceAdd, Nat.reduceBEq, Nat.reduceLeDiff, Nat.reduceLT, Nat.reduceMul, Nat.reduceSub, Int.reduceEq, Int.reduceLT, Int.reduceLE, Int.reduceNeg]
        | true =>
          cases h4 : decide (U.length = 16) with
          | false => simp only [*, s24, s41, go_sem, Int.cast_ofNat_Int, Int.reduceToNat, Bool.true_xor, Bool.false_xor, Bool.xor_true, Bool.xor_false, Nat.reduceAdd, Nat.reduceBEq, Nat.reduceLeDiff, Nat.reduceLT, Nat.reduceMul, Nat.reduceSub, Int.reduceEq, Int.reduceLT, Int.reduceLE, Int.reduceNeg]
          | true =>
            have h5 : decide (D.length = 16) = false := by
              rw [Bool.eq_false_iff]; intro h5
              simp only [decide_eq_true_eq, decide_eq_false_iff_not] at h1 h2 h3 h4 h5
              simp only [lenB, Bool.and_eq_false_iff, decide_eq_false_iff_not] at hl
              omega
            simp only [*, s24, s41, go_sem, Int.cast_ofNat_Int, Int.reduceToNat, Bool.true_xor, Bool.false_xor, Bool.xor_true, Bool.xor_false, Nat.reduceAdd, Nat.reduceBEq, Nat.reduceLeDiff, Nat.reduceLT, Nat.reduceMul, Nat.reduceSub, Int.reduceEq, Int.reduceLT, Int.reduceLE, Int.reduceNeg, h5]
  | true =>
    have hl' := hl
    simp only [lenB, Bool.and_eq_true, decide_eq_true_eq] at hl'
    obtain ⟨⟨⟨⟨r0, r1⟩, hC⟩, hU⟩, hD⟩ := hl'
    have g0 : decide (r < 0) = false := decide_eq_false (by omega)
    have g1 : decide (1073741824 < r) = false := decide_eq_false (by omega)
    simp only [c12, heap0, go_sem, Int.cast_ofNat_Int, Int.reduceToNat, Bool.true_xor, Bool.false_xor, Bool.xor_true, Bool.xor_false, Nat.reduceAdd, Nat.reduceBEq, Nat.reduceLeDiff, Nat.reduceLT, Nat.reduceMul, Nat.reduceSub, Int.reduceEq, Int.reduceLT, Int.reduceLE, Int.reduceNeg, lenD, g0, g1, hC, hU, hD]
    refine loop_rule (fun i => ([(1, .ptr 0 0 0 0), (33, .lst 2 (cS C) f), (34, .int .i64 16), (35, .int .i64 i)], ⟨[.box [.int .i64 r, .lst 2 (cS C) f, .lst 1 (iS U) g, .lst 1 (iS D) h]], [], 0⟩))
      (fun i => ∀ j, j < i → okI r C U D j = true) 16 (by simp only [*, s24, s41, go_sem, Int.cast_ofNat_Int, Int.reduceToNat, Bool.true_xor, Bool.false_xor, Bool.xor_true, Bool.xor_false, Nat.reduceAdd, Nat.reduceBEq, Nat.reduceLeDiff, Nat.reduceLT, Nat.reduceMul, Nat.reduceSub, Int.reduceEq, Int.reduceLT, Int.reduceLE, Int.reduceNeg]; rfl) (fun j h => by omega) ?_
    intro i hi hP
    rcases Nat.lt_or_ge i 16 with hlt | hge
    · obtain ⟨c, hc⟩ := getS (l := C) (i := i) (by omega)
      obtain ⟨u, hu⟩ := getS (l := U) (i := i) (by omega)
      obtain ⟨d, hd⟩ := getS (l := D) (i := i) (by omega)
      have hok : okI r C U D i = okAt r c u d := by simp only [okI, hc, hu, hd]
      have hw : w64 ((i : Int) + 1) = ((i + 1 : Nat) : Int) := w64_suc (n := 16) hlt (by decide)
      have hlt' : decide ((i : Int) < 16) = true := decide_eq_true (by omega)
      have hlC : i < C.length := by omega
      have hlU : i < U.length := by omega
      have hlD : i < D.length := by omega
      have fin : okAt r c u d = false → vI r C U D = 1 := fun h => vI_no (vB_at hlt (by rw [hok, h]))
      have go : okAt r c u d = true → ∀ j, j < i + 1 → okI r C U D j = true := fun h j hj => by
        rcases Nat.lt_or_ge j i with h3 | h3
        · exact hP j h3
        · obtain rfl : j = i := by omega
          rw [hok, h]
      simp only [*, s24, s41, go_sem, Int.cast_ofNat_Int, Int.reduceToNat, Bool.true_xor, Bool.false_xor, Bool.xor_true, Bool.xor_false, Nat.reduceAdd, Nat.reduceBEq, Nat.reduceLeDiff, Nat.reduceLT, Nat.reduceMul, Nat.reduceSub, Int.reduceEq, Int.reduceLT, Int.reduceLE, Int.reduceNeg, hlt', hlC, hlU, hlD, hc, hu, hd, s24, s41, hw]
      cases k1 : cB c.1 c.2 with
      | false => simp only [*, s24, s41, go_sem, Int.cast_ofNat_Int, Int.reduceToNat, Bool.true_xor, Bool.false_xor, Bool.xor_true, Bool.xor_false, Nat.reduceAdd, Nat.reduceBEq, Nat.reduceLeDiff, Nat.reduceLT, Nat.reduceMul, Nat.reduceSub, Int.reduceEq, Int.reduceLT, Int.reduceLE, Int.reduceNeg, fin (by simp only [okAt, k1, Bool.false_and])]
      | true =>
        cases k2 : hB d with
        | false => simp only [*, s24, s41, go_sem, Int.cast_ofNat_Int, Int.reduceToNat, Bool.true_xor, Bool.false_xor, Bool.xor_true, Bool.xor_false, Nat.reduceAdd, Nat.reduceBEq, Nat.reduceLeDiff, Nat.reduceLT, Nat.reduceMul, Nat.reduceSub, Int.reduceEq, Int.reduceLT, Int.reduceLE, Int.reduceNeg, fin (by simp only [okAt, k1, k2, Bool.false_and, Bool.true_and])]
        | true =>
          cases k3 : decide (u = 0) with
          | true =>
            simp only [*, s24, s41, go_sem, Int.cast_ofNat_Int, Int.reduceToNat, Bool.true_xor, Bool.false_xor, Bool.xor_true, Bool.xor_false, Nat.reduceAdd, Nat.reduceBEq, Nat.reduceLeDiff, Nat.reduceLT, Nat.reduceMul, Nat.reduceSub, Int.reduceEq, Int.reduceLT, Int.reduceLE, Int.reduceNeg, hlt]
            exact ⟨trivial, by first | trivial | rfl, go (by simp only [okAt, k1, k2, k3]; rfl)⟩
          | false =>
            cases k4 : decide (u ≤ r) with
            | true => simp only [*, s24, s41, go_sem, Int.cast_ofNat_Int, Int.reduceToNat, Bool.true_xor, Bool.false_xor, Bool.xor_true, Bool.xor_false, Nat.reduceAdd, Nat.reduceBEq, Nat.reduceLeDiff, Nat.reduceLT, Nat.reduceMul, Nat.reduceSub, Int.reduceEq, Int.reduceLT, Int.reduceLE, Int.reduceNeg, fin (by simp only [okAt, k1, k2, k3, k4]; rfl)]
            | false =>
              cases k5 : decide (w64 (r + 64) < u) with
              | true => simp only [*, s24, s41, go_sem, Int.cast_ofNat_Int, Int.reduceToNat, Bool.true_xor, Bool.false_xor, Bool.xor_true, Bool.xor_false, Nat.reduceAdd, Nat.reduceBEq, Nat.reduceLeDiff, Nat.reduceLT, Nat.reduceMul, Nat.reduceSub, Int.reduceEq, Int.reduceLT, Int.reduceLE, Int.reduceNeg, k5, fin (by simp only [okAt, k1, k2, k3, k4, k5]; rfl)]
              | false =>
                cases k6 : decide (d = 0) with
                | true => simp only [*, s24, s41, go_sem, Int.cast_ofNat_Int, Int.reduceToNat, Bool.true_xor, Bool.false_xor, Bool.xor_true, Bool.xor_false, Nat.reduceAdd, Nat.reduceBEq, Nat.reduceLeDiff, Nat.reduceLT, Nat.reduceMul, Nat.reduceSub, Int.reduceEq, Int.reduceLT, Int.reduceLE, Int.reduceNeg, k5, hlD, hd, k6, fin (by simp only [okAt, k1, k2, k3, k4, k5, k6]; rfl)]
                | false =>
                  simp only [*, s24, s41, go_sem, Int.cast_ofNat_Int, Int.reduceToNat, Bool.true_xor, Bool.false_xor, Bool.xor_true, Bool.xor_false, Nat.reduceAdd, Nat.reduceBEq, Nat.reduceLeDiff, Nat.reduceLT, Nat.reduceMul, Nat.reduceSub, Int.reduceEq, Int.reduceLT, Int.reduceLE, Int.reduceNeg, k5, hlD, hd, k6, hlt]
                  exact ⟨trivial, by first | trivial | rfl, go (by simp only [okAt, k1, k2, k3, k4, k5, k6]; rfl)⟩
    · obtain rfl : i = 16 := by omega
      have hv : vI r C U D = 0 := vI_yes (vB_all hl (fun j hj => hP j hj))
      simp only [*, s24, s41, go_sem, Int.cast_ofNat_Int, Int.reduceToNat, Bool.true_xor, Bool.false_xor, Bool.xor_true, Bool.xor_false, Nat.reduceAdd, Nat.reduceBEq, Nat.reduceLeDiff, Nat.reduceLT, Nat.reduceMul, Nat.reduceSub, Int.reduceEq, Int.reduceLT, Int.reduceLE, Int.reduceNeg, hv, show decide (((16 : Nat) : Int) < 16) = false from by decide]
end Go.Sh
namespace Go.Sh
set_option linter.unusedSectionVars false
set_option linter.unnecessarySimpa false
set_option linter.unusedVariables false
set_option linter.unusedSimpArgs false
set_option maxRecDepth 100000
set_option maxHeartbeats 4000000
@[go_sem] theorem fz_cS (N H d v C e) : fzB N H (d + 1) v 0 C.length (some (.arr v 2 (cS C) e)) = some (.lst 2 (cS C) e) := (cS_still C).fz N H d v _ 2 e (cS_len C)
@[go_sem] theorem fz_iS (N H d v C e) : fzB N H (d + 1) v 0 C.length (some (.arr v 1 (iS C) e)) = some (.lst 1 (iS C) e) := (Still.ints C).fz N H d v _ 1 e iS_len
theorem fz_cS16 (N H d v C e) (h : C.length = 16) : fzB N H (d + 1) v 0 16 (some (.arr v 2 (cS C) e)) = some (.lst 2 (cS C) e) := by rw [← h]; exact fz_cS N H d v C e
theorem fz_iS16 (N H d v C e) (h : C.length = 16) : fzB N H (d + 1) v 0 16 (some (.arr v 1 (iS C) e)) = some (.lst 1 (iS C) e) := by rw [← h]; exact fz_iS N H d v C e
@[go_sem] theorem refs_cS (C) : SV.refs.refsL (cS C).flatten = 0 := (cS_still C).zero
@[go_sem] theorem refs_iS (C) : SV.refs.refsL (iS C).flatten = 0 := (Still.ints C).zero
def C0 : List (Int × Int) := List.replicate 16 (0, 0)
def Z0 : List Int := List.replicate 16 0
@[go_sem] theorem C0_len : C0.length = 16 := by rfl
@[go_sem] theorem Z0_len : Z0.length = 16 := by rfl
@[go_sem] theorem mkC0 (H : Heap) : smake 2 [.int .i64 0, .int .i64 0] 16 H (.int .i64 16) (.int .i64 16) = some (.slc H.bl.length 0 0 16, hnew H (.arr 0 2 (cS C0) true)) := by rfl
@[go_sem] theorem mkZ0 (H : Heap) : smake 1 [.int .i64 0] 8 H (.int .i64 16) (.int .i64 16) = some (.slc H.bl.length 0 0 16, hnew H (.arr 0 1 (iS Z0) true)) := by rfl
theorem cpB_full {esz : Nat} {H : Heap} {X L : List (List SV)} {b v n : Nat} {e : Bool} (hX : X.length = n) (hL : L.length = n) (h0 : SV.refs.refsL X.flatten = 0) : cpB esz H X b v 0 n (some (.arr v esz L e)) = (hset H b (.arr v esz X e) 0).map fun H => (.int .i64 n, H) := by
  subst hX
  simp only [cpB_arr, Nat.zero_add, hL, Nat.le_refl, decide_true, cond_true, h0, List.take_zero, List.nil_append, List.take_length, Nat.min_self]
  rw [List.drop_of_length_le (by omega), List.append_nil]
theorem few16 {n : Nat} (h : n ≤ 20) : decide (n * 16 ≤ mostLen) = true ∧ decide (n * 8 ≤ mostLen) = true := by
  simp only [decide_eq_true_eq]
  exact ⟨Nat.le_trans (show n * 16 ≤ 1000 by omega) (by decide), Nat.le_trans (show n * 8 ≤ 1000 by omega) (by decide)⟩
theorem s13 (n : Nat) (H : Heap) (r C U D f g h) (hC : C.length ≤ 20) (hU : U.length ≤ 20) (hD : D.length ≤ 20) : call1 T (n + 1) (.fn 13) [lr r C U D f g h] H = some (lr r C U D false false false, H) := by
  refine call_pure e13 (by rfl) ?_
  simp only [c13, heap0, go_sem, Int.cast_ofNat_Int, Int.reduceToNat, Bool.true_xor, Bool.false_xor, Bool.xor_true, Bool.xor_false, Nat.reduceAdd, Nat.reduceBEq, Nat.reduceLeDiff, Nat.reduceLT, Nat.reduceMul, Nat.reduceSub, Int.reduceEq, Int.reduceLT, Int.reduceLE, Int.reduceNeg, (few16 hC).1, (few16 hU).2, (few16 hD).2]
theorem s13z (H : Heap) : call1 T 40 (.fn 13) [lz] H = some (lr 0 [] [] [] false false false, H) := pure_any e13 (by rfl) (callB_up (T := T) 100 40 (.fn 13) [lz] heap0 (lr 0 [] [] [] false false false, heap0) (by kernel_rfl))
@[go_sem] theorem dmax {a b c d : Nat} : decide (max 0 (max a (max b (max c 0))) ≤ d) = (decide (a ≤ d) && decide (b ≤ d) && decide (c ≤ d)) := by
  rw [Bool.eq_iff_iff]; simp; omega
/-- A learner whose lists lie in blocks. -/
abbrev ls (r : Int) (b : Nat) (c u d : Nat) : SV := .agg [.int .i64 r, .slc b 0 0 c, .slc (b + 1) 0 0 u, .slc (b + 2) 0 0 d]
abbrev lsC (r : Int) (b : Nat) (c u d : Nat) : List SV := [.int .i64 r, .slc b 0 0 c, .slc (b + 1) 0 0 u, .slc (b + 2) 0 0 d]
theorem s13k (n : Nat) (x y z : SBlk) (es : List (Nat × Nat)) (r C U D f g h) (hC : C.length ≤ 20) (hU : U.length ≤ 20) (hD : D.length ≤ 20) : call1 T (n + 1) (.kfn 13) [lr r C U D f g h] ⟨[x, y, z], es, 0⟩ =
    some (ls r 5 C.length U.length D.length, ⟨[x, y, z, .box [.int .i64 r, .lst 2 (cS C) f, .lst 1 (iS U) g, .lst 1 (iS D) h], .box (lsC r 5 C.length U.length D.length), .arr 0 2 (cS C) false, .arr 0 1 (iS U) false, .arr 0 1 (iS D) false], es ++ [(4, max 0 (max 6 (max 7 (max 8 0))))], 0⟩) := by
  refine kcall_in e13 ?_
  simp only [c13, heap0, go_sem, Int.cast_ofNat_Int, Int.reduceToNat, Bool.true_xor, Bool.false_xor, Bool.xor_true, Bool.xor_false, Nat.reduceAdd, Nat.reduceBEq, Nat.reduceLeDiff, Nat.reduceLT, Nat.reduceMul, Nat.reduceSub, Int.reduceEq, Int.reduceLT, Int.reduceLE, Int.reduceNeg, (few16 hC).1, (few16 hU).2, (few16 hD).2]
theorem s13k2 (n : Nat) (x y : SBlk) (es : List (Nat × Nat)) (r C U D f g h) (hC : C.length ≤ 20) (hU : U.length ≤ 20) (hD : D.length ≤ 20) : call1 T (n + 1) (.kfn 13) [lr r C U D f g h] ⟨[x, y], es, 0⟩ =
    some (ls r 4 C.length U.length D.length, ⟨[x, y, .box [.int .i64 r, .lst 2 (cS C) f, .lst 1 (iS U) g, .lst 1 (iS D) h], .box (lsC r 4 C.length U.length D.length), .arr 0 2 (cS C) false, .arr 0 1 (iS U) false, .arr 0 1 (iS D) false], es ++ [(3, max 0 (max 5 (max 6 (max 7 0))))], 0⟩) := by
  refine kcall_in e13 ?_
  simp only [c13, heap0, go_sem, Int.cast_ofNat_Int, Int.reduceToNat, Bool.true_xor, Bool.false_xor, Bool.xor_true, Bool.xor_false, Nat.reduceAdd, Nat.reduceBEq, Nat.reduceLeDiff, Nat.reduceLT, Nat.reduceMul, Nat.reduceSub, Int.reduceEq, Int.reduceLT, Int.reduceLE, Int.reduceNeg, (few16 hC).1, (few16 hU).2, (few16 hD).2]
theorem s31 (n : Nat) (H : Heap) : call1 T (n + 1) (.fn 31) [] H = some (lr 0 C0 Z0 Z0 true true true, H) := by
  refine call_pure e31 (by rfl) ?_
  simp only [c31, heap0, go_sem, Int.cast_ofNat_Int, Int.reduceToNat, Bool.true_xor, Bool.false_xor, Bool.xor_true, Bool.xor_false, Nat.reduceAdd, Nat.reduceBEq, Nat.reduceLeDiff, Nat.reduceLT, Nat.reduceMul, Nat.reduceSub, Int.reduceEq, Int.reduceLT, Int.reduceLE, Int.reduceNeg, fz_cS16, fz_iS16]
theorem s32 (n : Nat) (H : Heap) : call1 T (n + 1) (.fn 32) [] H = some (lr 0 C0 Z0 Z0 true true true, H) := by
  refine call_pure e32 (by rfl) ?_
  simp only [c32, heap0, go_sem, Int.cast_ofNat_Int, Int.reduceToNat, Bool.true_xor, Bool.false_xor, Bool.xor_true, Bool.xor_false, Nat.reduceAdd, Nat.reduceBEq, Nat.reduceLeDiff, Nat.reduceLT, Nat.reduceMul, Nat.reduceSub, Int.reduceEq, Int.reduceLT, Int.reduceLE, Int.reduceNeg, fz_cS16, fz_iS16]
theorem s31k (n : Nat) (x y z u v : SBlk) (es : List (Nat × Nat)) : call1 T (n + 1) (.kfn 31) [] ⟨[x, y, z, u, v], es, 0⟩ =
    some (ls 0 6 16 16 16, ⟨[x, y, z, u, v, .box (lsC 0 6 16 16 16), .arr 0 2 (cS C0) true, .arr 0 1 (iS Z0) true, .arr 0 1 (iS Z0) true], es ++ [(5, max 0 (max 7 (max 8 (max 9 0))))], 0⟩) := by
  refine kcall_in e31 ?_
  simp only [c31, heap0, go_sem, Int.cast_ofNat_Int, Int.reduceToNat, Bool.true_xor, Bool.false_xor, Bool.xor_true, Bool.xor_false, Nat.reduceAdd, Nat.reduceBEq, Nat.reduceLeDiff, Nat.reduceLT, Nat.reduceMul, Nat.reduceSub, Int.reduceEq, Int.reduceLT, Int.reduceLE, Int.reduceNeg]
theorem tk_cS (C) (h : C.length = 16) : (cS C).take 16 = cS C := List.take_of_length_le (by rw [cS_len]; omega)
theorem tk_iS (C) (h : C.length = 16) : (iS C).take 16 = iS C := List.take_of_length_le (by rw [iS_len]; omega)
theorem dr_C0 : (cS C0).drop (min 16 16) = [] := rfl
theorem dr_Z0 : (iS Z0).drop (min 16 16) = [] := rfl
theorem s47k (n : Nat) (x y z : SBlk) (es : List (Nat × Nat)) (r C U D f g h) (hC : C.length = 16) (hU : U.length = 16) (hD : D.length = 16) : call1 T (n + 2) (.kfn 47) [lr r C U D f g h] ⟨[x, y, z], es, 0⟩ =
    some (ls r 6 16 16 16, ⟨[x, y, z, .box [.int .i64 r, .lst 2 (cS C) f, .lst 1 (iS U) g, .lst 1 (iS D) h], .box (lsC r 6 16 16 16), .box (lsC 0 6 16 16 16), .arr 0 2 (cS C) true, .arr 0 1 (iS U) true, .arr 0 1 (iS D) true, .box (lsC r 6 16 16 16)],
      es ++ [(4, max 0 (max 7 (max 8 (max 9 0)))), (5, max 0 (max 7 (max 8 (max 9 0))))], 0⟩) := by
  refine kcall_in e47 ?_
  simp only [c47, heap0, go_sem, Int.cast_ofNat_Int, Int.reduceToNat, Bool.true_xor, Bool.false_xor, Bool.xor_true, Bool.xor_false, Nat.reduceAdd, Nat.reduceBEq, Nat.reduceLeDiff, Nat.reduceLT, Nat.reduceMul, Nat.reduceSub, Int.reduceEq, Int.reduceLT, Int.reduceLE, Int.reduceNeg, s31k, hC, hU, hD, tk_cS _ hC, tk_iS _ hU, tk_iS _ hD, dr_C0, dr_Z0]
end Go.Sh
namespace Go.Sh
set_option linter.unusedSectionVars false
set_option linter.unnecessarySimpa false
set_option linter.unusedVariables false
set_option linter.unusedSimpArgs false
set_option maxRecDepth 100000
set_option maxHeartbeats 4000000
theorem ext_upto {A : Type} {L M : List A} (hl : L.length = M.length) {i : Nat} (hi : L.length ≤ i) (h : ∀ j : Nat, j < i → L[j]? = M[j]?) : L = M := List.ext_getElem? (fun j => by
  rcases Nat.lt_or_ge j L.length with h3 | h3
  · exact h j (by omega)
  · rw [List.getElem?_eq_none h3, List.getElem?_eq_none (by omega)])
theorem upto_suc {A : Type} {L M : List A} {i : Nat} (h : ∀ j : Nat, j < i → L[j]? = M[j]?) (hi : L[i]? = M[i]?) : ∀ j : Nat, j < i + 1 → L[j]? = M[j]? := fun j hj => by
  rcases Nat.lt_or_ge j i with h3 | h3
  · exact h j h3
  · obtain rfl : j = i := by omega
    exact hi
def smB (r : Int) (C : List (Int × Int)) (U D : List Int) (r' : Int) (C' : List (Int × Int)) (U' D' : List Int) : Bool := decide (r = r' ∧ C = C' ∧ U = U' ∧ D = D')
@[go_sem] theorem lenE (a b : Nat) : decide ((a : Int) = (b : Int)) = decide (a = b) := by
  rw [Bool.eq_iff_iff, decide_eq_true_eq, decide_eq_true_eq]; omega
theorem s30 (n : Nat) (H : Heap) (r C U D f g h r' C' U' D' f' g' h') (hC : C.length ≤ maxLen) (hU : U.length ≤ maxLen) (hD : D.length ≤ maxLen) :
    call1 T (n + 1) (.fn 30) [lr r C U D f g h, lr r' C' U' D' f' g' h'] H = some (.bool (smB r C U D r' C' U' D'), H) := by
  refine call_pure e30 (by rfl) ?_
  have fin : (r ≠ r' ∨ C ≠ C' ∨ U ≠ U' ∨ D ≠ D') → smB r C U D r' C' U' D' = false := fun h => by
    rw [smB, decide_eq_false_iff_not]; rintro ⟨rfl, rfl, rfl, rfl⟩; simp at h
  simp only [c30, heap0, go_sem, Int.cast_ofNat_Int, Int.reduceToNat, Bool.true_xor, Bool.false_xor, Bool.xor_true, Bool.xor_false, Nat.reduceAdd, Nat.reduceBEq, Nat.reduceLeDiff, Nat.reduceLT, Nat.reduceMul, Nat.reduceSub, Int.reduceEq, Int.reduceLT, Int.reduceLE, Int.reduceNeg, lenE]
  cases h1 : decide (r = r') with
  | false => simp only [go_sem, Int.cast_ofNat_Int, Int.reduceToNat, Bool.true_xor, Bool.false_xor, Bool.xor_true, Bool.xor_false, Nat.reduceAdd, Nat.reduceBEq, Nat.reduceLeDiff, Nat.reduceLT, Nat.reduceMul, Nat.reduceSub, Int.reduceEq, Int.reduceLT, Int.reduceLE, Int.reduceNeg, fin (.inl (of_decide_eq_false h1))]
  | true =>
    cases h2 : decide (C.length = C'.length) with
    | false => simp only [go_sem, Int.cast_ofNat_Int, Int.reduceToNat, Bool.true_xor, Bool.false_xor, Bool.xor_true, Bool.xor_false, Nat.reduceAdd, Nat.reduceBEq, Nat.reduceLeDiff, Nat.reduceLT, Nat.reduceMul, Nat.reduceSub, Int.reduceEq, Int.reduceLT, Int.reduceLE, Int.reduceNeg, h2, fin (.inr (.inl (fun h => by subst h; simp at h2)))]
    | true =>
      cases h3 : decide (U.length = U'.length) with
      | false => simp only [go_sem, Int.cast_ofNat_Int, Int.reduceToNat, Bool.true_xor, Bool.false_xor, Bool.xor_true, Bool.xor_false, Nat.reduceAdd, Nat.reduceBEq, Nat.reduceLeDiff, Nat.reduceLT, Nat.reduceMul, Nat.reduceSub, Int.reduceEq, Int.reduceLT, Int.reduceLE, Int.reduceNeg, h2, h3, fin (.inr (.inr (.inl (fun h => by subst h; simp at h3))))]
      | true =>
        cases h4 : decide (D.length = D'.length) with
        | false => simp only [go_sem, Int.cast_ofNat_Int, Int.reduceToNat, Bool.true_xor, Bool.false_xor, Bool.xor_true, Bool.xor_false, Nat.reduceAdd, Nat.reduceBEq, Nat.reduceLeDiff, Nat.reduceLT, Nat.reduceMul, Nat.reduceSub, Int.reduceEq, Int.reduceLT, Int.reduceLE, Int.reduceNeg, h2, h3, h4, fin (.inr (.inr (.inr (fun h => by subst h; simp at h4))))]
        | true =>
          have hr := of_decide_eq_true h1
          have lC := of_decide_eq_true h2
          have lU := of_decide_eq_true h3
          have lD := of_decide_eq_true h4
          simp only [go_sem, Int.cast_ofNat_Int, Int.reduceToNat, Bool.true_xor, Bool.false_xor, Bool.xor_true, Bool.xor_false, Nat.reduceAdd, Nat.reduceBEq, Nat.reduceLeDiff, Nat.reduceLT, Nat.reduceMul, Nat.reduceSub, Int.reduceEq, Int.reduceLT, Int.reduceLE, Int.reduceNeg, h2, h3, h4]
          refine loop_rule (fun i => ([(2, .ptr 0 0 0 0), (3, .ptr 1 0 0 0), (5, .int .i64 i)], ⟨[.box [.int .i64 r, .lst 2 (cS C) f, .lst 1 (iS U) g, .lst 1 (iS D) h], .box [.int .i64 r', .lst 2 (cS C') f', .lst 1 (iS U') g', .lst 1 (iS D') h']], [], 0⟩))
            (fun i => ∀ j : Nat, j < i → C[j]? = C'[j]?) C.length (by simp only [go_sem, Int.cast_ofNat_Int, Int.reduceToNat, Bool.true_xor, Bool.false_xor, Bool.xor_true, Bool.xor_false, Nat.reduceAdd, Nat.reduceBEq, Nat.reduceLeDiff, Nat.reduceLT, Nat.reduceMul, Nat.reduceSub, Int.reduceEq, Int.reduceLT, Int.reduceLE, Int.reduceNeg]; rfl) (fun j h => by omega) ?_
          intro i hi hP
          rcases Nat.lt_or_ge i C.length with hlt | hge
          · obtain ⟨c, hc⟩ := getS hlt
            obtain ⟨c', hc'⟩ := getS (l := C') (i := i) (by omega)
            have hlt2 : i < C'.length := by omega
            have hw := w64_suc hlt hC
            simp only [go_sem, Int.cast_ofNat_Int, Int.reduceToNat, Bool.true_xor, Bool.false_xor, Bool.xor_true, Bool.xor_false, Nat.reduceAdd, Nat.reduceBEq, Nat.reduceLeDiff, Nat.reduceLT, Nat.reduceMul, Nat.reduceSub, Int.reduceEq, Int.reduceLT, Int.reduceLE, Int.reduceNeg, hlt, hlt2, hc, hc']
            with_reducible refine post_fork (fun hx => ?_) (fun hx => ?_)
            · have hx : c = c' := by
                simp only [Bool.and_eq_true, decide_eq_true_eq] at hx
                exact Prod.ext hx.1 hx.2
              simp only [go_sem, Int.cast_ofNat_Int, Int.reduceToNat, Bool.true_xor, Bool.false_xor, Bool.xor_true, Bool.xor_false, Nat.reduceAdd, Nat.reduceBEq, Nat.reduceLeDiff, Nat.reduceLT, Nat.reduceMul, Nat.reduceSub, Int.reduceEq, Int.reduceLT, Int.reduceLE, Int.reduceNeg, hw, hlt]
              exact ⟨trivial, by first | trivial | rfl, upto_suc hP (by rw [hc, hc', hx])⟩
            · have : C ≠ C' := fun h => by subst h; rw [hc] at hc'; cases hc'; simp at hx
              simp only [go_sem, Int.cast_ofNat_Int, Int.reduceToNat, Bool.true_xor, Bool.false_xor, Bool.xor_true, Bool.xor_false, Nat.reduceAdd, Nat.reduceBEq, Nat.reduceLeDiff, Nat.reduceLT, Nat.reduceMul, Nat.reduceSub, Int.reduceEq, Int.reduceLT, Int.reduceLE, Int.reduceNeg, fin (.inr (.inl this))]
          have eC : C = C' := ext_upto lC hge hP
          have hlt : ¬ i < C.length := by omega
          simp only [go_sem, Int.cast_ofNat_Int, Int.reduceToNat, Bool.true_xor, Bool.false_xor, Bool.xor_true, Bool.xor_false, Nat.reduceAdd, Nat.reduceBEq, Nat.reduceLeDiff, Nat.reduceLT, Nat.reduceMul, Nat.reduceSub, Int.reduceEq, Int.reduceLT, Int.reduceLE, Int.reduceNeg, hlt]
          refine loop_rule (fun i => ([(2, .ptr 0 0 0 0), (3, .ptr 1 0 0 0), (6, .int .i64 i)], ⟨[.box [.int .i64 r, .lst 2 (cS C) f, .lst 1 (iS U) g, .lst 1 (iS D) h], .box [.int .i64 r', .lst 2 (cS C') f', .lst 1 (iS U') g', .lst 1 (iS D') h']], [], 0⟩))
            (fun i => ∀ j : Nat, j < i → U[j]? = U'[j]?) U.length (by simp only [go_sem, Int.cast_ofNat_Int, Int.reduceToNat, Bool.true_xor, Bool.false_xor, Bool.xor_true, Bool.xor_false, Nat.reduceAdd, Nat.reduceBEq, Nat.reduceLeDiff, Nat.reduceLT, Nat.reduceMul, Nat.reduceSub, Int.reduceEq, Int.reduceLT, Int.reduceLE, Int.reduceNeg]; rfl) (fun j h => by omega) ?_
          clear hP hi hge hlt i
          intro i hi hP
          rcases Nat.lt_or_ge i U.length with hlt | hge
          · obtain ⟨c, hc⟩ := getS hlt
            obtain ⟨c', hc'⟩ := getS (l := U') (i := i) (by omega)
            have hlt2 : i < U'.length := by omega
            have hw := w64_suc hlt hU
            simp only [go_sem, Int.cast_ofNat_Int, Int.reduceToNat, Bool.true_xor, Bool.false_xor, Bool.xor_true, Bool.xor_false, Nat.reduceAdd, Nat.reduceBEq, Nat.reduceLeDiff, Nat.reduceLT, Nat.reduceMul, Nat.reduceSub, Int.reduceEq, Int.reduceLT, Int.reduceLE, Int.reduceNeg, hlt, hlt2, hc, hc']
            with_reducible refine post_fork (fun hx => ?_) (fun hx => ?_)
            · have hx := of_decide_eq_true hx
              subst hx
              simp only [go_sem, Int.cast_ofNat_Int, Int.reduceToNat, Bool.true_xor, Bool.false_xor, Bool.xor_true, Bool.xor_false, Nat.reduceAdd, Nat.reduceBEq, Nat.reduceLeDiff, Nat.reduceLT, Nat.reduceMul, Nat.reduceSub, Int.reduceEq, Int.reduceLT, Int.reduceLE, Int.reduceNeg, hw, hlt]
              exact ⟨trivial, by first | trivial | rfl, upto_suc hP (by rw [hc, hc'])⟩
            · have : U ≠ U' := fun h => by subst h; rw [hc] at hc'; cases hc'; simp at hx
              simp only [go_sem, Int.cast_ofNat_Int, Int.reduceToNat, Bool.true_xor, Bool.false_xor, Bool.xor_true, Bool.xor_false, Nat.reduceAdd, Nat.reduceBEq, Nat.reduceLeDiff, Nat.reduceLT, Nat.reduceMul, Nat.reduceSub, Int.reduceEq, Int.reduceLT, Int.reduceLE, Int.reduceNeg, fin (.inr (.inr (.inl this)))]
          have eU : U = U' := ext_upto lU hge hP
          have hlt : ¬ i < U.length := by omega
          simp only [go_sem, Int.cast_ofNat_Int, Int.reduceToNat, Bool.true_xor, Bool.false_xor, Bool.xor_true, Bool.xor_false, Nat.reduceAdd, Nat.reduceBEq, Nat.reduceLeDiff, Nat.reduceLT, Nat.reduceMul, Nat.reduceSub, Int.reduceEq, Int.reduceLT, Int.reduceLE, Int.reduceNeg, hlt]
          refine loop_rule (fun i => ([(2, .ptr 0 0 0 0), (3, .ptr 1 0 0 0), (7, .int .i64 i)], ⟨[.box [.int .i64 r, .lst 2 (cS C) f, .lst 1 (iS U) g, .lst 1 (iS D) h], .box [.int .i64 r', .lst 2 (cS C') f', .lst 1 (iS U') g', .lst 1 (iS D') h']], [], 0⟩))
            (fun i => ∀ j : Nat, j < i → D[j]? = D'[j]?) D.length (by simp only [go_sem, Int.cast_ofNat_Int, Int.reduceToNat, Bool.true_xor, Bool.false_xor, Bool.xor_true, Bool.xor_false, Nat.reduceAdd, Nat.reduceBEq, Nat.reduceLeDiff, Nat.reduceLT, Nat.reduceMul, Nat.reduceSub, Int.reduceEq, Int.reduceLT, Int.reduceLE, Int.reduceNeg]; rfl) (fun j h => by omega) ?_
          clear hP hi hge hlt i
          intro i hi hP
          rcases Nat.lt_or_ge i D.length with hlt | hge
          · obtain ⟨c, hc⟩ := getS hlt
            obtain ⟨c', hc'⟩ := getS (l := D') (i := i) (by omega)
            have hlt2 : i < D'.length := by omega
            have hw := w64_suc hlt hD
            simp only [go_sem, Int.cast_ofNat_Int, Int.reduceToNat, Bool.true_xor, Bool.false_xor, Bool.xor_true, Bool.xor_false, Nat.reduceAdd, Nat.reduceBEq, Nat.reduceLeDiff, Nat.reduceLT, Nat.reduceMul, Nat.reduceSub, Int.reduceEq, Int.reduceLT, Int.reduceLE, Int.reduceNeg, hlt, hlt2, hc, hc']
            with_reducible refine post_fork (fun hx => ?_) (fun hx => ?_)
            · have hx := of_decide_eq_true hx
              subst hx
              simp only [go_sem, Int.cast_ofNat_Int, Int.reduceToNat, Bool.true_xor, Bool.false_xor, Bool.xor_true, Bool.xor_false, Nat.reduceAdd, Nat.reduceBEq, Nat.reduceLeDiff, Nat.reduceLT, Nat.reduceMul, Nat.reduceSub, Int.reduceEq, Int.reduceLT, Int.reduceLE, Int.reduceNeg, hw, hlt]
              exact ⟨trivial, by first | trivial | rfl, upto_suc hP (by rw [hc, hc'])⟩
            · have : D ≠ D' := fun h => by subst h; rw [hc] at hc'; cases hc'; simp at hx
              simp only [go_sem, Int.cast_ofNat_Int, Int.reduceToNat, Bool.true_xor, Bool.false_xor, Bool.xor_true, Bool.xor_false, Nat.reduceAdd, Nat.reduceBEq, Nat.reduceLeDiff, Nat.reduceLT, Nat.reduceMul, Nat.reduceSub, Int.reduceEq, Int.reduceLT, Int.reduceLE, Int.reduceNeg, fin (.inr (.inr (.inr this)))]
          have eD : D = D' := ext_upto lD hge hP
          have hlt : ¬ i < D.length := by omega
          have hs : smB r C U D r' C' U' D' = true := by rw [smB, decide_eq_true_eq]; exact ⟨hr, eC, eU, eD⟩
          simp only [go_sem, Int.cast_ofNat_Int, Int.reduceToNat, Bool.true_xor, Bool.false_xor, Bool.xor_true, Bool.xor_false, Nat.reduceAdd, Nat.reduceBEq, Nat.reduceLeDiff, Nat.reduceLT, Nat.reduceMul, Nat.reduceSub, Int.reduceEq, Int.reduceLT, Int.reduceLE, Int.reduceNeg, hlt, hs]
theorem s30z (H : Heap) : call1 T 40 (.fn 30) [lz, lz] H = some (.bool true, H) := pure_any e30 (by rfl) (callB_up (T := T) 100 40 (.fn 30) [lz, lz] heap0 (.bool true, heap0) (by kernel_rfl))
end Go.Sh
namespace Go.Sh
set_option linter.unusedSectionVars false
set_option linter.unnecessarySimpa false
set_option linter.unusedVariables false
set_option linter.unusedSimpArgs false
set_option maxRecDepth 100000
set_option maxHeartbeats 4000000
theorem s39 (n : Nat) (H : Heap) (r C U D f g h) : call1 T (n + 2) (.fn 39) [lr r C U D f g h] H = some (.int .i64 (vI r C U D), H) := by
  refine call_pure e39 (by rfl) ?_
  cases hl : lenB r C U D with
  | false =>
    have hv : vI r C U D = 1 := vI_no (by simp only [vB, hl, Bool.false_and])
    simp only [c39, heap0, go_sem, Int.cast_ofNat_Int, Int.reduceToNat, Bool.true_xor, Bool.false_xor, Bool.xor_true, Bool.xor_false, Nat.reduceAdd, Nat.reduceBEq, Nat.reduceLeDiff, Nat.reduceLT, Nat.reduceMul, Nat.reduceSub, Int.reduceEq, Int.reduceLT, Int.reduceLE, Int.reduceNeg, hv, lenD]
    cases h1 : decide (r < 0) with
    | true => simp only [*, s25, s51, go_sem, Int.cast_ofNat_Int, Int.reduceToNat, Bool.true_xor, Bool.false_xor, Bool.xor_true, Bool.xor_false, Nat.reduceAdd, Nat.reduceBEq, Nat.reduceLeDiff, Nat.reduceLT, Nat.reduceMul, Nat.reduceSub, Int.reduceEq, Int.reduceLT, Int.reduceLE, Int.reduceNeg]
    | false =>
      cases h2 : decide (1073741824 < r) with
      | true => simp only [*, s25, s51, go_sem, Int.cast_ofNat_Int, Int.reduceToNat, Bool.true_xor, Bool.false_xor, Bool.xor_true, Bool.xor_false, Nat.reduceAdd, Nat.reduceBEq, Nat.reduceLeDiff, Nat.reduceLT, Nat.reduceMul, Nat.reduceSub, Int.reduceEq, Int.reduceLT, Int.reduceLE, Int.reduceNeg]
      | false =>
        cases h3 : decide (C.length = 16) with
        | false => simp only [*, s25, s51, go_sem, Int.cast_ofNat_Int, Int.reduceToNat, Bool.true_xor, Bool.false_xor, Bool.xor_true, Bool.xor_false, Nat.reduceAdd, Nat.reduceBEq, Nat.reduceLeDiff, Nat.reduceLT, Nat.reduceMul, Nat.reduceSub, Int.reduceEq, Int.reduceLT, Int.reduceLE, Int.reduceNeg]
        | true =>
          cases h4 : decide (U.length = 16) with
          | false => simp only [*, s25, s51, go_sem, Int.cast_ofNat_Int, Int.reduceToNat, Bool.true_xor, Bool.false_xor, Bool.xor_true, Bool.xor_false, Nat.reduceAdd, Nat.reduceBEq, Nat.reduceLeDiff, Nat.reduceLT, Nat.reduceMul, Nat.reduceSub, Int.reduceEq, Int.reduceLT, Int.reduceLE, Int.reduceNeg]
          | true =>
            have h5 : decide (D.length = 16) = false := by
              rw [Bool.eq_false_iff]; intro h5
              simp only [decide_eq_true_eq, decide_eq_false_iff_not] at h1 h2 h3 h4 h5
              simp only [lenB, Bool.and_eq_false_iff, decide_eq_false_iff_not] at hl
              omega
            simp only [*, s25, s51, go_sem, Int.cast_ofNat_Int, Int.reduceToNat, Bool.true_xor, Bool.false_xor, Bool.xor_true, Bool.xor_false, Nat.reduceAdd, Nat.reduceBEq, Nat.reduceLeDiff, Nat.reduceLT, Nat.reduceMul, Nat.reduceSub, Int.reduceEq, Int.reduceLT, Int.reduceLE, Int.reduceNeg, h5]
  | true =>
    have hl' := hl
    simp only [lenB, Bool.and_eq_true, decide_eq_true_eq] at hl'
    obtain ⟨⟨⟨⟨r0, r1⟩, hC⟩, hU⟩, hD⟩ := hl'
    have g0 : decide (r < 0) = false := decide_eq_false (by omega)
    have g1 : decide (1073741824 < r) = false := decide_eq_false (by omega)
    simp only [c39, heap0, go_sem, Int.cast_ofNat_Int, Int.reduceToNat, Bool.true_xor, Bool.false_xor, Bool.xor_true, Bool.xor_false, Nat.reduceAdd, Nat.reduceBEq, Nat.reduceLeDiff, Nat.reduceLT, Nat.reduceMul, Nat.reduceSub, Int.reduceEq, Int.reduceLT, Int.reduceLE, Int.reduceNeg, lenD, g0, g1, hC, hU, hD]
    refine loop_rule (fun i => ([(1, .ptr 0 0 0 0), (3, .int .i64 i)], ⟨[.box [.int .i64 r, .lst 2 (cS C) f, .lst 1 (iS U) g, .lst 1 (iS D) h]], [], 0⟩))
      (fun i => ∀ j, j < i → okI r C U D j = true) 16 (by simp only [*, s25, s51, go_sem, Int.cast_ofNat_Int, Int.reduceToNat, Bool.true_xor, Bool.false_xor, Bool.xor_true, Bool.xor_false, Nat.reduceAdd, Nat.reduceBEq, Nat.reduceLeDiff, Nat.reduceLT, Nat.reduceMul, Nat.reduceSub, Int.reduceEq, Int.reduceLT, Int.reduceLE, Int.reduceNeg]; rfl) (fun j h => by omega) ?_
    intro i hi hP
    rcases Nat.lt_or_ge i 16 with hlt | hge
    · obtain ⟨c, hc⟩ := getS (l := C) (i := i) (by omega)
      obtain ⟨u, hu⟩ := getS (l := U) (i := i) (by omega)
      obtain ⟨d, hd⟩ := getS (l := D) (i := i) (by omega)
      have hok : okI r C U D i = okAt r c u d := by simp only [okI, hc, hu, hd]
      have hw : w64 ((i : Int) + 1) = ((i + 1 : Nat) : Int) := w64_suc (n := 16) hlt (by decide)
      have hlt' : decide ((i : Int) < 16) = true := decide_eq_true (by omega)
      have hlC : i < C.length := by omega
      have hlU : i < U.length := by omega
      have hlD : i < D.length := by omega
      have fin : okAt r c u d = false → vI r C U D = 1 := fun h => vI_no (vB_at hlt (by rw [hok, h]))
      have go : okAt r c u d = true → ∀ j, j < i + 1 → okI r C U D j = true := fun h j hj => by
        rcases Nat.lt_or_ge j i with h3 | h3
        · exact hP j h3
        · obtain rfl : j = i := by omega
          rw [hok, h]
      simp only [*, s25, s51, go_sem, Int.cast_ofNat_Int, Int.reduceToNat, Bool.true_xor, Bool.false_xor, Bool.xor_true, Bool.xor_false, Nat.reduceAdd, Nat.reduceBEq, Nat.reduceLeDiff, Nat.reduceLT, Nat.reduceMul, Nat.reduceSub, Int.reduceEq, Int.reduceLT, Int.reduceLE, Int.reduceNeg, hlt', hlC, hlU, hlD, hc, hu, hd, s25, s51, hw]
      cases k1 : cB c.1 c.2 with
      | false => simp only [*, s25, s51, go_sem, Int.cast_ofNat_Int, Int.reduceToNat, Bool.true_xor, Bool.false_xor, Bool.xor_true, Bool.xor_false, Nat.reduceAdd, Nat.reduceBEq, Nat.reduceLeDiff, Nat.reduceLT, Nat.reduceMul, Nat.reduceSub, Int.reduceEq, Int.reduceLT, Int.reduceLE, Int.reduceNeg, fin (by simp only [okAt, k1, Bool.false_and])]
      | true =>
        cases k2 : hB d with
        | false => simp only [*, s25, s51, go_sem, Int.cast_ofNat_Int, Int.reduceToNat, Bool.true_xor, Bool.false_xor, Bool.xor_true, Bool.xor_false, Nat.reduceAdd, Nat.reduceBEq, Nat.reduceLeDiff, Nat.reduceLT, Nat.reduceMul, Nat.reduceSub, Int.reduceEq, Int.reduceLT, Int.reduceLE, Int.reduceNeg, fin (by simp only [okAt, k1, k2, Bool.false_and, Bool.true_and])]
        | true =>
          cases k3 : decide (u = 0) with
          | true =>
            simp only [*, s25, s51, go_sem, Int.cast_ofNat_Int, Int.reduceToNat, Bool.true_xor, Bool.false_xor, Bool.xor_true, Bool.xor_false, Nat.reduceAdd, Nat.reduceBEq, Nat.reduceLeDiff, Nat.reduceLT, Nat.reduceMul, Nat.reduceSub, Int.reduceEq, Int.reduceLT, Int.reduceLE, Int.reduceNeg, hlt]
            exact ⟨trivial, by first | trivial | rfl, go (by simp only [okAt, k1, k2, k3]; rfl)⟩
          | false =>
            cases k4 : decide (u ≤ r) with
            | true => simp only [*, s25, s51, go_sem, Int.cast_ofNat_Int, Int.reduceToNat, Bool.true_xor, Bool.false_xor, Bool.xor_true, Bool.xor_false, Nat.reduceAdd, Nat.reduceBEq, Nat.reduceLeDiff, Nat.reduceLT, Nat.reduceMul, Nat.reduceSub, Int.reduceEq, Int.reduceLT, Int.reduceLE, Int.reduceNeg, fin (by simp only [okAt, k1, k2, k3, k4]; rfl)]
            | false =>
              cases k5 : decide (w64 (r + 64) < u) with
              | true => simp only [*, s25, s51, go_sem, Int.cast_ofNat_Int, Int.reduceToNat, Bool.true_xor, Bool.false_xor, Bool.xor_true, Bool.xor_false, Nat.reduceAdd, Nat.reduceBEq, Nat.reduceLeDiff, Nat.reduceLT, Nat.reduceMul, Nat.reduceSub, Int.reduceEq, Int.reduceLT, Int.reduceLE, Int.reduceNeg, k5, fin (by simp only [okAt, k1, k2, k3, k4, k5]; rfl)]
              | false =>
                cases k6 : decide (d = 0) with
                | true => simp only [*, s25, s51, go_sem, Int.cast_ofNat_Int, Int.reduceToNat, Bool.true_xor, Bool.false_xor, Bool.xor_true, Bool.xor_false, Nat.reduceAdd, Nat.reduceBEq, Nat.reduceLeDiff, Nat.reduceLT, Nat.reduceMul, Nat.reduceSub, Int.reduceEq, Int.reduceLT, Int.reduceLE, Int.reduceNeg, k5, hlD, hd, k6, fin (by simp only [okAt, k1, k2, k3, k4, k5, k6]; rfl)]
                | false =>
                  simp only [*, s25, s51, go_sem, Int.cast_ofNat_Int, Int.reduceToNat, Bool.true_xor, Bool.false_xor, Bool.xor_true, Bool.xor_false, Nat.reduceAdd, Nat.reduceBEq, Nat.reduceLeDiff, Nat.reduceLT, Nat.reduceMul, Nat.reduceSub, Int.reduceEq, Int.reduceLT, Int.reduceLE, Int.reduceNeg, k5, hlD, hd, k6, hlt]
                  exact ⟨trivial, by first | trivial | rfl, go (by simp only [okAt, k1, k2, k3, k4, k5, k6]; rfl)⟩
    · obtain rfl : i = 16 := by omega
      have hv : vI r C U D = 0 := vI_yes (vB_all hl (fun j hj => hP j hj))
      simp only [*, s25, s51, go_sem, Int.cast_ofNat_Int, Int.reduceToNat, Bool.true_xor, Bool.false_xor, Bool.xor_true, Bool.xor_false, Nat.reduceAdd, Nat.reduceBEq, Nat.reduceLeDiff, Nat.reduceLT, Nat.reduceMul, Nat.reduceSub, Int.reduceEq, Int.reduceLT, Int.reduceLE, Int.reduceNeg, hv, show decide (((16 : Nat) : Int) < 16) = false from by decide]
end Go.Sh
namespace Go.Sh
set_option linter.unusedSectionVars false
set_option linter.unnecessarySimpa false
set_option linter.unusedVariables false
set_option linter.unusedSimpArgs false
set_option maxRecDepth 100000
set_option maxHeartbeats 4000000
def ad1 (c : Int × Int) (a : Bool) : Int × Int := (c.1 + 1, bif a then c.2 + 1 else c.2)
theorem ad_ok {c : Int × Int} (h : cB c.1 c.2 = true) (h2 : decide (c.1 = 1073741824) = false) (a : Bool) : adV c.1 c.2 a = .tup [ct (ad1 c a).1 (ad1 c a).2, .int .i64 0] := by
  have g := cB_iff.1 h
  have h2' := of_decide_eq_false h2
  have w1 : w64 (c.1 + 1) = c.1 + 1 := w64_id (by omega) (by omega)
  have w2 : w64 (c.2 + 1) = c.2 + 1 := w64_id (by omega) (by omega)
  simp only [adV, h, h2, w1, w2, cond_true, cond_false, ad1]
theorem ad_full {c : Int × Int} (h : cB c.1 c.2 = true) (h2 : decide (c.1 = 1073741824) = true) (a : Bool) : adV c.1 c.2 a = .tup [ct 0 0, .int .i64 13] := by
  simp only [adV, h, h2, cond_true]
theorem vB_iff {r C U D} : vB r C U D = true ↔ (0 ≤ r ∧ r ≤ 1073741824 ∧ C.length = 16 ∧ U.length = 16 ∧ D.length = 16) ∧ ∀ i, i < 16 → okI r C U D i = true := by
  simp only [vB, lenB, Bool.and_eq_true, decide_eq_true_eq, List.all_eq_true, List.mem_range, and_assoc]
theorem vB_cB {r C U D} (h : vB r C U D = true) {i : Nat} {c : Int × Int} (hc : C[i]? = some c) : cB c.1 c.2 = true := by
  obtain ⟨⟨_, _, h3, h4, h5⟩, h6⟩ := vB_iff.1 h
  have hi : i < 16 := by have := (List.getElem?_eq_some_iff.1 hc).1; omega
  have := h6 i hi
  obtain ⟨u, hu⟩ := getS (l := U) (i := i) (by omega)
  obtain ⟨d, hd⟩ := getS (l := D) (i := i) (by omega)
  simp only [okI, hc, hu, hd, okAt, Bool.and_eq_true] at this
  exact this.1.1
def ntV (fl : Bool) (r : Int) (C : List (Int × Int)) (U D : List Int) (x : Int) (a : Bool) : SV :=
  bif vB r C U D then
    bif decide (x < 0) || decide (16 ≤ x) then .tup [lz, .int .i64 2]
    else bif decide ((C.getD x.toNat (0, 0)).1 = 1073741824) then .tup [lz, .int .i64 13]
    else .tup [lr r (C.set x.toNat (ad1 (C.getD x.toNat (0, 0)) a)) U D fl fl fl, .int .i64 0]
  else .tup [lz, .int .i64 1]
theorem s35 (n : Nat) (H : Heap) (r C U D f g h x a) : call1 T (n + 3) (.fn 35) [lr r C U D f g h, .int .i64 x, .bool a] H = some (ntV true r C U D x a, H) := by
  refine call_pure e35 (by rfl) ?_
  have h12 := fun H => s12 n H r C U D f g h
  cases hv : vB r C U D with
  | false => simp only [c35, heap0, go_sem, Int.cast_ofNat_Int, Int.reduceToNat, Bool.true_xor, Bool.false_xor, Bool.xor_true, Bool.xor_false, Nat.reduceAdd, Nat.reduceBEq, Nat.reduceLeDiff, Nat.reduceLT, Nat.reduceMul, Nat.reduceSub, Int.reduceEq, Int.reduceLT, Int.reduceLE, Int.reduceNeg, h12, hv, ntV]
  | true =>
    cases h1 : decide (x < 0) with
    | true => simp only [c35, heap0, go_sem, Int.cast_ofNat_Int, Int.reduceToNat, Bool.true_xor, Bool.false_xor, Bool.xor_true, Bool.xor_false, Nat.reduceAdd, Nat.reduceBEq, Nat.reduceLeDiff, Nat.reduceLT, Nat.reduceMul, Nat.reduceSub, Int.reduceEq, Int.reduceLT, Int.reduceLE, Int.reduceNeg, h12, hv, ntV, h1]
    | false =>
      cases h2 : decide (16 ≤ x) with
      | true => simp only [c35, heap0, go_sem, Int.cast_ofNat_Int, Int.reduceToNat, Bool.true_xor, Bool.false_xor, Bool.xor_true, Bool.xor_false, Nat.reduceAdd, Nat.reduceBEq, Nat.reduceLeDiff, Nat.reduceLT, Nat.reduceMul, Nat.reduceSub, Int.reduceEq, Int.reduceLT, Int.reduceLE, Int.reduceNeg, h12, hv, ntV, h1, h2]
      | false =>
        obtain ⟨⟨_, _, hC, hU, hD⟩, _⟩ := vB_iff.1 hv
        have h1' := of_decide_eq_false h1
        have h2' := of_decide_eq_false h2
        have k1 : decide (0 ≤ x) = true := decide_eq_true (by omega)
        have k2 : decide (x < 16) = true := decide_eq_true (by omega)
        have hlt : x.toNat < 16 := by omega
        have hltC : decide (x < (C.length : Int)) = true := decide_eq_true (by omega)
        obtain ⟨c, hc⟩ := getS (l := C) (i := x.toNat) (by omega)
        have hg : C.getD x.toNat (0, 0) = c := by simp [hc]
        have hcb := vB_cB hv hc
        have h18 := fun H => s18 n H c.1 c.2 a
        cases h3 : decide (c.1 = 1073741824) with
        | true =>
          rw [ad_full hcb h3] at h18
          simp only [c35, heap0, go_sem, Int.cast_ofNat_Int, Int.reduceToNat, Bool.true_xor, Bool.false_xor, Bool.xor_true, Bool.xor_false, Nat.reduceAdd, Nat.reduceBEq, Nat.reduceLeDiff, Nat.reduceLT, Nat.reduceMul, Nat.reduceSub, Int.reduceEq, Int.reduceLT, Int.reduceLE, Int.reduceNeg, h12, hv, ntV, h1, h2, k1, hltC, hc, h18, hg, h3]
        | false =>
          rw [ad_ok hcb h3] at h18
          have h47 := fun x y z es => s47k n x y z es r C U D f g h hC hU hD
          have hl : (C.set x.toNat (ad1 c a)).length = 16 := by simp [hC]
          simp only [c35, heap0, go_sem, Int.cast_ofNat_Int, Int.reduceToNat, Bool.true_xor, Bool.false_xor, Bool.xor_true, Bool.xor_false, Nat.reduceAdd, Nat.reduceBEq, Nat.reduceLeDiff, Nat.reduceLT, Nat.reduceMul, Nat.reduceSub, Int.reduceEq, Int.reduceLT, Int.reduceLE, Int.reduceNeg, h12, hv, ntV, h1, h2, k1, k2, hltC, hc, h18, hg, h3, h47, cS_set, fz_cS16 _ _ _ _ _ _ hl, fz_iS16 _ _ _ _ _ _ hU, fz_iS16 _ _ _ _ _ _ hD]
theorem s36 (n : Nat) (H : Heap) (r C U D f g h x a) : call1 T (n + 3) (.fn 36) [lr r C U D f g h, .int .i64 x, .bool a] H = some (ntV false r C U D x a, H) := by
  refine call_pure e36 (by rfl) ?_
  have h39 := fun H => s39 n H r C U D f g h
  cases hv : vB r C U D with
  | false => simp only [c36, heap0, go_sem, Int.cast_ofNat_Int, Int.reduceToNat, Bool.true_xor, Bool.false_xor, Bool.xor_true, Bool.xor_false, Nat.reduceAdd, Nat.reduceBEq, Nat.reduceLeDiff, Nat.reduceLT, Nat.reduceMul, Nat.reduceSub, Int.reduceEq, Int.reduceLT, Int.reduceLE, Int.reduceNeg, h39, hv, ntV]
  | true =>
    cases h1 : decide (x < 0) with
    | true => simp only [c36, heap0, go_sem, Int.cast_ofNat_Int, Int.reduceToNat, Bool.true_xor, Bool.false_xor, Bool.xor_true, Bool.xor_false, Nat.reduceAdd, Nat.reduceBEq, Nat.reduceLeDiff, Nat.reduceLT, Nat.reduceMul, Nat.reduceSub, Int.reduceEq, Int.reduceLT, Int.reduceLE, Int.reduceNeg, h39, hv, ntV, h1]
    | false =>
      cases h2 : decide (16 ≤ x) with
      | true => simp only [c36, heap0, go_sem, Int.cast_ofNat_Int, Int.reduceToNat, Bool.true_xor, Bool.false_xor, Bool.xor_true, Bool.xor_false, Nat.reduceAdd, Nat.reduceBEq, Nat.reduceLeDiff, Nat.reduceLT, Nat.reduceMul, Nat.reduceSub, Int.reduceEq, Int.reduceLT, Int.reduceLE, Int.reduceNeg, h39, hv, ntV, h1, h2]
      | false =>
        obtain ⟨⟨_, _, hC, hU, hD⟩, _⟩ := vB_iff.1 hv
        have h1' := of_decide_eq_false h1
        have h2' := of_decide_eq_false h2
        have k1 : decide (0 ≤ x) = true := decide_eq_true (by omega)
        have k2 : decide (x < 16) = true := decide_eq_true (by omega)
        have hlt : x.toNat < 16 := by omega
        have hltC : decide (x < (C.length : Int)) = true := decide_eq_true (by omega)
        obtain ⟨c, hc⟩ := getS (l := C) (i := x.toNat) (by omega)
        have hg : C.getD x.toNat (0, 0) = c := by simp [hc]
        have hcb := vB_cB hv hc
        have h19 := fun H => s19 n H c.1 c.2 a
        cases h3 : decide (c.1 = 1073741824) with
        | true =>
          rw [ad_full hcb h3] at h19
          simp only [c36, heap0, go_sem, Int.cast_ofNat_Int, Int.reduceToNat, Bool.true_xor, Bool.false_xor, Bool.xor_true, Bool.xor_false, Nat.reduceAdd, Nat.reduceBEq, Nat.reduceLeDiff, Nat.reduceLT, Nat.reduceMul, Nat.reduceSub, Int.reduceEq, Int.reduceLT, Int.reduceLE, Int.reduceNeg, h39, hv, ntV, h1, h2, k1, hltC, hc, h19, hg, h3]
        | false =>
          rw [ad_ok hcb h3] at h19
          have h13 := fun x y z es => s13k (n + 1) x y z es r C U D f g h (by omega) (by omega) (by omega)
          have hl : (C.set x.toNat (ad1 c a)).length = 16 := by simp [hC]
          rw [hC, hU, hD] at h13
          simp only [c36, heap0, go_sem, Int.cast_ofNat_Int, Int.reduceToNat, Bool.true_xor, Bool.false_xor, Bool.xor_true, Bool.xor_false, Nat.reduceAdd, Nat.reduceBEq, Nat.reduceLeDiff, Nat.reduceLT, Nat.reduceMul, Nat.reduceSub, Int.reduceEq, Int.reduceLT, Int.reduceLE, Int.reduceNeg, h39, hv, ntV, h1, h2, k1, k2, hltC, hc, h19, hg, h3, h13, cS_set, fz_cS16 _ _ _ _ _ _ hl, fz_iS16 _ _ _ _ _ _ hU, fz_iS16 _ _ _ _ _ _ hD]
end Go.Sh
namespace Go.Sh
set_option linter.unusedSectionVars false
set_option linter.unnecessarySimpa false
set_option linter.unusedVariables false
set_option linter.unusedSimpArgs false
set_option maxRecDepth 100000
set_option maxHeartbeats 4000000
theorem s17 (n : Nat) (H : Heap) (L M : List Int) (f g : Bool) (hL : L.length ≤ maxLen) : call1 T (n + 1) (.fn 17) [.lst 1 (iS L) f, .lst 1 (iS M) g] H = some (.bool (decide (L = M)), H) :=
  stdEq_ok (T := T) (f := 17) (n := n) (H := H) e17 (.lst 1 f (.inl rfl)) (.lst 1 g (.inl rfl)) hL
theorem mid_get {A : Type} {S C : List A} {i : Nat} (h : i ≤ S.length) : (S.take i ++ C.drop i)[i]? = C[i]? := by
  rw [List.getElem?_append_right (by simp; omega)]
  simp [Nat.min_eq_left h]
theorem mid_len {A : Type} {S C : List A} {i : Nat} (h : S.length = C.length) : (S.take i ++ C.drop i).length = C.length := by
  simp; omega
theorem mid_set {A : Type} {S C : List A} {i : Nat} {s : A} (h : S[i]? = some s) (hl : S.length = C.length) : (S.take i ++ C.drop i).set i s = S.take (i + 1) ++ C.drop (i + 1) := by
  have hi := (List.getElem?_eq_some_iff.1 h).1
  apply List.ext_getElem?
  intro j
  rw [take_snoc h]
  simp only [List.getElem?_set, List.getElem?_append, List.length_take, List.length_append, List.length_cons, List.length_nil, List.getElem?_drop, List.getElem?_take]
  have e1 : min i S.length = i := by omega
  simp only [e1, List.length_drop]
  by_cases h1 : i = j
  · subst h1
    simp; omega
  · by_cases h2 : j < i
    · simp [h1, h2, show j < i + 1 by omega]
    · simp only [h1, h2, if_false, show ¬ j < i + 1 by omega]
      congr 1; omega
theorem mid_end {A : Type} {S C : List A} {i : Nat} (h : C.length ≤ i) (hs : S.length = C.length) : S.take i ++ C.drop i = S := by
  rw [List.drop_of_length_le h, List.append_nil, List.take_of_length_le (by omega)]
theorem cS_set2 (C : List (Int × Int)) (i : Nat) (x y : Int) : (cS C).set i [.int .i64 x, .int .i64 y] = cS (C.set i (x, y)) := by simp [cS, List.map_set]
def sumC (C C' : List (Int × Int)) : List (Int × Int) := C.zipWith (fun a b => (a.1 + b.1, a.2 + b.2)) C'
theorem sumC_len {C C' : List (Int × Int)} (h : C.length = C'.length) : (sumC C C').length = C.length := by simp [sumC]; omega
theorem sumC_get {C C' : List (Int × Int)} {i : Nat} {a b} (h : C[i]? = some a) (h2 : C'[i]? = some b) : (sumC C C')[i]? = some (a.1 + b.1, a.2 + b.2) := by simp [sumC, List.getElem?_zipWith, h, h2]
def okS (S : List (Int × Int)) : Bool := S.all fun c => decide (c.1 ≤ 1073741824)
def mgV (fl : Bool) (r : Int) (C : List (Int × Int)) (U D : List Int) (r' : Int) (C' : List (Int × Int)) (U' D' : List Int) : SV :=
  bif vB r C U D && vB r' C' U' D' then
    bif decide (r = r') && decide (U = U') && decide (D = D') then
      bif okS (sumC C C') then .tup [lr r (sumC C C') U D fl fl fl, .int .i64 0] else .tup [lz, .int .i64 13]
    else .tup [lz, .int .i64 11]
  else .tup [lz, .int .i64 1]
theorem sum_cB {a b : Int × Int} (h : cB a.1 a.2 = true) (h2 : cB b.1 b.2 = true) : w64 (a.1 + b.1) = a.1 + b.1 ∧ w64 (a.2 + b.2) = a.2 + b.2 ∧ cB (a.1 + b.1) (a.2 + b.2) = decide (a.1 + b.1 ≤ 1073741824) := by
  have g := cB_iff.1 h
  have g2 := cB_iff.1 h2
  refine ⟨w64_id (by omega) (by omega), w64_id (by omega) (by omega), ?_⟩
  rw [Bool.eq_iff_iff, cB_iff, decide_eq_true_eq]; omega
theorem okS_no {S : List (Int × Int)} {i : Nat} {c} (h : S[i]? = some c) (h2 : decide (c.1 ≤ 1073741824) = false) : okS S = false := by
  rw [okS, List.all_eq_false]
  exact ⟨c, List.mem_of_getElem? h, by simp [of_decide_eq_false h2]⟩
theorem okS_yes {S : List (Int × Int)} (h : ∀ (j : Nat) c, S[j]? = some c → decide (c.1 ≤ 1073741824) = true) : okS S = true := by
  rw [okS, List.all_eq_true]
  intro c hc
  obtain ⟨j, hj⟩ := List.getElem?_of_mem hc
  exact h j c hj
theorem ln16 : (16 : Nat) ≤ maxLen := by decide
theorem s28 (n : Nat) (H : Heap) (r C U D f g h r' C' U' D' f' g' h') : call1 T (n + 3) (.fn 28) [lr r C U D f g h, lr r' C' U' D' f' g' h'] H = some (mgV true r C U D r' C' U' D', H) := by
  refine call_pure e28 (by rfl) ?_
  have h12 := fun H => s12 n H r C U D f g h
  have h12' := fun H => s12 n H r' C' U' D' f' g' h'
  cases hv : vB r C U D with
  | false => simp only [c28, heap0, go_sem, Int.cast_ofNat_Int, Int.reduceToNat, Bool.true_xor, Bool.false_xor, Bool.xor_true, Bool.xor_false, Nat.reduceAdd, Nat.reduceBEq, Nat.reduceLeDiff, Nat.reduceLT, Nat.reduceMul, Nat.reduceSub, Int.reduceEq, Int.reduceLT, Int.reduceLE, Int.reduceNeg, h12, hv, mgV]
  | true =>
    cases hv' : vB r' C' U' D' with
    | false => simp only [c28, heap0, go_sem, Int.cast_ofNat_Int, Int.reduceToNat, Bool.true_xor, Bool.false_xor, Bool.xor_true, Bool.xor_false, Nat.reduceAdd, Nat.reduceBEq, Nat.reduceLeDiff, Nat.reduceLT, Nat.reduceMul, Nat.reduceSub, Int.reduceEq, Int.reduceLT, Int.reduceLE, Int.reduceNeg, h12, h12', hv, hv', mgV]
    | true =>
      obtain ⟨⟨_, _, hC, hU, hD⟩, _⟩ := vB_iff.1 hv
      obtain ⟨⟨_, _, hC', hU', hD'⟩, _⟩ := vB_iff.1 hv'
      have h17 := fun H => s17 (n + 1) H U U' g g' (by rw [hU]; exact ln16)
      have h17' := fun H => s17 (n + 1) H D D' h h' (by rw [hD]; exact ln16)
      cases h1 : decide (r = r') with
      | false => simp only [c28, heap0, go_sem, Int.cast_ofNat_Int, Int.reduceToNat, Bool.true_xor, Bool.false_xor, Bool.xor_true, Bool.xor_false, Nat.reduceAdd, Nat.reduceBEq, Nat.reduceLeDiff, Nat.reduceLT, Nat.reduceMul, Nat.reduceSub, Int.reduceEq, Int.reduceLT, Int.reduceLE, Int.reduceNeg, h12, h12', hv, hv', mgV, h1]
      | true =>
        cases h2 : decide (U = U') with
        | false => simp only [c28, heap0, go_sem, Int.cast_ofNat_Int, Int.reduceToNat, Bool.true_xor, Bool.false_xor, Bool.xor_true, Bool.xor_false, Nat.reduceAdd, Nat.reduceBEq, Nat.reduceLeDiff, Nat.reduceLT, Nat.reduceMul, Nat.reduceSub, Int.reduceEq, Int.reduceLT, Int.reduceLE, Int.reduceNeg, h12, h12', h17, hv, hv', mgV, h1, h2]
        | true =>
          cases h3 : decide (D = D') with
          | false => simp only [c28, heap0, go_sem, Int.cast_ofNat_Int, Int.reduceToNat, Bool.true_xor, Bool.false_xor, Bool.xor_true, Bool.xor_false, Nat.reduceAdd, Nat.reduceBEq, Nat.reduceLeDiff, Nat.reduceLT, Nat.reduceMul, Nat.reduceSub, Int.reduceEq, Int.reduceLT, Int.reduceLE, Int.reduceNeg, h12, h12', h17, h17', hv, hv', mgV, h1, h2, h3]
          | true =>
            have h47 := fun x y z es => s47k n x y z es r C U D f g h hC hU hD
            have hS : (sumC C C').length = C.length := sumC_len (by omega)
            simp only [c28, heap0, go_sem, Int.cast_ofNat_Int, Int.reduceToNat, Bool.true_xor, Bool.false_xor, Bool.xor_true, Bool.xor_false, Nat.reduceAdd, Nat.reduceBEq, Nat.reduceLeDiff, Nat.reduceLT, Nat.reduceMul, Nat.reduceSub, Int.reduceEq, Int.reduceLT, Int.reduceLE, Int.reduceNeg, h12, h12', h17, h17', hv, hv', mgV, h1, h2, h3, h47]
            refine loop_rule (fun i => ([(3, .ptr 1 0 0 0), (4, .ptr 2 0 0 0), (6, .ptr 10 0 0 0), (45, .int .i64 16), (46, .int .i64 i)],
              ⟨[.box [.int .i64 r, .lst 2 (cS C) f, .lst 1 (iS U) g, .lst 1 (iS D) h], .box [.int .i64 r', .lst 2 (cS C') f', .lst 1 (iS U') g', .lst 1 (iS D') h'], .box [.int .i64 0, .lst 0 [] true, .lst 0 [] true, .lst 0 [] true],
                .box [.int .i64 r, .lst 2 (cS C) f, .lst 1 (iS U) g, .lst 1 (iS D) h], .box (lsC r 6 16 16 16), .box (lsC 0 6 16 16 16), .arr 0 2 (cS ((sumC C C').take i ++ C.drop i)) true, .arr 0 1 (iS U) true, .arr 0 1 (iS D) true, .box (lsC r 6 16 16 16), .box (lsC r 6 16 16 16)], [], 0⟩))
              (fun i => ∀ j c, j < i → (sumC C C')[j]? = some c → decide (c.1 ≤ 1073741824) = true) 16 (by simp only [go_sem, Int.cast_ofNat_Int, Int.reduceToNat, Bool.true_xor, Bool.false_xor, Bool.xor_true, Bool.xor_false, Nat.reduceAdd, Nat.reduceBEq, Nat.reduceLeDiff, Nat.reduceLT, Nat.reduceMul, Nat.reduceSub, Int.reduceEq, Int.reduceLT, Int.reduceLE, Int.reduceNeg]; rfl) (fun j c h => by omega) ?_
            intro i hi hP
            rcases Nat.lt_or_ge i 16 with hlt | hge
            · obtain ⟨c, hc⟩ := getS (l := C) (i := i) (by omega)
              obtain ⟨c', hc'⟩ := getS (l := C') (i := i) (by omega)
              obtain ⟨w1, w2, w3⟩ := sum_cB (vB_cB hv hc) (vB_cB hv' hc')
              have hs := sumC_get hc hc'
              have hw : w64 ((i : Int) + 1) = ((i + 1 : Nat) : Int) := w64_suc (n := 16) hlt ln16
              have hlt' : decide ((i : Int) < 16) = true := decide_eq_true (by omega)
              have hltC' : i < C'.length := by omega
              have hm : ((sumC C C').take i ++ C.drop i)[i]? = some c := by rw [mid_get (by omega), hc]
              have hml : i < ((sumC C C').take i ++ C.drop i).length := by rw [mid_len hS]; omega
              have hset := mid_set hs hS
              have hget : ∀ x : Int × Int, (((sumC C C').take i ++ C.drop i).set i x)[i]? = some x := fun x => by rw [List.getElem?_set_self hml]
              have hget2 : ((sumC C C').take (i + 1) ++ C.drop (i + 1))[i]? = some (c.1 + c'.1, c.2 + c'.2) := by rw [← hset]; exact hget _
              simp only [go_sem, Int.cast_ofNat_Int, Int.reduceToNat, Bool.true_xor, Bool.false_xor, Bool.xor_true, Bool.xor_false, Nat.reduceAdd, Nat.reduceBEq, Nat.reduceLeDiff, Nat.reduceLT, Nat.reduceMul, Nat.reduceSub, Int.reduceEq, Int.reduceLT, Int.reduceLE, Int.reduceNeg, hlt', hltC', hc', hm, cS_set2, hget, hget2, List.set_set, w1, w2, w3, hset, s24, hw]
              cases h4 : decide (c.1 + c'.1 ≤ 1073741824) with
              | false => simp only [go_sem, Int.cast_ofNat_Int, Int.reduceToNat, Bool.true_xor, Bool.false_xor, Bool.xor_true, Bool.xor_false, Nat.reduceAdd, Nat.reduceBEq, Nat.reduceLeDiff, Nat.reduceLT, Nat.reduceMul, Nat.reduceSub, Int.reduceEq, Int.reduceLT, Int.reduceLE, Int.reduceNeg, okS_no hs h4]
              | true =>
                simp only [go_sem, Int.cast_ofNat_Int, Int.reduceToNat, Bool.true_xor, Bool.false_xor, Bool.xor_true, Bool.xor_false, Nat.reduceAdd, Nat.reduceBEq, Nat.reduceLeDiff, Nat.reduceLT, Nat.reduceMul, Nat.reduceSub, Int.reduceEq, Int.reduceLT, Int.reduceLE, Int.reduceNeg, hlt, hw]
                refine ⟨trivial, by first | trivial | rfl, fun j d hj hd => ?_⟩
                rcases Nat.lt_or_ge j i with h3 | h3
                · exact hP j d h3 hd
                · obtain rfl : j = i := by omega
                  rw [hs] at hd; cases hd; exact h4
            · obtain rfl : i = 16 := by omega
              have hok : okS (sumC C C') = true := okS_yes (fun j d hd => hP j d (by have := (List.getElem?_eq_some_iff.1 hd).1; omega) hd)
              have hme : (sumC C C').take 16 ++ C.drop 16 = sumC C C' := mid_end (by omega) hS
              have hl : (sumC C C').length = 16 := by omega
              simp only [go_sem, Int.cast_ofNat_Int, Int.reduceToNat, Bool.true_xor, Bool.false_xor, Bool.xor_true, Bool.xor_false, Nat.reduceAdd, Nat.reduceBEq, Nat.reduceLeDiff, Nat.reduceLT, Nat.reduceMul, Nat.reduceSub, Int.reduceEq, Int.reduceLT, Int.reduceLE, Int.reduceNeg, show decide (((16 : Nat) : Int) < 16) = false from by decide, hok, hme, fz_cS16 _ _ _ _ _ _ hl, fz_iS16 _ _ _ _ _ _ hU, fz_iS16 _ _ _ _ _ _ hD]
theorem s29 (n : Nat) (H : Heap) (r C U D f g h r' C' U' D' f' g' h') : call1 T (n + 3) (.fn 29) [lr r C U D f g h, lr r' C' U' D' f' g' h'] H = some (mgV false r C U D r' C' U' D', H) := by
  refine call_pure e29 (by rfl) ?_
  have h39 := fun H => s39 n H r C U D f g h
  have h39' := fun H => s39 n H r' C' U' D' f' g' h'
  cases hv : vB r C U D with
  | false => simp only [c29, heap0, go_sem, Int.cast_ofNat_Int, Int.reduceToNat, Bool.true_xor, Bool.false_xor, Bool.xor_true, Bool.xor_false, Nat.reduceAdd, Nat.reduceBEq, Nat.reduceLeDiff, Nat.reduceLT, Nat.reduceMul, Nat.reduceSub, Int.reduceEq, Int.reduceLT, Int.reduceLE, Int.reduceNeg, h39, hv, mgV]
  | true =>
    cases hv' : vB r' C' U' D' with
    | false => simp only [c29, heap0, go_sem, Int.cast_ofNat_Int, Int.reduceToNat, Bool.true_xor, Bool.false_xor, Bool.xor_true, Bool.xor_false, Nat.reduceAdd, Nat.reduceBEq, Nat.reduceLeDiff, Nat.reduceLT, Nat.reduceMul, Nat.reduceSub, Int.reduceEq, Int.reduceLT, Int.reduceLE, Int.reduceNeg, h39, h39', hv, hv', mgV]
    | true =>
      obtain ⟨⟨_, _, hC, hU, hD⟩, _⟩ := vB_iff.1 hv
      obtain ⟨⟨_, _, hC', hU', hD'⟩, _⟩ := vB_iff.1 hv'
      cases h1 : decide (r = r') with
      | false => simp only [c29, heap0, go_sem, Int.cast_ofNat_Int, Int.reduceToNat, Bool.true_xor, Bool.false_xor, Bool.xor_true, Bool.xor_false, Nat.reduceAdd, Nat.reduceBEq, Nat.reduceLeDiff, Nat.reduceLT, Nat.reduceMul, Nat.reduceSub, Int.reduceEq, Int.reduceLT, Int.reduceLE, Int.reduceNeg, h39, h39', hv, hv', mgV, h1]
      | true =>
        have fin : (U ≠ U' ∨ D ≠ D') → mgV false r C U D r' C' U' D' = .tup [lz, .int .i64 11] := fun h => by
          simp only [mgV, hv, hv', h1, Bool.and_self, cond_true, Bool.true_and]
          rw [show (decide (U = U') && decide (D = D')) = false from by
            rw [Bool.and_eq_false_iff, decide_eq_false_iff_not, decide_eq_false_iff_not]; exact h]
          rfl
        simp only [c29, heap0, go_sem, Int.cast_ofNat_Int, Int.reduceToNat, Bool.true_xor, Bool.false_xor, Bool.xor_true, Bool.xor_false, Nat.reduceAdd, Nat.reduceBEq, Nat.reduceLeDiff, Nat.reduceLT, Nat.reduceMul, Nat.reduceSub, Int.reduceEq, Int.reduceLT, Int.reduceLE, Int.reduceNeg, h39, h39', hv, hv', h1]
        refine loop_rule (fun i => ([(2, .ptr 0 0 0 0), (3, .ptr 1 0 0 0), (4, .ptr 2 0 0 0), (6, .int .i64 i)],
              ⟨[.box [.int .i64 r, .lst 2 (cS C) f, .lst 1 (iS U) g, .lst 1 (iS D) h], .box [.int .i64 r', .lst 2 (cS C') f', .lst 1 (iS U') g', .lst 1 (iS D') h'], .box [.int .i64 0, .lst 0 [] true, .lst 0 [] true, .lst 0 [] true]], [], 0⟩))
              (fun i => (∀ j : Nat, j < i → U[j]? = U'[j]?) ∧ ∀ j : Nat, j < i → D[j]? = D'[j]?) 16 (by simp only [go_sem, Int.cast_ofNat_Int, Int.reduceToNat, Bool.true_xor, Bool.false_xor, Bool.xor_true, Bool.xor_false, Nat.reduceAdd, Nat.reduceBEq, Nat.reduceLeDiff, Nat.reduceLT, Nat.reduceMul, Nat.reduceSub, Int.reduceEq, Int.reduceLT, Int.reduceLE, Int.reduceNeg]; rfl) ⟨fun j h => by omega, fun j h => by omega⟩ ?_
        intro i hi hP
        rcases Nat.lt_or_ge i 16 with hlt | hge
        · obtain ⟨u, hu⟩ := getS (l := U) (i := i) (by omega)
          obtain ⟨u', hu'⟩ := getS (l := U') (i := i) (by omega)
          obtain ⟨d, hd⟩ := getS (l := D) (i := i) (by omega)
          obtain ⟨d', hd'⟩ := getS (l := D') (i := i) (by omega)
          have hw : w64 ((i : Int) + 1) = ((i + 1 : Nat) : Int) := w64_suc (n := 16) hlt ln16
          have hlt' : decide ((i : Int) < 16) = true := decide_eq_true (by omega)
          have l1 : i < U.length := by omega
          have l2 : i < U'.length := by omega
          have l3 : i < D.length := by omega
          have l4 : i < D'.length := by omega
          simp only [go_sem, Int.cast_ofNat_Int, Int.reduceToNat, Bool.true_xor, Bool.false_xor, Bool.xor_true, Bool.xor_false, Nat.reduceAdd, Nat.reduceBEq, Nat.reduceLeDiff, Nat.reduceLT, Nat.reduceMul, Nat.reduceSub, Int.reduceEq, Int.reduceLT, Int.reduceLE, Int.reduceNeg, hlt', l1, l2, l3, l4, hu, hu', hd, hd', hw]
          cases h2 : decide (u = u') with
          | false =>
            have : U ≠ U' := fun h => by subst h; rw [hu] at hu'; cases hu'; simp at h2
            simp only [go_sem, Int.cast_ofNat_Int, Int.reduceToNat, Bool.true_xor, Bool.false_xor, Bool.xor_true, Bool.xor_false, Nat.reduceAdd, Nat.reduceBEq, Nat.reduceLeDiff, Nat.reduceLT, Nat.reduceMul, Nat.reduceSub, Int.reduceEq, Int.reduceLT, Int.reduceLE, Int.reduceNeg, h2, fin (.inl this)]
          | true =>
            cases h3 : decide (d = d') with
            | false =>
              have : D ≠ D' := fun h => by subst h; rw [hd] at hd'; cases hd'; simp at h3
              simp only [go_sem, Int.cast_ofNat_Int, Int.reduceToNat, Bool.true_xor, Bool.false_xor, Bool.xor_true, Bool.xor_false, Nat.reduceAdd, Nat.reduceBEq, Nat.reduceLeDiff, Nat.reduceLT, Nat.reduceMul, Nat.reduceSub, Int.reduceEq, Int.reduceLT, Int.reduceLE, Int.reduceNeg, h2, h3, l3, l4, hd, hd', fin (.inr this)]
            | true =>
              simp only [go_sem, Int.cast_ofNat_Int, Int.reduceToNat, Bool.true_xor, Bool.false_xor, Bool.xor_true, Bool.xor_false, Nat.reduceAdd, Nat.reduceBEq, Nat.reduceLeDiff, Nat.reduceLT, Nat.reduceMul, Nat.reduceSub, Int.reduceEq, Int.reduceLT, Int.reduceLE, Int.reduceNeg, h2, h3, l3, l4, hd, hd', hlt, hw]
              exact ⟨trivial, by first | trivial | rfl, upto_suc hP.1 (by rw [hu, hu', of_decide_eq_true h2]), upto_suc hP.2 (by rw [hd, hd', of_decide_eq_true h3])⟩
        obtain rfl : i = 16 := by omega
        have h2 : U = U' := ext_upto (by omega) (by omega) hP.1
        have h3 : D = D' := ext_upto (by omega) (by omega) hP.2
        clear hP hi hge fin
        subst h2
        subst h3
        have h13 := fun x y z es => s13k (n + 1) x y z es r C U D f g h (by omega) (by omega) (by omega)
        rw [hC, hU, hD] at h13
        have hS : (sumC C C').length = C.length := sumC_len (by omega)
        simp only [go_sem, Int.cast_ofNat_Int, Int.reduceToNat, Bool.true_xor, Bool.false_xor, Bool.xor_true, Bool.xor_false, Nat.reduceAdd, Nat.reduceBEq, Nat.reduceLeDiff, Nat.reduceLT, Nat.reduceMul, Nat.reduceSub, Int.reduceEq, Int.reduceLT, Int.reduceLE, Int.reduceNeg, show decide (((16 : Nat) : Int) < 16) = false from by decide, h13, mgV, hv, hv', h1]
        refine loop_rule (fun i => ([(2, .ptr 0 0 0 0), (3, .ptr 1 0 0 0), (4, .ptr 2 0 0 0), (7, .ptr 8 0 0 0), (8, .int .i64 i)],
              ⟨[.box [.int .i64 r, .lst 2 (cS C) f, .lst 1 (iS U) g, .lst 1 (iS D) h], .box [.int .i64 r', .lst 2 (cS C') f', .lst 1 (iS U) g', .lst 1 (iS D) h'], .box [.int .i64 0, .lst 0 [] true, .lst 0 [] true, .lst 0 [] true],
                .box [.int .i64 r, .lst 2 (cS C) f, .lst 1 (iS U) g, .lst 1 (iS D) h], .box (lsC r 5 16 16 16), .arr 0 2 (cS ((sumC C C').take i ++ C.drop i)) false, .arr 0 1 (iS U) false, .arr 0 1 (iS D) false, .box (lsC r 5 16 16 16)], [], 0⟩))
              (fun i => ∀ j c, j < i → (sumC C C')[j]? = some c → decide (c.1 ≤ 1073741824) = true) 16 (by simp only [go_sem, Int.cast_ofNat_Int, Int.reduceToNat, Bool.true_xor, Bool.false_xor, Bool.xor_true, Bool.xor_false, Nat.reduceAdd, Nat.reduceBEq, Nat.reduceLeDiff, Nat.reduceLT, Nat.reduceMul, Nat.reduceSub, Int.reduceEq, Int.reduceLT, Int.reduceLE, Int.reduceNeg]; rfl) (fun j c h => by omega) ?_
        intro i hi hP
        rcases Nat.lt_or_ge i 16 with hlt | hge
        · obtain ⟨c, hc⟩ := getS (l := C) (i := i) (by omega)
          obtain ⟨c', hc'⟩ := getS (l := C') (i := i) (by omega)
          obtain ⟨w1, w2, w3⟩ := sum_cB (vB_cB hv hc) (vB_cB hv' hc')
          have hs := sumC_get hc hc'
          have hw : w64 ((i : Int) + 1) = ((i + 1 : Nat) : Int) := w64_suc (n := 16) hlt ln16
          have hlt' : decide ((i : Int) < 16) = true := decide_eq_true (by omega)
          have hltC : i < C.length := by omega
          have hltC' : i < C'.length := by omega
          have hm : ((sumC C C').take i ++ C.drop i)[i]? = some c := by rw [mid_get (by omega), hc]
          have hml : i < ((sumC C C').take i ++ C.drop i).length := by rw [mid_len hS]; omega
          have hset := mid_set hs hS
          have hget : ∀ x : Int × Int, (((sumC C C').take i ++ C.drop i).set i x)[i]? = some x := fun x => by rw [List.getElem?_set_self hml]
          have hget2 : ((sumC C C').take (i + 1) ++ C.drop (i + 1))[i]? = some (c.1 + c'.1, c.2 + c'.2) := by rw [← hset]; exact hget _
          have h4 : decide (1073741824 < c.1 + c'.1) = !decide (c.1 + c'.1 ≤ 1073741824) := by
            rw [Bool.eq_iff_iff]; simp
          simp only [go_sem, Int.cast_ofNat_Int, Int.reduceToNat, Bool.true_xor, Bool.false_xor, Bool.xor_true, Bool.xor_false, Nat.reduceAdd, Nat.reduceBEq, Nat.reduceLeDiff, Nat.reduceLT, Nat.reduceMul, Nat.reduceSub, Int.reduceEq, Int.reduceLT, Int.reduceLE, Int.reduceNeg, hlt', hltC, hltC', hc, hc', hm, cS_set2, hget, hget2, List.set_set, w1, w2, hset, hw, h4]
          cases h4 : decide (c.1 + c'.1 ≤ 1073741824) with
          | false => simp only [go_sem, Int.cast_ofNat_Int, Int.reduceToNat, Bool.true_xor, Bool.false_xor, Bool.xor_true, Bool.xor_false, Nat.reduceAdd, Nat.reduceBEq, Nat.reduceLeDiff, Nat.reduceLT, Nat.reduceMul, Nat.reduceSub, Int.reduceEq, Int.reduceLT, Int.reduceLE, Int.reduceNeg, okS_no hs h4]
          | true =>
            simp only [go_sem, Int.cast_ofNat_Int, Int.reduceToNat, Bool.true_xor, Bool.false_xor, Bool.xor_true, Bool.xor_false, Nat.reduceAdd, Nat.reduceBEq, Nat.reduceLeDiff, Nat.reduceLT, Nat.reduceMul, Nat.reduceSub, Int.reduceEq, Int.reduceLT, Int.reduceLE, Int.reduceNeg, hlt, hw]
            refine ⟨trivial, by first | trivial | rfl, fun j d hj hd => ?_⟩
            rcases Nat.lt_or_ge j i with h3 | h3
            · exact hP j d h3 hd
            · obtain rfl : j = i := by omega
              rw [hs] at hd; cases hd; exact h4
        · obtain rfl : i = 16 := by omega
          have hok : okS (sumC C C') = true := okS_yes (fun j d hd => hP j d (by have := (List.getElem?_eq_some_iff.1 hd).1; omega) hd)
          have hme : (sumC C C').take 16 ++ C.drop 16 = sumC C C' := mid_end (by omega) hS
          have hl : (sumC C C').length = 16 := by omega
          simp only [go_sem, Int.cast_ofNat_Int, Int.reduceToNat, Bool.true_xor, Bool.false_xor, Bool.xor_true, Bool.xor_false, Nat.reduceAdd, Nat.reduceBEq, Nat.reduceLeDiff, Nat.reduceLT, Nat.reduceMul, Nat.reduceSub, Int.reduceEq, Int.reduceLT, Int.reduceLE, Int.reduceNeg, show decide (((16 : Nat) : Int) < 16) = false from by decide, hok, hme, fz_cS16 _ _ _ _ _ _ hl, fz_iS16 _ _ _ _ _ _ hU, fz_iS16 _ _ _ _ _ _ hD]
end Go.Sh
namespace Go.Sh
set_option linter.unusedSectionVars false
set_option linter.unnecessarySimpa false
set_option linter.unusedVariables false
set_option linter.unusedSimpArgs false
set_option maxRecDepth 100000
set_option maxHeartbeats 4000000
def fewB (C : List (Int × Int)) (U D : List Int) : Bool := decide (C.length ≤ 20) && decide (U.length ≤ 20) && decide (D.length ≤ 20)
@[go_sem] theorem lenF (n : Nat) : decide ((n : Int) ≤ 20) = decide (n ≤ 20) := by
  rw [Bool.eq_iff_iff, decide_eq_true_eq, decide_eq_true_eq]; omega
theorem s11 (n : Nat) (H : Heap) (r C U D f g h) : call1 T (n + 1) (.fn 11) [lr r C U D f g h] H = some (.bool (fewB C U D), H) := by
  refine call_pure e11 (by rfl) ?_
  cases h1 : decide (C.length ≤ 20) with
  | false => simp only [c11, heap0, go_sem, Int.cast_ofNat_Int, Int.reduceToNat, Bool.true_xor, Bool.false_xor, Bool.xor_true, Bool.xor_false, Nat.reduceAdd, Nat.reduceBEq, Nat.reduceLeDiff, Nat.reduceLT, Nat.reduceMul, Nat.reduceSub, Int.reduceEq, Int.reduceLT, Int.reduceLE, Int.reduceNeg, h1, fewB]
  | true =>
    cases h2 : decide (U.length ≤ 20) with
    | false => simp only [c11, heap0, go_sem, Int.cast_ofNat_Int, Int.reduceToNat, Bool.true_xor, Bool.false_xor, Bool.xor_true, Bool.xor_false, Nat.reduceAdd, Nat.reduceBEq, Nat.reduceLeDiff, Nat.reduceLT, Nat.reduceMul, Nat.reduceSub, Int.reduceEq, Int.reduceLT, Int.reduceLE, Int.reduceNeg, h1, h2, fewB]
    | true => simp only [c11, heap0, go_sem, Int.cast_ofNat_Int, Int.reduceToNat, Bool.true_xor, Bool.false_xor, Bool.xor_true, Bool.xor_false, Nat.reduceAdd, Nat.reduceBEq, Nat.reduceLeDiff, Nat.reduceLT, Nat.reduceMul, Nat.reduceSub, Int.reduceEq, Int.reduceLT, Int.reduceLE, Int.reduceNeg, h1, h2, fewB]
theorem few_len {C U D} (h : fewB C U D = true) : C.length ≤ 20 ∧ U.length ≤ 20 ∧ D.length ≤ 20 := by
  simp only [fewB, Bool.and_eq_true, decide_eq_true_eq] at h; omega
theorem ln20 {n : Nat} (h : n ≤ 20) : n ≤ maxLen := by simp only [maxLen]; omega
theorem mg_eq (r C U D r' C' U' D') : (∃ e, ∀ fl, mgV fl r C U D r' C' U' D' = .tup [lz, .int .i64 e]) ∨ ((sumC C C').length ≤ 20 ∧ U.length ≤ 20 ∧ D.length ≤ 20 ∧ ∃ e, ∀ fl, mgV fl r C U D r' C' U' D' = .tup [lr r (sumC C C') U D fl fl fl, .int .i64 e]) := by
  unfold mgV
  cases h : vB r C U D with
  | false => exact .inl ⟨1, fun _ => rfl⟩
  | true =>
    cases h' : vB r' C' U' D' with
    | false => exact .inl ⟨1, fun _ => rfl⟩
    | true =>
      obtain ⟨⟨_, _, hC, hU, hD⟩, _⟩ := vB_iff.1 h
      obtain ⟨⟨_, _, hC', hU', hD'⟩, _⟩ := vB_iff.1 h'
      cases decide (r = r') && decide (U = U') && decide (D = D') with
      | false => exact .inl ⟨11, fun _ => rfl⟩
      | true =>
        cases okS (sumC C C') with
        | false => exact .inl ⟨13, fun _ => rfl⟩
        | true => exact .inr ⟨by rw [sumC_len (by omega)]; omega, by omega, by omega, 0, fun _ => rfl⟩
theorem sm_self (r C U D) : smB r C U D r C U D = true := by simp [smB]
theorem s6 (r C U D f g h r' C' U' D' f' g' h') : call1 T 41 (.fn 6) [lr r C U D f g h, lr r' C' U' D' f' g' h'] heap0 = some (.bool true, heap0) := by
  refine call_pure e6 (by rfl) ?_
  have h10 := s10
  have h11 := fun H r C U D f g h => s11 39 H r C U D f g h
  cases k1 : fewB C U D with
  | false => simp only [c6, heap0, go_sem, Int.cast_ofNat_Int, Int.reduceToNat, Bool.true_xor, Bool.false_xor, Bool.xor_true, Bool.xor_false, Nat.reduceAdd, Nat.reduceBEq, Nat.reduceLeDiff, Nat.reduceLT, Nat.reduceMul, Nat.reduceSub, Int.reduceEq, Int.reduceLT, Int.reduceLE, Int.reduceNeg, h10, h11, k1]
  | true =>
    cases k2 : fewB C' U' D' with
    | false => simp only [c6, heap0, go_sem, Int.cast_ofNat_Int, Int.reduceToNat, Bool.true_xor, Bool.false_xor, Bool.xor_true, Bool.xor_false, Nat.reduceAdd, Nat.reduceBEq, Nat.reduceLeDiff, Nat.reduceLT, Nat.reduceMul, Nat.reduceSub, Int.reduceEq, Int.reduceLT, Int.reduceLE, Int.reduceNeg, h10, h11, k1, k2]
    | true =>
      obtain ⟨a1, a2, a3⟩ := few_len k1
      obtain ⟨b1, b2, b3⟩ := few_len k2
      have h13 := fun H => s13 39 H r C U D f g h a1 a2 a3
      have h13' := fun H => s13 39 H r' C' U' D' f' g' h' b1 b2 b3
      have h28 := fun H => s28 37 H r C U D false false false r' C' U' D' false false false
      have h29 := fun H => s29 37 H r C U D f g h r' C' U' D' f' g' h'
      have h31 := fun H => s31 39 H
      have h32 := fun H => s32 39 H
      have h30 := fun H => s30 39 H 0 C0 Z0 Z0 true true true 0 C0 Z0 Z0 true true true (by decide) (by decide) (by decide)
      rw [sm_self] at h30
      rcases mg_eq r C U D r' C' U' D' with ⟨e, q⟩ | ⟨q1, q2, q3, e, q⟩
      · rw [q] at h28 h29
        have h30' := fun H => s30z H
        simp only [c6, heap0, go_sem, Int.cast_ofNat_Int, Int.reduceToNat, Bool.true_xor, Bool.false_xor, Bool.xor_true, Bool.xor_false, Nat.reduceAdd, Nat.reduceBEq, Nat.reduceLeDiff, Nat.reduceLT, Nat.reduceMul, Nat.reduceSub, Int.reduceEq, Int.reduceLT, Int.reduceLE, Int.reduceNeg, h10, h11, h13, h13', h28, h29, h30, h30', h31, h32, k1, k2]
      · rw [q] at h28 h29
        have h30' := fun H => s30 39 H r (sumC C C') U D true true true r (sumC C C') U D false false false (ln20 q1) (ln20 q2) (ln20 q3)
        rw [sm_self] at h30'
        simp only [c6, heap0, go_sem, Int.cast_ofNat_Int, Int.reduceToNat, Bool.true_xor, Bool.false_xor, Bool.xor_true, Bool.xor_false, Nat.reduceAdd, Nat.reduceBEq, Nat.reduceLeDiff, Nat.reduceLT, Nat.reduceMul, Nat.reduceSub, Int.reduceEq, Int.reduceLT, Int.reduceLE, Int.reduceNeg, h10, h11, h13, h13', h28, h29, h30, h30', h31, h32, k1, k2]
abbrev lrT : List DT := [.int .i64, .lst [.int .i64, .int .i64], .lst [.int .i64], .lst [.int .i64]]
theorem cS_of : ∀ {L : List (List SV)}, (∀ q ∈ L, FitsL [.int .i64, .int .i64] q) → ∃ N, L = cS N
  | [], _ => ⟨[], rfl⟩
  | q :: L, h => by
    obtain ⟨N, rfl⟩ := cS_of (L := L) (fun q hq => h q (by simp [hq]))
    have k := h q (by simp)
    obtain ⟨a, _, rfl, _, k⟩ := fitsL_i k
    obtain ⟨b, _, rfl, _, k⟩ := fitsL_i k
    cases fitsL_nil' k
    exact ⟨(a, b) :: N, rfl⟩
theorem iS_of : ∀ {L : List (List SV)}, (∀ q ∈ L, FitsL [.int .i64] q) → ∃ N, L = iS N
  | [], _ => ⟨[], rfl⟩
  | q :: L, h => by
    obtain ⟨N, rfl⟩ := iS_of (L := L) (fun q hq => h q (by simp [hq]))
    have k := h q (by simp)
    obtain ⟨a, _, rfl, _, k⟩ := fitsL_i k
    cases fitsL_nil' k
    exact ⟨a :: N, rfl⟩
theorem lr_of {x : SV} (h : FitsA (true, lrT) x) : ∃ r C U D f g h, x = lr r C U D f g h ∧ (-9223372036854775808 ≤ r ∧ r ≤ 9223372036854775807) := by
  obtain ⟨cs, rfl, k⟩ := fitsA_agg h
  obtain ⟨r, _, rfl, w, k⟩ := fitsL_i k
  obtain ⟨L1, f1, _, rfl, m1, a1, k⟩ := fitsL_l k
  obtain ⟨L2, f2, _, rfl, m2, a2, k⟩ := fitsL_l k
  obtain ⟨L3, f3, _, rfl, m3, a3, k⟩ := fitsL_l k
  cases fitsL_nil' k
  obtain ⟨C, rfl⟩ := cS_of a1
  obtain ⟨U, rfl⟩ := iS_of a2
  obtain ⟨D, rfl⟩ := iS_of a3
  refine ⟨r, C, U, D, f1, f2, f3, rfl, ?_⟩
  simp only [Lit.wf, Bool.and_eq_true, decide_eq_true_eq] at w
  exact w
theorem law6 (xs : List SV) (h : FitsAll [(true, lrT), (true, lrT)] xs) : ∃ m, call1 T m (.fn 6) xs heap0 = some (.bool true, heap0) := by
  obtain ⟨x1, r1, rfl, h1, h⟩ := fitsAll_cons h
  obtain ⟨x2, r2, rfl, h2, h⟩ := fitsAll_cons h
  cases fitsAll_nil h
  obtain ⟨r, C, U, D, f1, f2, f3, rfl, _⟩ := lr_of h1
  obtain ⟨r', C', U', D', f1', f2', f3', rfl, _⟩ := lr_of h2
  exact ⟨41, s6 r C U D f1 f2 f3 r' C' U' D' f1' f2' f3'⟩
end Go.Sh
namespace Go.Sh
set_option linter.unusedSectionVars false
set_option linter.unnecessarySimpa false
set_option linter.unusedVariables false
set_option linter.unusedSimpArgs false
set_option maxRecDepth 100000
set_option maxHeartbeats 4000000
/-! ### The order of channels: the mathematics -/
def bS (L : List Nat) : List (List SV) := L.map fun (n : Nat) => [.int .i64 (n : Int)]
@[go_sem] theorem bS_len (L) : (bS L).length = L.length := by simp [bS]
@[go_sem] theorem bS_get (L) (i : Nat) : (bS L)[i]? = (L[i]?).map (fun (n : Nat) => [.int .i64 (n : Int)]) := by simp [bS]
theorem bS_iS (L) : bS L = iS (L.map fun (n : Nat) => (n : Int)) := by simp [bS, iS]
theorem bS_still (L) : Still (bS L) := by rw [bS_iS]; exact Still.ints _
@[go_sem] theorem fz_bS (N H d v C e) : fzB N H (d + 1) v 0 C.length (some (.arr v 1 (bS C) e)) = some (.lst 1 (bS C) e) := (bS_still C).fz N H d v _ 1 e (bS_len C)
@[go_sem] theorem refs_bS (C) : SV.refs.refsL (bS C).flatten = 0 := (bS_still C).zero
theorem bS_set (C : List Nat) (i c : Nat) : (bS C).set i [.int .i64 (c : Int)] = bS (C.set i c) := by simp [bS, List.map_set]
theorem bS_snoc (C : List Nat) (c : Nat) : bS C ++ [[.int .i64 (c : Int)]] = bS (C ++ [c]) := by simp [bS]
def cA (C : List (Int × Int)) (a : Nat) : Int × Int := C.getD a (0, 0)
theorem cA_of {C : List (Int × Int)} {a : Nat} {c} (h : C[a]? = some c) : cA C a = c := by simp [cA, h]
def lt1 (C : List (Int × Int)) (a b : Nat) : Bool := lsR (cA C a).1 (cA C a).2 (cA C b).1 (cA C b).2
def AllC (C : List (Int × Int)) : Prop := ∀ c ∈ C, cB c.1 c.2 = true
theorem cA_cB {C : List (Int × Int)} (h : AllC C) (a : Nat) : cB (cA C a).1 (cA C a).2 = true := by
  unfold cA
  rw [List.getD_eq_getElem?_getD]
  cases hq : C[a]? with
  | none => rfl
  | some c => exact h c (List.mem_of_getElem? hq)
theorem lt1_iff {C : List (Int × Int)} (h : AllC C) (a b : Nat) : lt1 C a b = true ↔ (cA C a).2 * max (cA C b).1 1 < (cA C b).2 * max (cA C a).1 1 := by
  have ha := cB_iff.1 (cA_cB h a)
  have hb := cB_iff.1 (cA_cB h b)
  simp only [lt1, lsR, decide_eq_true_eq]
  rw [pr_id (by omega) (by omega) (by omega), pr_id (by omega) (by omega) (by omega)]
theorem weak {k t j u i v : Int} (hA : 0 < t) (hB : 0 < u) (hC : 0 < v) (h : k * u ≤ j * t) (h2 : j * v ≤ i * u) : k * v ≤ i * t := by
  have e1 : k * u * v ≤ j * t * v := Int.mul_le_mul_of_nonneg_right h (by omega)
  have e2 : j * v * t ≤ i * u * t := Int.mul_le_mul_of_nonneg_right h2 (by omega)
  have e3 : j * t * v = j * v * t := by rw [Int.mul_assoc, Int.mul_assoc, Int.mul_comm t v]
  have e4 : (k * v) * u ≤ (i * t) * u := by
    have : (k * v) * u = k * u * v := by rw [Int.mul_assoc, Int.mul_assoc, Int.mul_comm v u]
    have : (i * t) * u = i * u * t := by rw [Int.mul_assoc, Int.mul_assoc, Int.mul_comm t u]
    omega
  exact Int.le_of_mul_le_mul_right e4 hB
/-- At most as good: a weak order. -/
theorem lt1_false {C : List (Int × Int)} (h : AllC C) (a b : Nat) : lt1 C a b = false ↔ (cA C b).2 * max (cA C a).1 1 ≤ (cA C a).2 * max (cA C b).1 1 := by
  rw [Bool.eq_false_iff, ne_eq, lt1_iff h]; omega
theorem lt1_weak {C : List (Int × Int)} (h : AllC C) {a b c : Nat} (h1 : lt1 C b a = false) (h2 : lt1 C c b = false) : lt1 C c a = false := by
  rw [lt1_false h] at h1 h2 ⊢
  exact weak (by omega) (by omega) (by omega) h1 h2
theorem lt1_asym {C : List (Int × Int)} (h : AllC C) {a b : Nat} (h1 : lt1 C a b = true) : lt1 C b a = false := by
  rw [lt1_false h]
  rw [lt1_iff h] at h1
  omega
theorem lt1_self {C : List (Int × Int)} (h : AllC C) (a : Nat) : lt1 C a a = false := by
  rw [lt1_false h]; omega
/-- The order with the index behind it: total. -/
def tl (C : List (Int × Int)) (a b : Nat) : Prop := lt1 C a b = true ∨ lt1 C b a = false ∧ a < b
theorem tl_le {C : List (Int × Int)} (h : AllC C) {a b : Nat} (h1 : tl C a b) : lt1 C b a = false := by
  rcases h1 with h1 | h1
  · exact lt1_asym h h1
  · exact h1.1
theorem tl_irr {C : List (Int × Int)} (h : AllC C) {a b : Nat} (h1 : tl C a b) (h2 : tl C b a) : False := by
  have e1 := tl_le h h1
  have e2 := tl_le h h2
  rcases h1 with h1 | h1
  · rw [h1] at e2; cases e2
  · rcases h2 with h2 | h2
    · rw [h2] at e1; cases e1
    · omega
/-! ### Sorting by insertion -/
def cutI (C : List (Int × Int)) (x : Nat) (L : List Nat) : Nat → Nat
  | 0 => 0
  | j + 1 => bif lt1 C x (L.getD j 0) then cutI C x L j else j + 1
def insI (C : List (Int × Int)) (x : Nat) (L : List Nat) : List Nat := L.take (cutI C x L L.length) ++ x :: L.drop (cutI C x L L.length)
def srt (C : List (Int × Int)) (B : List Nat) : Nat → List Nat
  | 0 => []
  | i + 1 => match B[i]? with
    | some x => insI C x (srt C B i)
    | none => srt C B i
theorem cutI_le (C x L) : ∀ j, cutI C x L j ≤ j
  | 0 => Nat.le_refl 0
  | j + 1 => by
    have := cutI_le C x L j
    simp only [cutI]
    cases lt1 C x (L.getD j 0)
    · exact Nat.le_refl _
    · simp only [cond_true]; omega
theorem insI_len (C x L) : (insI C x L).length = L.length + 1 := by
  have := cutI_le C x L L.length
  simp [insI]; omega
theorem srt_len (C B) : ∀ i, i ≤ B.length → (srt C B i).length = i
  | 0, _ => rfl
  | i + 1, h => by
    have ih := srt_len C B i (by omega)
    obtain ⟨x, hx⟩ := getS (l := B) (i := i) (by omega)
    simp only [srt, hx, insI_len, ih]
theorem insI_perm (C x L) : List.Perm (insI C x L) (x :: L) := by
  unfold insI
  refine List.perm_middle.trans ?_
  rw [List.take_append_drop]
theorem srt_perm (C B) : ∀ i, List.Perm (srt C B i) (B.take i)
  | 0 => by simp [srt]
  | i + 1 => by
    have ih := srt_perm C B i
    simp only [srt]
    cases hx : B[i]? with
    | none => rw [List.take_add_one, hx]; simpa using ih
    | some x =>
      rw [take_snoc hx]
      exact (insI_perm C x _).trans ((List.Perm.cons x ih).trans (List.perm_append_singleton x _).symm)
theorem cutI_hi (C x L) : ∀ j i, cutI C x L j ≤ i → i < j → lt1 C x (L.getD i 0) = true
  | 0, i, _, h => by omega
  | j + 1, i, h1, h2 => by
    simp only [cutI] at h1
    cases hq : lt1 C x (L.getD j 0) with
    | false => rw [hq] at h1; simp only [cond_false] at h1; omega
    | true =>
      rw [hq] at h1
      simp only [cond_true] at h1
      rcases Nat.lt_or_ge i j with h3 | h3
      · exact cutI_hi C x L j i h1 h3
      · obtain rfl : i = j := by omega
        exact hq
theorem cutI_lo (C x L) : ∀ j p, cutI C x L j = p + 1 → lt1 C x (L.getD p 0) = false
  | 0, p, h => by simp [cutI] at h
  | j + 1, p, h => by
    simp only [cutI] at h
    cases hq : lt1 C x (L.getD j 0) with
    | false => rw [hq] at h; simp only [cond_false] at h; obtain rfl : j = p := by omega
               exact hq
    | true => rw [hq] at h; exact cutI_lo C x L j p h
theorem insI_sorted {C x L} (h : AllC C) (hL : L.Pairwise (tl C)) (hx : ∀ a ∈ L, a < x) : (insI C x L).Pairwise (tl C) := by
  unfold insI
  have hle := cutI_le C x L L.length
  generalize hp : cutI C x L L.length = p at *
  have hlo : ∀ a ∈ L.take p, lt1 C x a = false := by
    intro a ha
    cases p with
    | zero => simp at ha
    | succ p =>
      have h1 := cutI_lo C x L _ _ hp
      obtain ⟨q, hq⟩ := List.getElem?_of_mem ha
      have hqp : q < p + 1 := by have := (List.getElem?_eq_some_iff.1 hq).1; simp at this; omega
      rw [List.getElem?_take, if_pos hqp] at hq
      obtain ⟨y, hy⟩ := getS (l := L) (i := p) (by omega)
      rw [show L.getD p 0 = y by simp [hy]] at h1
      rcases Nat.lt_or_ge q p with h3 | h3
      · have := List.pairwise_iff_getElem.1 hL q p (by omega) (by omega) h3
        have e1 : L[q]'(by omega) = a := (List.getElem?_eq_some_iff.1 hq).2
        have e2 : L[p]'(by omega) = y := (List.getElem?_eq_some_iff.1 hy).2
        rw [e1, e2] at this
        exact lt1_weak h (tl_le h this) h1
      · obtain rfl : q = p := by omega
        rw [hy] at hq; cases hq; exact h1
  have hhi : ∀ b ∈ L.drop p, lt1 C x b = true := by
    intro b hb
    obtain ⟨q, hq⟩ := List.getElem?_of_mem hb
    rw [List.getElem?_drop] at hq
    have := cutI_hi C x L L.length (p + q) (by omega) (List.getElem?_eq_some_iff.1 hq).1
    rwa [show L.getD (p + q) 0 = b by simp [hq]] at this
  have hsp : (L.take p ++ L.drop p).Pairwise (tl C) := by rw [List.take_append_drop]; exact hL
  rw [List.pairwise_append] at hsp
  rw [List.pairwise_append]
  refine ⟨hsp.1, List.pairwise_cons.2 ⟨fun b hb => .inl (hhi b hb), hsp.2.1⟩, fun a ha b hb => ?_⟩
  rcases List.mem_cons.1 hb with rfl | hb
  · exact .inr ⟨hlo a ha, hx a (List.mem_of_mem_take ha)⟩
  · exact hsp.2.2 a ha b hb
theorem srt_sorted {C B} (h : AllC C) (hB : B.Pairwise (· < ·)) : ∀ i, (srt C B i).Pairwise (tl C)
  | 0 => by simp [srt]
  | i + 1 => by
    have ih := srt_sorted h hB i
    simp only [srt]
    cases hx : B[i]? with
    | none => exact ih
    | some x =>
      refine insI_sorted h ih (fun a ha => ?_)
      have := (srt_perm C B i).mem_iff.1 ha
      obtain ⟨q, hq⟩ := List.getElem?_of_mem this
      have hqi : q < i := by have := (List.getElem?_eq_some_iff.1 hq).1; simp at this; omega
      rw [List.getElem?_take, if_pos hqi] at hq
      have hi := (List.getElem?_eq_some_iff.1 hx).1
      have := List.pairwise_iff_getElem.1 hB q i (by omega) hi hqi
      rwa [(List.getElem?_eq_some_iff.1 hq).2, (List.getElem?_eq_some_iff.1 hx).2] at this
end Go.Sh
namespace Go.Sh
set_option linter.unusedSectionVars false
set_option linter.unnecessarySimpa false
set_option linter.unusedVariables false
set_option linter.unusedSimpArgs false
set_option maxRecDepth 100000
set_option maxHeartbeats 4000000
/-! ### The sort walked -/
abbrev lrC (r : Int) (C : List (Int × Int)) (U D : List Int) (f g h : Bool) : List SV := [.int .i64 r, .lst 2 (cS C) f, .lst 1 (iS U) g, .lst 1 (iS D) h]
def cmpC (C : List (Int × Int)) (a b : Nat) : Int := cmpI (prV (cA C a).2 (cA C b).1) (prV (cA C b).2 (cA C a).1)
theorem cmpC_lt (C a b) : decide (cmpC C a b < 0) = lt1 C a b := by
  exact cmp_neg _ _
theorem s56 (n : Nat) (x : SBlk) (R : List SBlk) (es : List (Nat × Nat)) (ro : Nat) (r C U D f g h) (a b : Nat) (ha : a < C.length) (hb : b < C.length) :
    call1 T (n + 4) (.fn 56) [.int .i64 a, .int .i64 b, .ptr 1 0 0 0] ⟨x :: .box (lrC r C U D f g h) :: R, es, ro⟩ = some (.int .i64 (cmpC C a b), ⟨x :: .box (lrC r C U D f g h) :: R, es, ro⟩) := by
  refine call_ro e56 rfl rfl (fun RR k bl ro' hbl => ?_)
  have hbl : bl = x :: .box (lrC r C U D f g h) :: R := by
    rcases hbl with ⟨_, h2⟩ | h
    · simp [SV.refs.refsL, SV.refs] at h2
    · exact h
  subst hbl
  obtain ⟨c, hc⟩ := getS ha
  obtain ⟨d, hd⟩ := getS hb
  have h45 := fun H => s45 n H c.1 c.2 d.1 d.2
  have hcm : cmpC C a b = cmpI (prV c.2 d.1) (prV d.2 c.1) := by simp only [cmpC, cA_of hc, cA_of hd]
  simp only [c56, go_sem, Int.cast_ofNat_Int, Int.reduceToNat, Bool.true_xor, Bool.false_xor, Bool.xor_true, Bool.xor_false, Nat.reduceAdd, Nat.reduceBEq, Nat.reduceLeDiff, Nat.reduceLT, Nat.reduceMul, Nat.reduceSub, Int.reduceEq, Int.reduceLT, Int.reduceLE, Int.reduceNeg, ha, hb, hc, hd, h45, hcm]
/-- The data within the inner loop: x stands at p. -/
def dat (L : List Nat) (x : Nat) (R : List Nat) (p : Nat) : List Nat := L.take p ++ x :: (L.drop p ++ R)
theorem dat_len {L x R p} : (dat L x R p).length = L.length + R.length + 1 := by simp [dat]; omega
theorem dat_at {L x R p} (h : p ≤ L.length) : (dat L x R p)[p]? = some x := by
  unfold dat
  rw [List.getElem?_append_right (by simp; omega)]
  simp [Nat.min_eq_left h]
theorem dat_pre {L x R p y} (h : L[p]? = some y) : (dat L x R (p + 1))[p]? = some y := by
  have hi := (List.getElem?_eq_some_iff.1 h).1
  unfold dat
  rw [List.getElem?_append_left (by simp; omega), List.getElem?_take, if_pos (by omega), h]
theorem two_set {A : Type} (P : List A) (a b c d : A) (Z : List A) {p : Nat} (h : P.length = p) : ((P ++ a :: b :: Z).set (p + 1) c).set p d = P ++ d :: c :: Z := by
  subst h
  simp [List.set_append]
theorem dat_step {L x R p y} (h : L[p]? = some y) : ((dat L x R (p + 1)).set (p + 1) y).set p x = dat L x R p := by
  have hi := (List.getElem?_eq_some_iff.1 h).1
  have e := List.drop_eq_getElem_cons hi
  rw [(List.getElem?_eq_some_iff.1 h).2] at e
  unfold dat
  rw [take_snoc h, e, List.append_assoc]
  exact two_set _ _ _ _ _ _ (by simp; omega)
theorem s59 (n : Nat) (x z : SBlk) (v : Nat) (r C U D f g h) (B : List Nat) (hB : ∀ b ∈ B, b < C.length) (hl : B.length ≤ 16) :
    call1 T (n + 5) (.fn 59) [.slc 2 v 0 B.length, .int .i64 0, .int .i64 B.length, .fn 56 [.ptr 1 0 0 0]] ⟨[x, .box (lrC r C U D f g h), .arr v 1 (bS B) false, z], [], 0⟩ =
    some (.tup [], ⟨[x, .box (lrC r C U D f g h), .arr v 1 (bS (srt C B B.length)) false, z], [], 0⟩) := by
  refine call_in e59 (by rfl) ?_
  simp only [c59, go_sem, Int.cast_ofNat_Int, Int.reduceToNat, Bool.true_xor, Bool.false_xor, Bool.xor_true, Bool.xor_false, Nat.reduceAdd, Nat.reduceBEq, Nat.reduceLeDiff, Nat.reduceLT, Nat.reduceMul, Nat.reduceSub, Int.reduceEq, Int.reduceLT, Int.reduceLE, Int.reduceNeg]
  refine loop_rule (fun i => ([(0, .slc 2 v 0 B.length), (1, .int .i64 0), (2, .int .i64 B.length), (3, .fn 56 [.ptr 1 0 0 0]), (8, .int .i64 (i + 1 : Nat))], ⟨[x, .box (lrC r C U D f g h), .arr v 1 (bS (srt C B (i + 1) ++ B.drop (i + 1))) false, z], [], 0⟩))
    (fun _ => True) (B.length - 1) ?_ trivial ?_
  · have : srt C B (0 + 1) ++ B.drop (0 + 1) = B := by
      cases B with
      | nil => rfl
      | cons b B => simp [srt, insI, cutI]
    simp only [go_sem, Int.cast_ofNat_Int, Int.reduceToNat, Bool.true_xor, Bool.false_xor, Bool.xor_true, Bool.xor_false, Nat.reduceAdd, Nat.reduceBEq, Nat.reduceLeDiff, Nat.reduceLT, Nat.reduceMul, Nat.reduceSub, Int.reduceEq, Int.reduceLT, Int.reduceLE, Int.reduceNeg, this]
    rfl
  intro i hi _
  rcases Nat.lt_or_ge (i + 1) B.length with hlt | hge
  · have hlt' : decide (((i + 1 : Nat) : Int) < (B.length : Int)) = true := decide_eq_true (by omega)
    obtain ⟨b, hb⟩ := getS hlt
    have hbl := hB b (List.mem_of_getElem? hb)
    have hsl : (srt C B (i + 1)).length = i + 1 := srt_len C B _ (by omega)
    have hd0 : srt C B (i + 1) ++ B.drop (i + 1) = dat (srt C B (i + 1)) b (B.drop (i + 2)) (i + 1) := by
      have e1 : (srt C B (i + 1)).take (i + 1) = srt C B (i + 1) := List.take_of_length_le (by omega)
      have e2 : (srt C B (i + 1)).drop (i + 1) = [] := List.drop_of_length_le (by omega)
      have e3 := List.drop_eq_getElem_cons hlt
      rw [(List.getElem?_eq_some_iff.1 hb).2] at e3
      rw [dat, e1, e2, e3]
      rfl
    have hd1 : dat (srt C B (i + 1)) b (B.drop (i + 2)) (cutI C b (srt C B (i + 1)) (i + 1)) = srt C B (i + 2) ++ B.drop (i + 2) := by
      conv => rhs; rw [srt]
      simp only [hb, insI, hsl, dat, List.append_assoc, List.cons_append]
    have hmem : ∀ a ∈ srt C B (i + 1), a < C.length := fun a ha => hB a (List.mem_of_mem_take ((srt_perm C B _).mem_iff.1 ha))
    simp only [go_sem, Int.cast_ofNat_Int, Int.reduceToNat, Bool.true_xor, Bool.false_xor, Bool.xor_true, Bool.xor_false, Nat.reduceAdd, Nat.reduceBEq, Nat.reduceLeDiff, Nat.reduceLT, Nat.reduceMul, Nat.reduceSub, Int.reduceEq, Int.reduceLT, Int.reduceLE, Int.reduceNeg, hlt', hd0]
    refine loop_post (fun q => ([(0, .slc 2 v 0 B.length), (1, .int .i64 0), (2, .int .i64 B.length), (3, .fn 56 [.ptr 1 0 0 0]), (8, .int .i64 (i + 1 : Nat)), (9, .int .i64 (i + 1 - q : Nat))], ⟨[x, .box (lrC r C U D f g h), .arr v 1 (bS (dat (srt C B (i + 1)) b (B.drop (i + 2)) (i + 1 - q))) false, z], [], 0⟩))
      (fun q => cutI C b (srt C B (i + 1)) (i + 1) = cutI C b (srt C B (i + 1)) (i + 1 - q)) (i + 1) ?_ rfl ?_
    · simp only [go_sem, Int.cast_ofNat_Int, Int.reduceToNat, Bool.true_xor, Bool.false_xor, Bool.xor_true, Bool.xor_false, Nat.reduceAdd, Nat.reduceBEq, Nat.reduceLeDiff, Nat.reduceLT, Nat.reduceMul, Nat.reduceSub, Int.reduceEq, Int.reduceLT, Int.reduceLE, Int.reduceNeg]
      rfl
    · intro q hq hP
      generalize hp : i + 1 - q = p at *
      cases p with
      | zero =>
        have hw : w64 (((i + 1 : Nat) : Int) + 1) = ((i + 1 + 1 : Nat) : Int) := w64_suc (n := 17) (by omega) (by decide)
        have h0 : cutI C b (srt C B (i + 1)) 0 = 0 := rfl
        rw [hP, h0] at hd1
        simp only [go_sem, Int.cast_ofNat_Int, Int.reduceToNat, Bool.true_xor, Bool.false_xor, Bool.xor_true, Bool.xor_false, Nat.reduceAdd, Nat.reduceBEq, Nat.reduceLeDiff, Nat.reduceLT, Nat.reduceMul, Nat.reduceSub, Int.reduceEq, Int.reduceLT, Int.reduceLE, Int.reduceNeg, hw, hd1]
        exact ⟨by omega, rfl, trivial⟩
      | succ p =>
        have hps : p < (srt C B (i + 1)).length := by omega
        obtain ⟨y, hy⟩ := getS hps
        have hyl := hmem y (List.mem_of_getElem? hy)
        have g1 : (dat (srt C B (i + 1)) b (B.drop (i + 2)) (p + 1))[p + 1]? = some b := dat_at (by omega)
        have g2 : (dat (srt C B (i + 1)) b (B.drop (i + 2)) (p + 1))[p]? = some y := dat_pre hy
        have h56 := fun R es ro => s56 n x R es ro r C U D f g h b y hbl hyl
        have k1 : decide ((0 : Int) < ((p + 1 : Nat) : Int)) = true := decide_eq_true (by omega)
        have k2 : w64 (((p + 1 : Nat) : Int) - 1) = (p : Int) := by rw [w64_id (by omega) (by omega)]; omega
        have k3 : decide (((p + 1 : Nat) : Int) < (B.length : Int)) = true := decide_eq_true (by omega)
        have k4 : decide (p + 1 < B.length) = true := decide_eq_true (by omega)
        have k5 : decide (p < B.length) = true := decide_eq_true (by omega)
        simp only [go_sem, Int.cast_ofNat_Int, Int.reduceToNat, Bool.true_xor, Bool.false_xor, Bool.xor_true, Bool.xor_false, Nat.reduceAdd, Nat.reduceBEq, Nat.reduceLeDiff, Nat.reduceLT, Nat.reduceMul, Nat.reduceSub, Int.reduceEq, Int.reduceLT, Int.reduceLE, Int.reduceNeg, k1, k2, k3, k4, k5, g1, g2, h56, cmpC_lt]
        have gd : (srt C B (i + 1)).getD p 0 = y := by simp [hy]
        cases hlt1 : lt1 C b y with
        | false =>
          have hw : w64 (((i + 1 : Nat) : Int) + 1) = ((i + 1 + 1 : Nat) : Int) := w64_suc (n := 17) (by omega) (by decide)
          have h0 : cutI C b (srt C B (i + 1)) (p + 1) = p + 1 := by simp only [cutI, gd, hlt1, cond_false]
          rw [hP, h0] at hd1
          simp only [go_sem, Int.cast_ofNat_Int, Int.reduceToNat, Bool.true_xor, Bool.false_xor, Bool.xor_true, Bool.xor_false, Nat.reduceAdd, Nat.reduceBEq, Nat.reduceLeDiff, Nat.reduceLT, Nat.reduceMul, Nat.reduceSub, Int.reduceEq, Int.reduceLT, Int.reduceLE, Int.reduceNeg, hw, hd1]
          exact ⟨by omega, rfl, trivial⟩
        | true =>
          have h0 : cutI C b (srt C B (i + 1)) (p + 1) = cutI C b (srt C B (i + 1)) p := by simp only [cutI, gd, hlt1, cond_true]
          have g3 : ((dat (srt C B (i + 1)) b (B.drop (i + 2)) (p + 1)).set (p + 1) y)[p]? = some y := by rw [List.getElem?_set_ne (by omega)]; exact g2
          have e1 : i + 1 - (q + 1) = p := by omega
          simp only [go_sem, Int.cast_ofNat_Int, Int.reduceToNat, Bool.true_xor, Bool.false_xor, Bool.xor_true, Bool.xor_false, Nat.reduceAdd, Nat.reduceBEq, Nat.reduceLeDiff, Nat.reduceLT, Nat.reduceMul, Nat.reduceSub, Int.reduceEq, Int.reduceLT, Int.reduceLE, Int.reduceNeg, k2, k3, k4, k5, g1, g2, g3, bS_set, dat_step hy, e1]
          exact ⟨by omega, rfl, by rw [hP, h0]⟩
  · have hge' : decide (((i + 1 : Nat) : Int) < (B.length : Int)) = false := decide_eq_false (by omega)
    have e1 : srt C B (i + 1) ++ B.drop (i + 1) = srt C B B.length := by
      rw [List.drop_of_length_le (by omega), List.append_nil]
      rcases Nat.lt_or_ge B.length (i + 1) with h3 | h3
      · obtain rfl : i = 0 := by omega
        cases B with
        | nil => rfl
        | cons b B => simp at h3
      · rw [show i + 1 = B.length by omega]
    simp only [go_sem, Int.cast_ofNat_Int, Int.reduceToNat, Bool.true_xor, Bool.false_xor, Bool.xor_true, Bool.xor_false, Nat.reduceAdd, Nat.reduceBEq, Nat.reduceLeDiff, Nat.reduceLT, Nat.reduceMul, Nat.reduceSub, Int.reduceEq, Int.reduceLT, Int.reduceLE, Int.reduceNeg, hge', e1]
end Go.Sh
namespace Go.Sh
set_option linter.unusedSectionVars false
set_option linter.unnecessarySimpa false
set_option linter.unusedVariables false
set_option linter.unusedSimpArgs false
set_option maxRecDepth 100000
set_option maxHeartbeats 4000000
theorem s58 (n : Nat) (x z : SBlk) (v : Nat) (r C U D f g h) (B : List Nat) (hB : ∀ b ∈ B, b < C.length) (hl : B.length ≤ 16) :
    call1 T (n + 6) (.fn 58) [.slc 2 v 0 B.length, .int .i64 B.length, .fn 56 [.ptr 1 0 0 0]] ⟨[x, .box (lrC r C U D f g h), .arr v 1 (bS B) false, z], [], 0⟩ =
    some (.tup [], ⟨[x, .box (lrC r C U D f g h), .arr v 1 (bS (srt C B B.length)) false, z], [], 0⟩) := by
  refine call_in e58 (by rfl) ?_
  have h59 := s59 n x z v r C U D f g h B hB hl
  have k1 : decide ((20 : Int) ≤ (B.length : Int)) = false := decide_eq_false (by omega)
  have k2 : decide ((20 : Int) < (B.length : Int)) = false := decide_eq_false (by omega)
  simp only [c58, go_sem, Int.cast_ofNat_Int, Int.reduceToNat, Bool.true_xor, Bool.false_xor, Bool.xor_true, Bool.xor_false, Nat.reduceAdd, Nat.reduceBEq, Nat.reduceLeDiff, Nat.reduceLT, Nat.reduceMul, Nat.reduceSub, Int.reduceEq, Int.reduceLT, Int.reduceLE, Int.reduceNeg]
  refine loop_rule (fun _ => ([(0, .slc 2 v 0 B.length), (1, .int .i64 B.length), (2, .fn 56 [.ptr 1 0 0 0]), (6, .int .i64 20), (7, .int .i64 0), (8, .int .i64 20)], ⟨[x, .box (lrC r C U D f g h), .arr v 1 (bS B) false, z], [], 0⟩)) (fun _ => True) 0 (by simp only [go_sem, Int.cast_ofNat_Int, Int.reduceToNat, Bool.true_xor, Bool.false_xor, Bool.xor_true, Bool.xor_false, Nat.reduceAdd, Nat.reduceBEq, Nat.reduceLeDiff, Nat.reduceLT, Nat.reduceMul, Nat.reduceSub, Int.reduceEq, Int.reduceLT, Int.reduceLE, Int.reduceNeg]; rfl) trivial ?_
  intro i hi _
  simp only [go_sem, Int.cast_ofNat_Int, Int.reduceToNat, Bool.true_xor, Bool.false_xor, Bool.xor_true, Bool.xor_false, Nat.reduceAdd, Nat.reduceBEq, Nat.reduceLeDiff, Nat.reduceLT, Nat.reduceMul, Nat.reduceSub, Int.reduceEq, Int.reduceLT, Int.reduceLE, Int.reduceNeg, k1, h59]
  refine loop_rule (fun _ => ([(0, .slc 2 v 0 B.length), (1, .int .i64 B.length), (2, .fn 56 [.ptr 1 0 0 0]), (6, .int .i64 20)], ⟨[x, .box (lrC r C U D f g h), .arr v 1 (bS (srt C B B.length)) false, z], [], 0⟩)) (fun _ => True) 0 (by simp only [go_sem, Int.cast_ofNat_Int, Int.reduceToNat, Bool.true_xor, Bool.false_xor, Bool.xor_true, Bool.xor_false, Nat.reduceAdd, Nat.reduceBEq, Nat.reduceLeDiff, Nat.reduceLT, Nat.reduceMul, Nat.reduceSub, Int.reduceEq, Int.reduceLT, Int.reduceLE, Int.reduceNeg]; rfl) trivial ?_
  intro i hi _
  simp only [go_sem, Int.cast_ofNat_Int, Int.reduceToNat, Bool.true_xor, Bool.false_xor, Bool.xor_true, Bool.xor_false, Nat.reduceAdd, Nat.reduceBEq, Nat.reduceLeDiff, Nat.reduceLT, Nat.reduceMul, Nat.reduceSub, Int.reduceEq, Int.reduceLT, Int.reduceLE, Int.reduceNeg, k2]
theorem s55 (n : Nat) (x z : SBlk) (v : Nat) (r C U D f g h) (B : List Nat) (hB : ∀ b ∈ B, b < C.length) (hl : B.length ≤ 16) :
    call1 T (n + 7) (.fn 55) [.slc 2 v 0 B.length, .fn 56 [.ptr 1 0 0 0]] ⟨[x, .box (lrC r C U D f g h), .arr v 1 (bS B) false, z], [], 0⟩ =
    some (.tup [], ⟨[x, .box (lrC r C U D f g h), .arr v 1 (bS (srt C B B.length)) false, z], [], 0⟩) := by
  refine call_in e55 (by rfl) ?_
  have h58 := s58 n x z v r C U D f g h B hB hl
  simp only [c55, go_sem, Int.cast_ofNat_Int, Int.reduceToNat, Bool.true_xor, Bool.false_xor, Bool.xor_true, Bool.xor_false, Nat.reduceAdd, Nat.reduceBEq, Nat.reduceLeDiff, Nat.reduceLT, Nat.reduceMul, Nat.reduceSub, Int.reduceEq, Int.reduceLT, Int.reduceLE, Int.reduceNeg, h58]
/-! ### The channels that are bad, and those that are proved -/
def uA (U : List Int) (a : Nat) : Int := U.getD a 0
theorem uA_of {U : List Int} {a : Nat} {u} (h : U[a]? = some u) : uA U a = u := by simp [uA, h]
def badI (C : List (Int × Int)) (U : List Int) (w lo : Int) (i : Nat) : Bool := decide (uA U i = 0) && !decide ((cA C i).1 < w) && decide (rtV (cA C i).1 (cA C i).2 < lo)
def prvI (C : List (Int × Int)) (U : List Int) (w lo hi : Int) (i : Nat) : Bool := decide (uA U i = 0) && !decide ((cA C i).1 < w) && !decide (rtV (cA C i).1 (cA C i).2 < lo) && decide (hi ≤ rtV (cA C i).1 (cA C i).2)
def upto (p : Nat → Bool) (i : Nat) : List Nat := (List.range i).filter p
theorem upto_yes {p : Nat → Bool} {i : Nat} (h : p i = true) : upto p (i + 1) = upto p i ++ [i] := by simp [upto, List.range_succ, List.filter_append, h]
theorem upto_no {p : Nat → Bool} {i : Nat} (h : p i = false) : upto p (i + 1) = upto p i := by simp [upto, List.range_succ, List.filter_append, h]
theorem upto_len (p : Nat → Bool) (i : Nat) : (upto p i).length ≤ i := by
  have := List.length_filter_le p (List.range i)
  simpa [upto] using this
theorem upto_mem {p : Nat → Bool} {i a : Nat} : a ∈ upto p i ↔ a < i ∧ p a = true := by simp [upto]
theorem upto_sorted (p : Nat → Bool) (i : Nat) : (upto p i).Pairwise (· < ·) := by
  unfold upto
  exact List.Pairwise.filter _ List.pairwise_lt_range
theorem room8 {n : Nat} (h : n ≤ 16) : decide ((n + 1) * 8 ≤ mostLen) = true := by
  simp only [decide_eq_true_eq]
  exact Nat.le_trans (show (n + 1) * 8 ≤ 1000 by omega) (by decide)
def srtB (C : List (Int × Int)) (U : List Int) (w lo : Int) : List Nat := srt C (upto (badI C U w lo) 16) (upto (badI C U w lo) 16).length
abbrev rul (w lo hi le : Int) : SV := .agg [.int .i64 w, .int .i64 lo, .int .i64 hi, .int .i64 le]
theorem s53 (n : Nat) (H : Heap) (w lo hi le : Int) (r C U D f g h) (hC : C.length = 16) (hU : U.length = 16) :
    call1 T (n + 8) (.fn 53) [rul w lo hi le, lr r C U D f g h] H = some (.tup [.lst 1 (bS (srtB C U w lo)) false, .lst 1 (bS (upto (prvI C U w lo hi) 16)) false], H) := by
  refine call_pure e53 (by rfl) ?_
  simp only [c53, heap0, go_sem, Int.cast_ofNat_Int, Int.reduceToNat, Bool.true_xor, Bool.false_xor, Bool.xor_true, Bool.xor_false, Nat.reduceAdd, Nat.reduceBEq, Nat.reduceLeDiff, Nat.reduceLT, Nat.reduceMul, Nat.reduceSub, Int.reduceEq, Int.reduceLT, Int.reduceLE, Int.reduceNeg, hC]
  refine loop_rule (fun i => ([(2, .ptr 0 0 0 0), (3, .ptr 1 0 0 0), (4, .slc 2 (upto (badI C U w lo) i).length 0 (upto (badI C U w lo) i).length), (5, .slc 3 (upto (prvI C U w lo hi) i).length 0 (upto (prvI C U w lo hi) i).length), (9, .lst 2 (cS C) f), (10, .int .i64 16), (11, .int .i64 i)],
    ⟨[.box [.int .i64 w, .int .i64 lo, .int .i64 hi, .int .i64 le], .box (lrC r C U D f g h), .arr (upto (badI C U w lo) i).length 1 (bS (upto (badI C U w lo) i)) false, .arr (upto (prvI C U w lo hi) i).length 1 (bS (upto (prvI C U w lo hi) i)) false], [], 0⟩)) (fun _ => True) 16 (by simp only [go_sem, Int.cast_ofNat_Int, Int.reduceToNat, Bool.true_xor, Bool.false_xor, Bool.xor_true, Bool.xor_false, Nat.reduceAdd, Nat.reduceBEq, Nat.reduceLeDiff, Nat.reduceLT, Nat.reduceMul, Nat.reduceSub, Int.reduceEq, Int.reduceLT, Int.reduceLE, Int.reduceNeg]; rfl) trivial ?_
  intro i hi' _
  rcases Nat.lt_or_ge i 16 with hlt | hge
  · obtain ⟨c, hc⟩ := getS (l := C) (i := i) (by omega)
    obtain ⟨u, hu⟩ := getS (l := U) (i := i) (by omega)
    have hlt' : decide ((i : Int) < 16) = true := decide_eq_true (by omega)
    have hlC : i < C.length := by omega
    have hlU : i < U.length := by omega
    have hw : w64 ((i : Int) + 1) = ((i + 1 : Nat) : Int) := w64_suc (n := 16) hlt ln16
    have hb : badI C U w lo i = (decide (u = 0) && !decide (c.1 < w) && decide (rtV c.1 c.2 < lo)) := by simp only [badI, uA_of hu, cA_of hc]
    have hp : prvI C U w lo hi i = (decide (u = 0) && !decide (c.1 < w) && !decide (rtV c.1 c.2 < lo) && decide (hi ≤ rtV c.1 c.2)) := by simp only [prvI, uA_of hu, cA_of hc]
    have rb := room8 (n := (upto (badI C U w lo) i).length) (Nat.le_trans (upto_len _ _) (by omega))
    have rp := room8 (n := (upto (prvI C U w lo hi) i).length) (Nat.le_trans (upto_len _ _) (by omega))
    have gb := fun H => apB_grow 1 H 2 (upto (badI C U w lo) i).length (upto (badI C U w lo) i).length [[.int .i64 (i : Int)]] (bS (upto (badI C U w lo) i)) (bS_len _)
    have gp := fun H => apB_grow 1 H 3 (upto (prvI C U w lo hi) i).length (upto (prvI C U w lo hi) i).length [[.int .i64 (i : Int)]] (bS (upto (prvI C U w lo hi) i)) (bS_len _)
    have h43 := fun H => s43 (n + 6) H c.1 c.2
    cases k1 : decide (u = 0) with
    | false =>
      have e1 := upto_no (p := badI C U w lo) (i := i) (by rw [hb, k1]; rfl)
      have e2 := upto_no (p := prvI C U w lo hi) (i := i) (by rw [hp, k1]; rfl)
      simp only [go_sem, Int.cast_ofNat_Int, Int.reduceToNat, Bool.true_xor, Bool.false_xor, Bool.xor_true, Bool.xor_false, Nat.reduceAdd, Nat.reduceBEq, Nat.reduceLeDiff, Nat.reduceLT, Nat.reduceMul, Nat.reduceSub, Int.reduceEq, Int.reduceLT, Int.reduceLE, Int.reduceNeg, hlt, hlt', hlC, hlU, hc, hu, k1, hw, e1, e2]
      exact ⟨by first | trivial | omega, by first | trivial | rfl, trivial⟩
    | true =>
      cases k2 : decide (c.1 < w) with
      | true =>
        have e1 := upto_no (p := badI C U w lo) (i := i) (by rw [hb, k1, k2]; rfl)
        have e2 := upto_no (p := prvI C U w lo hi) (i := i) (by rw [hp, k1, k2]; rfl)
        simp only [go_sem, Int.cast_ofNat_Int, Int.reduceToNat, Bool.true_xor, Bool.false_xor, Bool.xor_true, Bool.xor_false, Nat.reduceAdd, Nat.reduceBEq, Nat.reduceLeDiff, Nat.reduceLT, Nat.reduceMul, Nat.reduceSub, Int.reduceEq, Int.reduceLT, Int.reduceLE, Int.reduceNeg, hlt, hlt', hlC, hlU, hc, hu, k1, k2, hw, e1, e2]
        exact ⟨by first | trivial | omega, by first | trivial | rfl, trivial⟩
      | false =>
        cases k3 : decide (rtV c.1 c.2 < lo) with
        | true =>
          have e1 := upto_yes (p := badI C U w lo) (i := i) (by rw [hb, k1, k2, k3]; rfl)
          have e2 := upto_no (p := prvI C U w lo hi) (i := i) (by rw [hp, k1, k2, k3]; rfl)
          simp only [go_sem, Int.cast_ofNat_Int, Int.reduceToNat, Bool.true_xor, Bool.false_xor, Bool.xor_true, Bool.xor_false, Nat.reduceAdd, Nat.reduceBEq, Nat.reduceLeDiff, Nat.reduceLT, Nat.reduceMul, Nat.reduceSub, Int.reduceEq, Int.reduceLT, Int.reduceLE, Int.reduceNeg, hlt, hlt', hlC, hlU, hc, hu, k1, k2, k3, h43, rb, gb, bS_snoc, hw, e1, e2, List.length_append]
          exact ⟨by first | trivial | omega, by first | trivial | rfl, trivial⟩
        | false =>
          have e1 := upto_no (p := badI C U w lo) (i := i) (by rw [hb, k1, k2, k3]; rfl)
          cases k4 : decide (hi ≤ rtV c.1 c.2) with
          | true =>
            have e2 := upto_yes (p := prvI C U w lo hi) (i := i) (by rw [hp, k1, k2, k3, k4]; rfl)
            simp only [go_sem, Int.cast_ofNat_Int, Int.reduceToNat, Bool.true_xor, Bool.false_xor, Bool.xor_true, Bool.xor_false, Nat.reduceAdd, Nat.reduceBEq, Nat.reduceLeDiff, Nat.reduceLT, Nat.reduceMul, Nat.reduceSub, Int.reduceEq, Int.reduceLT, Int.reduceLE, Int.reduceNeg, hlt, hlt', hlC, hlU, hc, hu, k1, k2, k3, k4, h43, rp, gp, bS_snoc, hw, e1, e2, List.length_append]
            exact ⟨by first | trivial | omega, by first | trivial | rfl, trivial⟩
          | false =>
            have e2 := upto_no (p := prvI C U w lo hi) (i := i) (by rw [hp, k1, k2, k3, k4]; rfl)
            simp only [go_sem, Int.cast_ofNat_Int, Int.reduceToNat, Bool.true_xor, Bool.false_xor, Bool.xor_true, Bool.xor_false, Nat.reduceAdd, Nat.reduceBEq, Nat.reduceLeDiff, Nat.reduceLT, Nat.reduceMul, Nat.reduceSub, Int.reduceEq, Int.reduceLT, Int.reduceLE, Int.reduceNeg, hlt, hlt', hlC, hlU, hc, hu, k1, k2, k3, k4, h43, hw, e1, e2]
            exact ⟨by first | trivial | omega, by first | trivial | rfl, trivial⟩
  · obtain rfl : i = 16 := by omega
    have h55 := fun x z => s55 n x z (upto (badI C U w lo) 16).length r C U D f g h (upto (badI C U w lo) 16) (fun b hb => by have := (upto_mem.1 hb).1; omega) (upto_len _ _)
    have hz : (upto (badI C U w lo) 16).length = (srtB C U w lo).length := (srt_len C _ _ (Nat.le_refl _)).symm
    have fz := fun N H d v e => fz_bS N H d v (srtB C U w lo) e
    rw [← hz] at fz
    have hsr : srt C (upto (badI C U w lo) 16) (upto (badI C U w lo) 16).length = srtB C U w lo := rfl
    rw [hsr] at h55
    simp only [go_sem, Int.cast_ofNat_Int, Int.reduceToNat, Bool.true_xor, Bool.false_xor, Bool.xor_true, Bool.xor_false, Nat.reduceAdd, Nat.reduceBEq, Nat.reduceLeDiff, Nat.reduceLT, Nat.reduceMul, Nat.reduceSub, Int.reduceEq, Int.reduceLT, Int.reduceLE, Int.reduceNeg, show decide (((16 : Nat) : Int) < 16) = false from by decide, h55, fz]
end Go.Sh
namespace Go.Sh
set_option linter.unusedSectionVars false
set_option linter.unnecessarySimpa false
set_option linter.unusedVariables false
set_option linter.unusedSimpArgs false
set_option maxRecDepth 100000
set_option maxHeartbeats 4000000
def nh (d : Int) : Int := min (max (w64 (2 * d)) 1) 64
def updU (r : Int) (U D : List Int) (i : Nat) : List Int := U.set i (w64 (w64 (r + 1) + nh (uA D i)))
def updD (D : List Int) (i : Nat) : List Int := D.set i (nh (uA D i))
def pk (r : Int) (U D : List Int) (S : List Nat) : Nat → List Int × List Int
  | 0 => (U, D)
  | m + 1 => match S[m]? with
    | some i => (updU r (pk r U D S m).1 (pk r U D S m).2 i, updD (pk r U D S m).2 i)
    | none => pk r U D S m
theorem pk_suc {r U D S m i} (h : S[m]? = some i) : pk r U D S (m + 1) = (updU r (pk r U D S m).1 (pk r U D S m).2 i, updD (pk r U D S m).2 i) := by simp only [pk, h]
theorem pk_len1 (r U D S) : ∀ m, (pk r U D S m).1.length = U.length
  | 0 => rfl
  | m + 1 => by
    have ih := pk_len1 r U D S m
    simp only [pk]
    cases S[m]? with
    | none => exact ih
    | some i => simp [updU, ih]
theorem pk_len2 (r U D S) : ∀ m, (pk r U D S m).2.length = D.length
  | 0 => rfl
  | m + 1 => by
    have ih := pk_len2 r U D S m
    simp only [pk]
    cases S[m]? with
    | none => exact ih
    | some i => simp [updD, ih]
/-- Those for which p holds are put to 0. -/
def zD (p : Nat → Bool) (D : List Int) : List Int := (List.range D.length).map fun j => bif p j then 0 else uA D j
theorem zD_len (p D) : (zD p D).length = D.length := by simp [zD]
theorem zD_get {p : Nat → Bool} {D : List Int} {j : Nat} {d} (h : D[j]? = some d) : (zD p D)[j]? = some (bif p j then 0 else d) := by
  have := (List.getElem?_eq_some_iff.1 h).1
  simp [zD, this, uA_of h]
def zrs (D : List Int) (P : List Nat) : Nat → List Int
  | 0 => D
  | m + 1 => match P[m]? with
    | some i => (zrs D P m).set i 0
    | none => zrs D P m
theorem zrs_suc {D P m i} (h : P[m]? = some i) : zrs D P (m + 1) = (zrs D P m).set i 0 := by simp only [zrs, h]
theorem zrs_len (D P) : ∀ m, (zrs D P m).length = D.length
  | 0 => rfl
  | m + 1 => by
    have ih := zrs_len D P m
    simp only [zrs]
    cases P[m]? with
    | none => exact ih
    | some i => simp [ih]
theorem zrs_get (D P) : ∀ m j, (zrs D P m)[j]? = if j ∈ P.take m then (D[j]?).map (fun _ => 0) else D[j]?
  | 0, j => by simp [zrs]
  | m + 1, j => by
    have ih := zrs_get D P m j
    simp only [zrs]
    cases h : P[m]? with
    | none => rw [List.take_add_one, h]; simpa using ih
    | some i =>
      simp only
      rw [take_snoc h, List.getElem?_set, ih, zrs_len]
      by_cases h1 : i = j
      · subst h1
        simp only [if_true, List.mem_append, List.mem_singleton, or_true]
        split
        · rename_i h2; rw [List.getElem?_eq_getElem h2]; rfl
        · rename_i h2; rw [List.getElem?_eq_none (by omega)]; rfl
      · simp only [if_neg h1, List.mem_append, List.mem_singleton]
        have : (j = i) = False := by simp; omega
        simp only [this, or_false]
theorem zrs_end (D : List Int) (p : Nat → Bool) (h : D.length = 16) : zrs D (upto p 16) (upto p 16).length = zD p D := by
  apply List.ext_getElem?
  intro j
  rw [zrs_get, List.take_length]
  rcases Nat.lt_or_ge j 16 with h3 | h3
  · obtain ⟨d, hd⟩ := getS (l := D) (i := j) (by omega)
    rw [zD_get hd, hd]
    cases hp : p j with
    | true => rw [if_pos (upto_mem.2 ⟨h3, hp⟩)]; rfl
    | false => rw [if_neg (fun h => by rw [(upto_mem.1 h).2] at hp; cases hp)]; rfl
  · rw [if_neg (fun h => by have := (upto_mem.1 h).1; omega), List.getElem?_eq_none (by omega), List.getElem?_eq_none (by rw [zD_len]; omega)]
def fU (r1 u : Int) : Int := bif decide (u ≤ r1) then 0 else u
def fr (U : List Int) : Int := (U.count 0 : Nat)
def kI (S : List Nat) (U : List Int) (le : Int) : Nat := (max 0 (min (S.length : Int) (w64 (fr U - le)))).toNat
def rightB (w lo hi le : Int) : Bool := decide (1 ≤ w) && decide (w ≤ 1000) && decide (0 ≤ lo) && decide (lo ≤ hi) && decide (hi ≤ 1000) && decide (1 ≤ le) && decide (le ≤ 16)
/-- What is left behind a round: Until, Hold. -/
def clU (r : Int) (C : List (Int × Int)) (U D : List Int) (w lo le : Int) : List Int := (pk r U D (srtB C U w lo) (kI (srtB C U w lo) U le)).1.map (fU (w64 (r + 1)))
def clD (r : Int) (C : List (Int × Int)) (U D : List Int) (w lo hi le : Int) : List Int := zD (prvI C U w lo hi) (pk r U D (srtB C U w lo) (kI (srtB C U w lo) U le)).2
def clV (fl : Bool) (r : Int) (C : List (Int × Int)) (U D : List Int) (w lo hi le : Int) : SV :=
  bif vB r C U D then bif rightB w lo hi le then bif decide (r = 1073741824) then .tup [lz, .int .i64 13]
      else .tup [lr (w64 (r + 1)) C0 (clU r C U D w lo le) (clD r C U D w lo hi le) fl fl fl, .int .i64 0]
    else .tup [lz, .int .i64 2]
  else .tup [lz, .int .i64 1]
theorem s52 (n : Nat) (H : Heap) (w lo hi le : Int) : call1 T (n + 1) (.fn 52) [rul w lo hi le] H = some (.bool (rightB w lo hi le), H) := by
  refine call_pure e52 (by rfl) ?_
  unfold rightB
  cases h1 : decide (1 ≤ w) with
  | false => simp only [c52, heap0, go_sem, Int.cast_ofNat_Int, Int.reduceToNat, Bool.true_xor, Bool.false_xor, Bool.xor_true, Bool.xor_false, Nat.reduceAdd, Nat.reduceBEq, Nat.reduceLeDiff, Nat.reduceLT, Nat.reduceMul, Nat.reduceSub, Int.reduceEq, Int.reduceLT, Int.reduceLE, Int.reduceNeg, h1]
  | true =>
  cases h2 : decide (w ≤ 1000) with
  | false => simp only [c52, heap0, go_sem, Int.cast_ofNat_Int, Int.reduceToNat, Bool.true_xor, Bool.false_xor, Bool.xor_true, Bool.xor_false, Nat.reduceAdd, Nat.reduceBEq, Nat.reduceLeDiff, Nat.reduceLT, Nat.reduceMul, Nat.reduceSub, Int.reduceEq, Int.reduceLT, Int.reduceLE, Int.reduceNeg, h1, h2]
  | true =>
  cases h3 : decide (0 ≤ lo) with
  | false => simp only [c52, heap0, go_sem, Int.cast_ofNat_Int, Int.reduceToNat, Bool.true_xor, Bool.false_xor, Bool.xor_true, Bool.xor_false, Nat.reduceAdd, Nat.reduceBEq, Nat.reduceLeDiff, Nat.reduceLT, Nat.reduceMul, Nat.reduceSub, Int.reduceEq, Int.reduceLT, Int.reduceLE, Int.reduceNeg, h1, h2, h3]
  | true =>
  cases h4 : decide (lo ≤ hi) with
  | false => simp only [c52, heap0, go_sem, Int.cast_ofNat_Int, Int.reduceToNat, Bool.true_xor, Bool.false_xor, Bool.xor_true, Bool.xor_false, Nat.reduceAdd, Nat.reduceBEq, Nat.reduceLeDiff, Nat.reduceLT, Nat.reduceMul, Nat.reduceSub, Int.reduceEq, Int.reduceLT, Int.reduceLE, Int.reduceNeg, h1, h2, h3, h4]
  | true =>
  cases h5 : decide (hi ≤ 1000) with
  | false => simp only [c52, heap0, go_sem, Int.cast_ofNat_Int, Int.reduceToNat, Bool.true_xor, Bool.false_xor, Bool.xor_true, Bool.xor_false, Nat.reduceAdd, Nat.reduceBEq, Nat.reduceLeDiff, Nat.reduceLT, Nat.reduceMul, Nat.reduceSub, Int.reduceEq, Int.reduceLT, Int.reduceLE, Int.reduceNeg, h1, h2, h3, h4, h5]
  | true =>
  cases h6 : decide (1 ≤ le) with
  | false => simp only [c52, heap0, go_sem, Int.cast_ofNat_Int, Int.reduceToNat, Bool.true_xor, Bool.false_xor, Bool.xor_true, Bool.xor_false, Nat.reduceAdd, Nat.reduceBEq, Nat.reduceLeDiff, Nat.reduceLT, Nat.reduceMul, Nat.reduceSub, Int.reduceEq, Int.reduceLT, Int.reduceLE, Int.reduceNeg, h1, h2, h3, h4, h5, h6]
  | true => simp only [c52, heap0, go_sem, Int.cast_ofNat_Int, Int.reduceToNat, Bool.true_xor, Bool.false_xor, Bool.xor_true, Bool.xor_false, Nat.reduceAdd, Nat.reduceBEq, Nat.reduceLeDiff, Nat.reduceLT, Nat.reduceMul, Nat.reduceSub, Int.reduceEq, Int.reduceLT, Int.reduceLE, Int.reduceNeg, h1, h2, h3, h4, h5, h6]
theorem bS_take (L : List Nat) (n : Nat) : (bS L).take n = bS (L.take n) := by simp [bS]
theorem srtB_mem {C U w lo a} (h : a ∈ srtB C U w lo) : a < 16 := by
  have := (srt_perm C (upto (badI C U w lo) 16) (upto (badI C U w lo) 16).length).mem_iff.1 h
  rw [List.take_length] at this
  exact (upto_mem.1 this).1
theorem srtB_len (C U w lo) : (srtB C U w lo).length ≤ 16 := by
  unfold srtB
  rw [srt_len _ _ _ (Nat.le_refl _)]
  exact upto_len _ _
theorem count_take {U : List Int} {i : Nat} {u : Int} (h : U[i]? = some u) : (((U.take (i + 1)).count 0 : Nat) : Int) = ((U.take i).count 0 : Nat) + bif decide (u = 0) then 1 else 0 := by
  rw [take_snoc h, List.count_append]
  by_cases hu : u = 0
  · subst hu; simp
  · simp [hu]
abbrev hpC (r : Int) (C : List (Int × Int)) (U D : List Int) (f g h : Bool) (w lo hi le R : Int) (Cc : List (Int × Int)) (Uu Dd : List Int) : List SBlk :=
  [.box (lrC r C U D f g h), .box [.int .i64 0, .lst 0 [] true, .lst 0 [] true, .lst 0 [] true], .box [.int .i64 w, .int .i64 lo, .int .i64 hi, .int .i64 le], .box (lrC r C U D f g h),
    .box (lsC r 6 16 16 16), .box (lsC 0 6 16 16 16), .arr 0 2 (cS Cc) true, .arr 0 1 (iS Uu) true, .arr 0 1 (iS Dd) true, .box (lsC r 6 16 16 16), .box (lsC R 6 16 16 16)]
theorem s40 (n : Nat) (H : Heap) (r C U D f g h w lo hi le) : call1 T (n + 9) (.fn 40) [lr r C U D f g h, .int .i64 w, .int .i64 lo, .int .i64 hi, .int .i64 le] H = some (clV true r C U D w lo hi le, H) := by
  refine call_pure e40 (by rfl) ?_
  have h12 := fun H => s12 (n + 6) H r C U D f g h
  have h52 := fun H => s52 (n + 7) H w lo hi le
  cases hv : vB r C U D with
  | false => simp only [c40, heap0, go_sem, Int.cast_ofNat_Int, Int.reduceToNat, Bool.true_xor, Bool.false_xor, Bool.xor_true, Bool.xor_false, Nat.reduceAdd, Nat.reduceBEq, Nat.reduceLeDiff, Nat.reduceLT, Nat.reduceMul, Nat.reduceSub, Int.reduceEq, Int.reduceLT, Int.reduceLE, Int.reduceNeg, h12, hv, clV]
  | true =>
    cases hr : rightB w lo hi le with
    | false => simp only [c40, heap0, go_sem, Int.cast_ofNat_Int, Int.reduceToNat, Bool.true_xor, Bool.false_xor, Bool.xor_true, Bool.xor_false, Nat.reduceAdd, Nat.reduceBEq, Nat.reduceLeDiff, Nat.reduceLT, Nat.reduceMul, Nat.reduceSub, Int.reduceEq, Int.reduceLT, Int.reduceLE, Int.reduceNeg, h12, h52, hv, hr, clV]
    | true =>
      cases h1 : decide (r = 1073741824) with
      | true => simp only [c40, heap0, go_sem, Int.cast_ofNat_Int, Int.reduceToNat, Bool.true_xor, Bool.false_xor, Bool.xor_true, Bool.xor_false, Nat.reduceAdd, Nat.reduceBEq, Nat.reduceLeDiff, Nat.reduceLT, Nat.reduceMul, Nat.reduceSub, Int.reduceEq, Int.reduceLT, Int.reduceLE, Int.reduceNeg, h12, h52, hv, hr, h1, clV]
      | false =>
        obtain ⟨⟨r0, r1, hC, hU, hD⟩, _⟩ := vB_iff.1 hv
        have hrr := hr
        simp only [rightB, Bool.and_eq_true, decide_eq_true_eq] at hrr
        have h47 := fun x y z es => s47k (n + 6) x y z es r C U D f g h hC hU hD
        simp only [c40, heap0, go_sem, Int.cast_ofNat_Int, Int.reduceToNat, Bool.true_xor, Bool.false_xor, Bool.xor_true, Bool.xor_false, Nat.reduceAdd, Nat.reduceBEq, Nat.reduceLeDiff, Nat.reduceLT, Nat.reduceMul, Nat.reduceSub, Int.reduceEq, Int.reduceLT, Int.reduceLE, Int.reduceNeg, h12, h52, hv, hr, h1, h47, clV, hU]
        refine loop_rule (fun i => ([(4, .int .i64 le), (5, .ptr 0 0 0 0), (10, .ptr 1 0 0 0), (12, .ptr 2 0 0 0), (13, .ptr 10 0 0 0), (14, .int .i64 ((U.take i).count 0 : Nat)), (48, .lst 1 (iS U) g), (49, .int .i64 16), (50, .int .i64 i)],
          ⟨hpC r C U D f g h w lo hi le r C U D, [], 0⟩)) (fun _ => True) 16 (by simp only [go_sem, Int.cast_ofNat_Int, Int.reduceToNat, Bool.true_xor, Bool.false_xor, Bool.xor_true, Bool.xor_false, Nat.reduceAdd, Nat.reduceBEq, Nat.reduceLeDiff, Nat.reduceLT, Nat.reduceMul, Nat.reduceSub, Int.reduceEq, Int.reduceLT, Int.reduceLE, Int.reduceNeg]; rfl) trivial ?_
        intro i hi' _
        rcases Nat.lt_or_ge i 16 with hlt | hge
        · obtain ⟨u, hu⟩ := getS (l := U) (i := i) (by omega)
          have hlt' : decide ((i : Int) < 16) = true := decide_eq_true (by omega)
          have hlU : i < U.length := by omega
          have hw : w64 ((i : Int) + 1) = ((i + 1 : Nat) : Int) := w64_suc (n := 16) hlt ln16
          have hct := count_take hu
          have hcl : (U.take i).count 0 ≤ i := Nat.le_trans (List.count_le_length) (by simp; omega)
          have hw2 : w64 (((U.take i).count 0 : Nat) + 1 : Int) = ((U.take i).count 0 : Nat) + 1 := w64_id (by omega) (by omega)
          cases k1 : decide (u = 0) with
          | true =>
            rw [k1] at hct
            simp only [go_sem, Int.cast_ofNat_Int, Int.reduceToNat, Bool.true_xor, Bool.false_xor, Bool.xor_true, Bool.xor_false, Nat.reduceAdd, Nat.reduceBEq, Nat.reduceLeDiff, Nat.reduceLT, Nat.reduceMul, Nat.reduceSub, Int.reduceEq, Int.reduceLT, Int.reduceLE, Int.reduceNeg, hlt, hlt', hlU, hu, k1, hw, hw2, hct]
            exact ⟨by first | trivial | omega, by first | trivial | rfl, trivial⟩
          | false =>
            rw [k1] at hct
            simp only [go_sem, Int.cast_ofNat_Int, Int.reduceToNat, Bool.true_xor, Bool.false_xor, Bool.xor_true, Bool.xor_false, Nat.reduceAdd, Nat.reduceBEq, Nat.reduceLeDiff, Nat.reduceLT, Nat.reduceMul, Nat.reduceSub, Int.reduceEq, Int.reduceLT, Int.reduceLE, Int.reduceNeg, hlt, hlt', hlU, hu, k1, hw, hct]
            exact ⟨by first | trivial | omega, by first | trivial | rfl, trivial⟩
        obtain rfl : i = 16 := by omega
        have htk : U.take 16 = U := List.take_of_length_le (by omega)
        have h53 := fun H => s53 n H w lo hi le r C U D f g h hC hU
        have hfr : (U.count 0 : Nat) ≤ 16 := hU ▸ List.count_le_length
        have hS := srtB_len C U w lo
        have hK0 : decide (0 ≤ max 0 (min ((srtB C U w lo).length : Int) (w64 (((U.count 0 : Nat) : Int) - le)))) = true := decide_eq_true (by omega)
        have hK1 : decide (max 0 (min ((srtB C U w lo).length : Int) (w64 (((U.count 0 : Nat) : Int) - le))) ≤ ((srtB C U w lo).length : Int)) = true := decide_eq_true (by omega)
        have hKe : (max 0 (min ((srtB C U w lo).length : Int) (w64 (((U.count 0 : Nat) : Int) - le)))).toNat = kI (srtB C U w lo) U le := rfl
        have hKl : kI (srtB C U w lo) U le ≤ (srtB C U w lo).length := by unfold kI; omega
        have hTl : ((srtB C U w lo).take (kI (srtB C U w lo) U le)).length = kI (srtB C U w lo) U le := by simp; omega
        simp only [go_sem, Int.cast_ofNat_Int, Int.reduceToNat, Bool.true_xor, Bool.false_xor, Bool.xor_true, Bool.xor_false, Nat.reduceAdd, Nat.reduceBEq, Nat.reduceLeDiff, Nat.reduceLT, Nat.reduceMul, Nat.reduceSub, Int.reduceEq, Int.reduceLT, Int.reduceLE, Int.reduceNeg, show decide (((16 : Nat) : Int) < 16) = false from by decide, h53, htk, hK0, hK1, hKe, bS_take, hTl]
        have hSm : ∀ a ∈ srtB C U w lo, a < 16 := fun a ha => srtB_mem ha
        have hcu : clU r C U D w lo le = (pk r U D (srtB C U w lo) (kI (srtB C U w lo) U le)).1.map (fU (w64 (r + 1))) := rfl
        have hcd : clD r C U D w lo hi le = zD (prvI C U w lo hi) (pk r U D (srtB C U w lo) (kI (srtB C U w lo) U le)).2 := rfl
        rw [hcu, hcd]
        clear hcu hcd hK0 hK1 hKe h53 h47 h12 h52
        generalize kI (srtB C U w lo) U le = K at *
        generalize srtB C U w lo = S at *
        refine loop_rule (fun m => ([(10, .ptr 1 0 0 0), (13, .ptr 10 0 0 0), (18, .lst 1 (bS (upto (prvI C U w lo hi) 16)) false), (73, .lst 1 (bS (S.take K)) false), (74, .int .i64 K), (75, .int .i64 m)],
          ⟨hpC r C U D f g h w lo hi le r C (pk r U D S m).1 (pk r U D S m).2, [], 0⟩)) (fun _ => True) K (by simp only [go_sem, Int.cast_ofNat_Int, Int.reduceToNat, Bool.true_xor, Bool.false_xor, Bool.xor_true, Bool.xor_false, Nat.reduceAdd, Nat.reduceBEq, Nat.reduceLeDiff, Nat.reduceLT, Nat.reduceMul, Nat.reduceSub, Int.reduceEq, Int.reduceLT, Int.reduceLE, Int.reduceNeg]; rfl) trivial ?_
        clear hi' hge
        intro m hm _
        have l1 := pk_len1 r U D S m
        have l2 := pk_len2 r U D S m
        rcases Nat.lt_or_ge m K with hlt | hge
        · obtain ⟨i, hi⟩ := getS (l := S) (i := m) (by omega)
          have hi16 := hSm i (List.mem_of_getElem? hi)
          have hti : (S.take K)[m]? = some i := by rw [List.getElem?_take, if_pos hlt, hi]
          obtain ⟨u, hu⟩ := getS (l := (pk r U D S m).1) (i := i) (by omega)
          obtain ⟨d, hd⟩ := getS (l := (pk r U D S m).2) (i := i) (by omega)
          have hlt' : decide ((m : Int) < (K : Int)) = true := decide_eq_true (by omega)
          have hi' : decide ((i : Int) < 16) = true := decide_eq_true (by omega)
          have hi16' : decide (i < 16) = true := decide_eq_true (by omega)
          have hw : w64 ((m : Int) + 1) = ((m + 1 : Nat) : Int) := w64_suc (n := 16) (by omega) ln16
          have hD1 : ((pk r U D S m).2.set i (nh d))[i]? = some (nh d) := List.getElem?_set_self (by omega)
          have hU' : w64 (w64 (r + 1) + nh d) = w64 (w64 (r + 1) + nh (uA (pk r U D S m).2 i)) := by rw [uA_of hd]
          have hpk := pk_suc (r := r) (U := U) (D := D) hi
          rw [updU, updD, uA_of hd] at hpk
          have hnh : min (max (w64 (2 * d)) 1) 64 = nh d := rfl
          simp only [go_sem, Int.cast_ofNat_Int, Int.reduceToNat, Bool.true_xor, Bool.false_xor, Bool.xor_true, Bool.xor_false, Nat.reduceAdd, Nat.reduceBEq, Nat.reduceLeDiff, Nat.reduceLT, Nat.reduceMul, Nat.reduceSub, Int.reduceEq, Int.reduceLT, Int.reduceLE, Int.reduceNeg, hlt, hlt', hTl, hti, hi', hi16', hu, hd, hnh, iS_set, hD1, hw, hpk]
          exact ⟨by first | trivial | omega, by first | trivial | rfl, trivial⟩
        obtain rfl : m = K := by omega
        simp only [go_sem, Int.cast_ofNat_Int, Int.reduceToNat, Bool.true_xor, Bool.false_xor, Bool.xor_true, Bool.xor_false, Nat.reduceAdd, Nat.reduceBEq, Nat.reduceLeDiff, Nat.reduceLT, Nat.reduceMul, Nat.reduceSub, Int.reduceEq, Int.reduceLT, Int.reduceLE, Int.reduceNeg, show decide ((m : Int) < (m : Int)) = false from decide_eq_false (by omega)]
        generalize (pk r U D S m).1 = U1 at *
        generalize (pk r U D S m).2 = D1 at *
        rw [hU] at l1
        rw [hD] at l2
        have hze := zrs_end D1 (prvI C U w lo hi) l2
        have hPm : ∀ a ∈ upto (prvI C U w lo hi) 16, a < 16 := fun a ha => (upto_mem.1 ha).1
        have hPl := upto_len (prvI C U w lo hi) 16
        rw [← hze]
        clear hze
        generalize upto (prvI C U w lo hi) 16 = P at *
        clear hge hm
        refine loop_rule (fun q => ([(10, .ptr 1 0 0 0), (13, .ptr 10 0 0 0), (105, .lst 1 (bS P) false), (106, .int .i64 P.length), (107, .int .i64 q)],
          ⟨hpC r C U D f g h w lo hi le r C U1 (zrs D1 P q), [], 0⟩)) (fun _ => True) P.length (by simp only [go_sem, Int.cast_ofNat_Int, Int.reduceToNat, Bool.true_xor, Bool.false_xor, Bool.xor_true, Bool.xor_false, Nat.reduceAdd, Nat.reduceBEq, Nat.reduceLeDiff, Nat.reduceLT, Nat.reduceMul, Nat.reduceSub, Int.reduceEq, Int.reduceLT, Int.reduceLE, Int.reduceNeg]; rfl) trivial ?_
        intro q hq _
        have l3 := zrs_len D1 P q
        rcases Nat.lt_or_ge q P.length with hlt | hge
        · obtain ⟨i, hi⟩ := getS hlt
          have hi16 := hPm i (List.mem_of_getElem? hi)
          obtain ⟨d, hd⟩ := getS (l := zrs D1 P q) (i := i) (by omega)
          have hi' : decide ((i : Int) < 16) = true := decide_eq_true (by omega)
          have hi16' : decide (i < 16) = true := decide_eq_true (by omega)
          have hw : w64 ((q : Int) + 1) = ((q + 1 : Nat) : Int) := w64_suc (n := 16) (by omega) ln16
          simp only [go_sem, Int.cast_ofNat_Int, Int.reduceToNat, Bool.true_xor, Bool.false_xor, Bool.xor_true, Bool.xor_false, Nat.reduceAdd, Nat.reduceBEq, Nat.reduceLeDiff, Nat.reduceLT, Nat.reduceMul, Nat.reduceSub, Int.reduceEq, Int.reduceLT, Int.reduceLE, Int.reduceNeg, hlt, hi, hi', hi16', hd, iS_set, hw, zrs_suc hi]
          exact ⟨by first | trivial | omega, by first | trivial | rfl, trivial⟩
        obtain rfl : q = P.length := by omega
        simp only [go_sem, Int.cast_ofNat_Int, Int.reduceToNat, Bool.true_xor, Bool.false_xor, Bool.xor_true, Bool.xor_false, Nat.reduceAdd, Nat.reduceBEq, Nat.reduceLeDiff, Nat.reduceLT, Nat.reduceMul, Nat.reduceSub, Int.reduceEq, Int.reduceLT, Int.reduceLE, Int.reduceNeg, show decide ((P.length : Int) < (P.length : Int)) = false from decide_eq_false (by omega)]
        generalize zrs D1 P P.length = D2 at *
        clear hge hq
        refine loop_rule (fun i => ([(10, .ptr 1 0 0 0), (13, .ptr 10 0 0 0), (121, .slc 7 0 0 16), (122, .int .i64 16), (123, .int .i64 i)],
          ⟨hpC r C U D f g h w lo hi le (w64 (r + 1)) (C0.take i ++ C.drop i) ((U1.map (fU (w64 (r + 1)))).take i ++ U1.drop i) D2, [], 0⟩)) (fun _ => True) 16 (by simp only [go_sem, Int.cast_ofNat_Int, Int.reduceToNat, Bool.true_xor, Bool.false_xor, Bool.xor_true, Bool.xor_false, Nat.reduceAdd, Nat.reduceBEq, Nat.reduceLeDiff, Nat.reduceLT, Nat.reduceMul, Nat.reduceSub, Int.reduceEq, Int.reduceLT, Int.reduceLE, Int.reduceNeg]; rfl) trivial ?_
        intro i hi' _
        have hlm : (U1.map (fU (w64 (r + 1)))).length = U1.length := by simp
        have hC0 : C0.length = C.length := by rw [C0_len, hC]
        rcases Nat.lt_or_ge i 16 with hlt | hge
        · obtain ⟨u, hu⟩ := getS (l := U1) (i := i) (by omega)
          obtain ⟨c, hc⟩ := getS (l := C) (i := i) (by omega)
          have hlt' : decide ((i : Int) < 16) = true := decide_eq_true (by omega)
          have hlt2 : decide (i < 16) = true := decide_eq_true hlt
          have hw : w64 ((i : Int) + 1) = ((i + 1 : Nat) : Int) := w64_suc (n := 16) hlt ln16
          have gu : ((U1.map (fU (w64 (r + 1)))).take i ++ U1.drop i)[i]? = some u := by rw [mid_get (by omega), hu]
          have gc : (C0.take i ++ C.drop i)[i]? = some c := by rw [mid_get (by omega), hc]
          have su : ((U1.map (fU (w64 (r + 1)))).take i ++ U1.drop i).set i (fU (w64 (r + 1)) u) = (U1.map (fU (w64 (r + 1)))).take (i + 1) ++ U1.drop (i + 1) := mid_set (by simp [hu]) hlm
          have sc : (C0.take i ++ C.drop i).set i (0, 0) = C0.take (i + 1) ++ C.drop (i + 1) := mid_set (by rw [C0, List.getElem?_replicate, if_pos hlt]) hC0
          cases k1 : decide (u ≤ w64 (r + 1)) with
          | true =>
            have hf : fU (w64 (r + 1)) u = 0 := by simp only [fU, k1, cond_true]
            rw [hf] at su
            simp only [go_sem, Int.cast_ofNat_Int, Int.reduceToNat, Bool.true_xor, Bool.false_xor, Bool.xor_true, Bool.xor_false, Nat.reduceAdd, Nat.reduceBEq, Nat.reduceLeDiff, Nat.reduceLT, Nat.reduceMul, Nat.reduceSub, Int.reduceEq, Int.reduceLT, Int.reduceLE, Int.reduceNeg, hlt, hlt', hlt2, gu, gc, k1, iS_set, cS_set2, su, sc, hw]
            exact ⟨by first | trivial | omega, by first | trivial | rfl, trivial⟩
          | false =>
            have hf : fU (w64 (r + 1)) u = u := by simp only [fU, k1, cond_false]
            rw [hf] at su
            have hid : ((U1.map (fU (w64 (r + 1)))).take i ++ U1.drop i).set i u = (U1.map (fU (w64 (r + 1)))).take i ++ U1.drop i := by
              apply List.ext_getElem?
              intro j
              rw [List.getElem?_set]
              by_cases hj : i = j
              · subst hj; rw [if_pos rfl, gu, if_pos (by rw [mid_len hlm]; omega)]
              · rw [if_neg hj]
            rw [hid] at su
            simp only [go_sem, Int.cast_ofNat_Int, Int.reduceToNat, Bool.true_xor, Bool.false_xor, Bool.xor_true, Bool.xor_false, Nat.reduceAdd, Nat.reduceBEq, Nat.reduceLeDiff, Nat.reduceLT, Nat.reduceMul, Nat.reduceSub, Int.reduceEq, Int.reduceLT, Int.reduceLE, Int.reduceNeg, hlt, hlt', hlt2, gu, gc, k1, iS_set, cS_set2, ← su, sc, hw]
            exact ⟨by first | trivial | omega, by first | trivial | rfl, trivial⟩
        · obtain rfl : i = 16 := by omega
          have e1 : (U1.map (fU (w64 (r + 1)))).take 16 ++ U1.drop 16 = U1.map (fU (w64 (r + 1))) := mid_end (by omega) hlm
          have e2 : C0.take 16 ++ C.drop 16 = C0 := mid_end (by omega) hC0
          have e3 : (U1.map (fU (w64 (r + 1)))).length = 16 := by omega
          have e4 : D2.length = 16 := by omega
          simp only [go_sem, Int.cast_ofNat_Int, Int.reduceToNat, Bool.true_xor, Bool.false_xor, Bool.xor_true, Bool.xor_false, Nat.reduceAdd, Nat.reduceBEq, Nat.reduceLeDiff, Nat.reduceLT, Nat.reduceMul, Nat.reduceSub, Int.reduceEq, Int.reduceLT, Int.reduceLE, Int.reduceNeg, show decide (((16 : Nat) : Int) < 16) = false from by decide, e1, e2, fz_cS16 _ _ _ _ _ _ C0_len, fz_iS16 _ _ _ _ _ _ e3, fz_iS16 _ _ _ _ _ _ e4]
end Go.Sh
namespace Go.Sh
set_option linter.unusedSectionVars false
set_option linter.unnecessarySimpa false
set_option linter.unusedVariables false
set_option linter.unusedSimpArgs false
set_option maxRecDepth 100000
set_option maxHeartbeats 4000000
/-- A call that reads, and hands back no reference; what it makes is let go. -/
theorem call_rox {T : FuncId → Option Fun1} {f : FuncId} {F : Fun1} {xs : List SV} {n : Nat} {H : Heap} {v : SV} (hT : T f = some F) (hk : F.keep = false) (hs : scal1 v = true)
    (h : ∀ (R : Type) (k : SV → Heap → Option R) (bl : List SBlk) (ro : Nat), (bl = [] ∧ SV.refs.refsL xs = 0 ∨ bl = H.bl) → ∃ ext, runK (call1 T n) (fin1 F.res k) F.body [] (env0 xs) ⟨bl, [], ro⟩ () = k v ⟨bl ++ ext, [], ro⟩) :
    call1 T (n + 1) (.fn f) xs H = some (v, H) := by
  have hfz : ∀ N H', frz N H' depth1 v = some v := fun N H' => by
    cases v <;> simp only [scal1, Bool.false_eq_true] at hs <;> simp [depth1, frz, SV.refs]
  cases hp : pure0 F xs with
  | true =>
    refine call_pure hT hp ?_
    have hr : SV.refs.refsL xs = 0 := by
      unfold pure0 at hp
      simp only [Bool.and_eq_true, beq_iff_eq] at hp
      exact hp.1
    obtain ⟨ext, he⟩ := h SV (fun v H' => frz 0 H' depth1 v) [] 0 (.inl ⟨rfl, hr⟩)
    exact he.trans (hfz _ _)
  | false =>
    refine call_in hT hp ?_
    obtain ⟨ext, he⟩ := h _ (fun v H' => leave1 F.keep H v H') H.bl (min H.ro H.bl.length) (.inr rfl)
    refine he.trans ?_
    rw [hk, leave_not, hfz]
    obtain ⟨bl, es, ro⟩ := H
    simp [Sh.trunc]
theorem s49 (n : Nat) (x0 x1 x2 x3 x4 x6 x7 : SBlk) (es : List (Nat × Nat)) (ro : Nat) (r : Int) (U : List Int) (hU : U.length = 16) :
    call1 T (n + 1) (.fn 49) [ls r 4 16 16 16] ⟨[x0, x1, x2, x3, x4, .arr 0 1 (iS U) false, x6, x7], es, ro⟩ = some (.int .i64 (fr U), ⟨[x0, x1, x2, x3, x4, .arr 0 1 (iS U) false, x6, x7], es, ro⟩) := by
  refine call_rox e49 rfl rfl (fun RR k bl ro' hbl => ?_)
  have hbl : bl = [x0, x1, x2, x3, x4, .arr 0 1 (iS U) false, x6, x7] := by
    rcases hbl with ⟨_, h2⟩ | h
    · simp [SV.refs.refsL, SV.refs] at h2
    · exact h
  subst hbl
  refine ⟨[.box (lsC r 4 16 16 16)], ?_⟩
  simp only [c49, go_sem, Int.cast_ofNat_Int, Int.reduceToNat, Bool.true_xor, Bool.false_xor, Bool.xor_true, Bool.xor_false, Nat.reduceAdd, Nat.reduceBEq, Nat.reduceLeDiff, Nat.reduceLT, Nat.reduceMul, Nat.reduceSub, Int.reduceEq, Int.reduceLT, Int.reduceLE, Int.reduceNeg]
  refine loop_rule (fun i => ([(1, .ptr 8 0 0 0), (3, .int .i64 ((U.take i).count 0 : Nat)), (4, .int .i64 i)], ⟨[x0, x1, x2, x3, x4, .arr 0 1 (iS U) false, x6, x7, .box (lsC r 4 16 16 16)], [], ro'⟩)) (fun _ => True) 16 (by simp only [go_sem, Int.cast_ofNat_Int, Int.reduceToNat, Bool.true_xor, Bool.false_xor, Bool.xor_true, Bool.xor_false, Nat.reduceAdd, Nat.reduceBEq, Nat.reduceLeDiff, Nat.reduceLT, Nat.reduceMul, Nat.reduceSub, Int.reduceEq, Int.reduceLT, Int.reduceLE, Int.reduceNeg]; rfl) trivial ?_
  intro i hi' _
  rcases Nat.lt_or_ge i 16 with hlt | hge
  · obtain ⟨u, hu⟩ := getS (l := U) (i := i) (by omega)
    have hlt' : decide ((i : Int) < 16) = true := decide_eq_true (by omega)
    have hlt2 : decide (i < 16) = true := decide_eq_true (by omega)
    have hw : w64 ((i : Int) + 1) = ((i + 1 : Nat) : Int) := w64_suc (n := 16) hlt ln16
    have hct := count_take hu
    have hcl : (U.take i).count 0 ≤ i := Nat.le_trans (List.count_le_length) (by simp; omega)
    have hw2 : w64 (((U.take i).count 0 : Nat) + 1 : Int) = ((U.take i).count 0 : Nat) + 1 := w64_id (by omega) (by omega)
    cases k1 : decide (u = 0) with
    | true =>
      rw [k1] at hct
      simp only [go_sem, Int.cast_ofNat_Int, Int.reduceToNat, Bool.true_xor, Bool.false_xor, Bool.xor_true, Bool.xor_false, Nat.reduceAdd, Nat.reduceBEq, Nat.reduceLeDiff, Nat.reduceLT, Nat.reduceMul, Nat.reduceSub, Int.reduceEq, Int.reduceLT, Int.reduceLE, Int.reduceNeg, hlt, hlt', hlt2, hu, k1, hw, hw2, hct]
      exact ⟨by first | trivial | omega, by first | trivial | rfl, trivial⟩
    | false =>
      rw [k1] at hct
      simp only [go_sem, Int.cast_ofNat_Int, Int.reduceToNat, Bool.true_xor, Bool.false_xor, Bool.xor_true, Bool.xor_false, Nat.reduceAdd, Nat.reduceBEq, Nat.reduceLeDiff, Nat.reduceLT, Nat.reduceMul, Nat.reduceSub, Int.reduceEq, Int.reduceLT, Int.reduceLE, Int.reduceNeg, hlt, hlt', hlt2, hu, k1, hw, hct]
      exact ⟨by first | trivial | omega, by first | trivial | rfl, trivial⟩
  · obtain rfl : i = 16 := by omega
    have htk : U.take 16 = U := List.take_of_length_le (by omega)
    simp only [go_sem, Int.cast_ofNat_Int, Int.reduceToNat, Bool.true_xor, Bool.false_xor, Bool.xor_true, Bool.xor_false, Nat.reduceAdd, Nat.reduceBEq, Nat.reduceLeDiff, Nat.reduceLT, Nat.reduceMul, Nat.reduceSub, Int.reduceEq, Int.reduceLT, Int.reduceLE, Int.reduceNeg, show decide (((16 : Nat) : Int) < 16) = false from by decide, htk]
    rfl
def wstI (C : List (Int × Int)) (U : List Int) (w lo : Int) : Nat → Int
  | 0 => -1
  | i + 1 => bif badI C U w lo i && (decide (wstI C U w lo i < 0) || lt1 C i (wstI C U w lo i).toNat) then (i : Int) else wstI C U w lo i
theorem wst_lt (C U w lo) : ∀ i, wstI C U w lo i < i ∧ (-1 : Int) ≤ wstI C U w lo i
  | 0 => by simp [wstI]
  | i + 1 => by
    have ih := wst_lt C U w lo i
    simp only [wstI]
    cases badI C U w lo i && (decide (wstI C U w lo i < 0) || lt1 C i (wstI C U w lo i).toNat)
    · simp only [cond_false]; omega
    · simp only [cond_true]; omega
theorem s50 (n : Nat) (x0 x1 x2 x3 x6 x7 : SBlk) (es : List (Nat × Nat)) (ro : Nat) (r w lo : Int) (C : List (Int × Int)) (U : List Int) (hC : C.length = 16) (hU : U.length = 16) :
    call1 T (n + 2) (.fn 50) [ls r 4 16 16 16, .int .i64 w, .int .i64 lo] ⟨[x0, x1, x2, x3, .arr 0 2 (cS C) false, .arr 0 1 (iS U) false, x6, x7], es, ro⟩ =
      some (.int .i64 (wstI C U w lo 16), ⟨[x0, x1, x2, x3, .arr 0 2 (cS C) false, .arr 0 1 (iS U) false, x6, x7], es, ro⟩) := by
  refine call_rox e50 rfl rfl (fun RR k bl ro' hbl => ?_)
  have hbl : bl = [x0, x1, x2, x3, .arr 0 2 (cS C) false, .arr 0 1 (iS U) false, x6, x7] := by
    rcases hbl with ⟨_, h2⟩ | h
    · simp [SV.refs.refsL, SV.refs] at h2
    · exact h
  subst hbl
  refine ⟨[.box (lsC r 4 16 16 16)], ?_⟩
  simp only [c50, go_sem, Int.cast_ofNat_Int, Int.reduceToNat, Bool.true_xor, Bool.false_xor, Bool.xor_true, Bool.xor_false, Nat.reduceAdd, Nat.reduceBEq, Nat.reduceLeDiff, Nat.reduceLT, Nat.reduceMul, Nat.reduceSub, Int.reduceEq, Int.reduceLT, Int.reduceLE, Int.reduceNeg]
  refine loop_rule (fun i => ([(1, .int .i64 w), (2, .int .i64 lo), (3, .ptr 8 0 0 0), (7, .int .i64 (wstI C U w lo i)), (8, .int .i64 i)], ⟨[x0, x1, x2, x3, .arr 0 2 (cS C) false, .arr 0 1 (iS U) false, x6, x7, .box (lsC r 4 16 16 16)], [], ro'⟩)) (fun _ => True) 16 (by simp only [go_sem, Int.cast_ofNat_Int, Int.reduceToNat, Bool.true_xor, Bool.false_xor, Bool.xor_true, Bool.xor_false, Nat.reduceAdd, Nat.reduceBEq, Nat.reduceLeDiff, Nat.reduceLT, Nat.reduceMul, Nat.reduceSub, Int.reduceEq, Int.reduceLT, Int.reduceLE, Int.reduceNeg]; rfl) trivial ?_
  intro i hi' _
  rcases Nat.lt_or_ge i 16 with hlt | hge
  · obtain ⟨u, hu⟩ := getS (l := U) (i := i) (by omega)
    obtain ⟨c, hc⟩ := getS (l := C) (i := i) (by omega)
    have hlt' : decide ((i : Int) < 16) = true := decide_eq_true (by omega)
    have hlt2 : decide (i < 16) = true := decide_eq_true (by omega)
    have hw : w64 ((i : Int) + 1) = ((i + 1 : Nat) : Int) := w64_suc (n := 16) hlt ln16
    have hb : badI C U w lo i = (decide (u = 0) && !decide (c.1 < w) && decide (rtV c.1 c.2 < lo)) := by simp only [badI, uA_of hu, cA_of hc]
    have h44 := fun H => s44 n H c.1 c.2
    have hge : decide (lo ≤ rtV c.1 c.2) = !decide (rtV c.1 c.2 < lo) := by rw [Bool.eq_iff_iff]; simp
    have skip : badI C U w lo i = false → wstI C U w lo (i + 1) = wstI C U w lo i := fun h => by simp only [wstI, h, Bool.false_and, cond_false]
    cases k1 : decide (u = 0) with
    | false =>
      have e1 := skip (by rw [hb, k1]; rfl)
      simp only [go_sem, Int.cast_ofNat_Int, Int.reduceToNat, Bool.true_xor, Bool.false_xor, Bool.xor_true, Bool.xor_false, Nat.reduceAdd, Nat.reduceBEq, Nat.reduceLeDiff, Nat.reduceLT, Nat.reduceMul, Nat.reduceSub, Int.reduceEq, Int.reduceLT, Int.reduceLE, Int.reduceNeg, hlt, hlt', hlt2, hu, k1, hw, e1]
      exact ⟨by first | trivial | omega, by first | trivial | rfl, trivial⟩
    | true =>
      cases k2 : decide (c.1 < w) with
      | true =>
        have e1 := skip (by rw [hb, k1, k2]; rfl)
        simp only [go_sem, Int.cast_ofNat_Int, Int.reduceToNat, Bool.true_xor, Bool.false_xor, Bool.xor_true, Bool.xor_false, Nat.reduceAdd, Nat.reduceBEq, Nat.reduceLeDiff, Nat.reduceLT, Nat.reduceMul, Nat.reduceSub, Int.reduceEq, Int.reduceLT, Int.reduceLE, Int.reduceNeg, hlt, hlt', hlt2, hu, hc, k1, k2, hw, e1]
        exact ⟨by first | trivial | omega, by first | trivial | rfl, trivial⟩
      | false =>
        cases k3 : decide (rtV c.1 c.2 < lo) with
        | false =>
          have e1 := skip (by rw [hb, k1, k2, k3]; rfl)
          simp only [go_sem, Int.cast_ofNat_Int, Int.reduceToNat, Bool.true_xor, Bool.false_xor, Bool.xor_true, Bool.xor_false, Nat.reduceAdd, Nat.reduceBEq, Nat.reduceLeDiff, Nat.reduceLT, Nat.reduceMul, Nat.reduceSub, Int.reduceEq, Int.reduceLT, Int.reduceLE, Int.reduceNeg, hlt, hlt', hlt2, hu, hc, k1, k2, k3, h44, hge, hw, e1]
          exact ⟨by first | trivial | omega, by first | trivial | rfl, trivial⟩
        | true =>
          have hbt : badI C U w lo i = true := by rw [hb, k1, k2, k3]; rfl
          have hwl := wst_lt C U w lo i
          cases k4 : decide (wstI C U w lo i < 0) with
          | true =>
            have e1 : wstI C U w lo (i + 1) = i := by simp only [wstI, hbt, k4, Bool.true_or, Bool.and_self, cond_true]
            simp only [go_sem, Int.cast_ofNat_Int, Int.reduceToNat, Bool.true_xor, Bool.false_xor, Bool.xor_true, Bool.xor_false, Nat.reduceAdd, Nat.reduceBEq, Nat.reduceLeDiff, Nat.reduceLT, Nat.reduceMul, Nat.reduceSub, Int.reduceEq, Int.reduceLT, Int.reduceLE, Int.reduceNeg, hlt, hlt', hlt2, hu, hc, k1, k2, k3, k4, h44, hge, hw, e1]
            exact ⟨by first | trivial | omega, by first | trivial | rfl, trivial⟩
          | false =>
            have k4' := of_decide_eq_false k4
            obtain ⟨b, hbw⟩ : ∃ b : Nat, wstI C U w lo i = b := ⟨(wstI C U w lo i).toNat, by omega⟩
            have hb16 : decide ((b : Int) < 16) = true := decide_eq_true (by omega)
            have hb16' : decide (b < 16) = true := decide_eq_true (by omega)
            have hbn : decide ((b : Int) < 0) = false := decide_eq_false (by omega)
            obtain ⟨d, hd⟩ := getS (l := C) (i := b) (by omega)
            have h46 := fun H => s46 (n) H c.1 c.2 d.1 d.2
            have hl : lt1 C i b = lsR c.1 c.2 d.1 d.2 := by simp only [lt1, cA_of hc, cA_of hd]
            have e1 : wstI C U w lo (i + 1) = bif lsR c.1 c.2 d.1 d.2 then (i : Int) else b := by simp only [wstI, hbt, hbw, hbn, Int.toNat_natCast, hl, Bool.true_and, Bool.false_or]
            cases k5 : lsR c.1 c.2 d.1 d.2 with
            | true =>
              rw [k5] at e1 h46
              simp only [go_sem, Int.cast_ofNat_Int, Int.reduceToNat, Bool.true_xor, Bool.false_xor, Bool.xor_true, Bool.xor_false, Nat.reduceAdd, Nat.reduceBEq, Nat.reduceLeDiff, Nat.reduceLT, Nat.reduceMul, Nat.reduceSub, Int.reduceEq, Int.reduceLT, Int.reduceLE, Int.reduceNeg, hlt, hlt', hlt2, hu, hc, k1, k2, k3, hbw, hbn, hb16, hb16', hd, h44, h46, hge, hw, e1]
              exact ⟨by first | trivial | omega, by first | trivial | rfl, trivial⟩
            | false =>
              rw [k5] at e1 h46
              simp only [go_sem, Int.cast_ofNat_Int, Int.reduceToNat, Bool.true_xor, Bool.false_xor, Bool.xor_true, Bool.xor_false, Nat.reduceAdd, Nat.reduceBEq, Nat.reduceLeDiff, Nat.reduceLT, Nat.reduceMul, Nat.reduceSub, Int.reduceEq, Int.reduceLT, Int.reduceLE, Int.reduceNeg, hlt, hlt', hlt2, hu, hc, k1, k2, k3, hbw, hbn, hb16, hb16', hd, h44, h46, hge, hw, e1]
              exact ⟨by first | trivial | omega, by first | trivial | rfl, trivial⟩
  · obtain rfl : i = 16 := by omega
    simp only [go_sem, Int.cast_ofNat_Int, Int.reduceToNat, Bool.true_xor, Bool.false_xor, Bool.xor_true, Bool.xor_false, Nat.reduceAdd, Nat.reduceBEq, Nat.reduceLeDiff, Nat.reduceLT, Nat.reduceMul, Nat.reduceSub, Int.reduceEq, Int.reduceLT, Int.reduceLE, Int.reduceNeg, show decide (((16 : Nat) : Int) < 16) = false from by decide]
end Go.Sh
namespace Go.Sh
set_option linter.unusedSectionVars false
set_option linter.unnecessarySimpa false
set_option linter.unusedVariables false
set_option linter.unusedSimpArgs false
set_option maxRecDepth 100000
set_option maxHeartbeats 4000000
theorem wst_spec {C : List (Int × Int)} (h : AllC C) (U : List Int) (w lo : Int) : ∀ i, (wstI C U w lo i = -1 ∧ ∀ j, j < i → badI C U w lo j = false) ∨ (∃ b : Nat, b < i ∧ wstI C U w lo i = b ∧ badI C U w lo b = true ∧ ∀ j, j < i → badI C U w lo j = true → j = b ∨ tl C b j)
  | 0 => .inl ⟨rfl, fun j hj => by omega⟩
  | i + 1 => by
    have ih := wst_spec h U w lo i
    cases hb : badI C U w lo i with
    | false =>
      have e : wstI C U w lo (i + 1) = wstI C U w lo i := by simp only [wstI, hb, Bool.false_and, cond_false]
      rw [e]
      rcases ih with ⟨h1, h2⟩ | ⟨b, h1, h2, h3, h4⟩
      · refine .inl ⟨h1, fun j hj => ?_⟩
        rcases Nat.lt_or_ge j i with h5 | h5
        · exact h2 j h5
        · obtain rfl : j = i := by omega
          exact hb
      · refine .inr ⟨b, by omega, h2, h3, fun j hj hbj => ?_⟩
        rcases Nat.lt_or_ge j i with h5 | h5
        · exact h4 j h5 hbj
        · obtain rfl : j = i := by omega
          rw [hb] at hbj; cases hbj
    | true =>
      rcases ih with ⟨h1, h2⟩ | ⟨b, h1, h2, h3, h4⟩
      · have e : wstI C U w lo (i + 1) = i := by simp only [wstI, hb, h1]; rfl
        refine .inr ⟨i, by omega, e, hb, fun j hj hbj => ?_⟩
        rcases Nat.lt_or_ge j i with h5 | h5
        · rw [h2 j h5] at hbj; cases hbj
        · exact .inl (by omega)
      · have hn : decide ((b : Int) < 0) = false := decide_eq_false (by omega)
        cases hl : lt1 C i b with
        | true =>
          have e : wstI C U w lo (i + 1) = i := by simp only [wstI, hb, h2, hn, Int.toNat_natCast, hl]; rfl
          refine .inr ⟨i, by omega, e, hb, fun j hj hbj => ?_⟩
          rcases Nat.lt_or_ge j i with h5 | h5
          · refine .inr (.inl ?_)
            rcases h4 j h5 hbj with rfl | h6
            · exact hl
            · have h7 := tl_le h h6
              cases hq : lt1 C i j with
              | true => rfl
              | false => have := lt1_weak h h7 hq; rw [hl] at this; cases this
          · exact .inl (by omega)
        | false =>
          have e : wstI C U w lo (i + 1) = b := by simp only [wstI, hb, h2, hn, Int.toNat_natCast, hl]; rfl
          refine .inr ⟨b, by omega, e, h3, fun j hj hbj => ?_⟩
          rcases Nat.lt_or_ge j i with h5 | h5
          · exact h4 j h5 hbj
          · obtain rfl : j = i := by omega
            exact .inr (.inr ⟨hl, h1⟩)
theorem nh_bd (d : Int) : 1 ≤ nh d ∧ nh d ≤ 64 := by unfold nh; omega
theorem until_pos {r : Int} (h0 : 0 ≤ r) (h1 : r ≤ 1073741824) (d : Int) : w64 (w64 (r + 1) + nh d) = r + 1 + nh d ∧ r + 1 < w64 (w64 (r + 1) + nh d) := by
  have := nh_bd d
  rw [w64_id (n := r + 1) (by omega) (by omega), w64_id (by omega) (by omega)]
  omega
theorem uA_set {U : List Int} {i j : Nat} {x : Int} (hi : i < U.length) : uA (U.set i x) j = if i = j then x else uA U j := by
  simp only [uA, List.getD_eq_getElem?_getD, List.getElem?_set]
  split
  · rename_i h; first | rfl | (rw [if_pos (by omega)]; rfl)
  · rfl
section
variable {r : Int} {C : List (Int × Int)} {U D : List Int} {S : List Nat} (h0 : 0 ≤ r) (h1 : r ≤ 1073741824) (hU : U.length = 16) (hS : ∀ a ∈ S, a < 16)
include h0 h1 hU hS
/-- Those that were picked have another Until, and no other has. -/
theorem pk_at : ∀ m j, (j ∉ S.take m → uA (pk r U D S m).1 j = uA U j) ∧ (j ∈ S.take m → ∃ d, uA (pk r U D S m).1 j = w64 (w64 (r + 1) + nh d))
  | 0, j => by simp [pk]
  | m + 1, j => by
    have ih := pk_at m j
    have hl := pk_len1 r U D S m
    simp only [pk]
    cases h : S[m]? with
    | none => rw [List.take_add_one, h]; simpa using ih
    | some i =>
      have hi := hS i (List.mem_of_getElem? h)
      rw [take_snoc h]
      simp only [updU, List.mem_append, List.mem_singleton]
      rw [uA_set (by omega)]
      by_cases hij : i = j
      · subst hij
        simp only [if_true, or_true, not_true, false_implies, true_and, true_implies]
        exact ⟨_, rfl⟩
      · simp only [if_neg hij]
        have hji : ¬ j = i := fun h => hij h.symm
        simp only [hji, or_false]
        exact ih
theorem pk_zero (m j : Nat) : uA (pk r U D S m).1 j = 0 ↔ uA U j = 0 ∧ j ∉ S.take m := by
  have h := pk_at h0 h1 hU hS (D := D) m j
  by_cases hm : j ∈ S.take m
  · obtain ⟨d, hd⟩ := h.2 hm
    have := until_pos h0 h1 d
    constructor
    · intro hz; rw [hd] at hz; omega
    · intro hz; exact absurd hm hz.2
  · rw [h.1 hm]
    exact ⟨fun hz => ⟨hz, hm⟩, fun hz => hz.1⟩
theorem pk_fr (hz : ∀ a ∈ S, uA U a = 0) (hn : S.Nodup) : ∀ m, m ≤ S.length → fr (pk r U D S m).1 = fr U - m
  | 0, _ => by simp [pk]
  | m + 1, hm => by
    have ih := pk_fr hz hn m (by omega)
    obtain ⟨i, hi⟩ := getS (l := S) (i := m) (by omega)
    have hl := pk_len1 r U D S m
    have hi16 := hS i (List.mem_of_getElem? hi)
    have hnm : i ∉ S.take m := by
      intro hmem
      obtain ⟨q, hq⟩ := List.getElem?_of_mem hmem
      have hqm : q < m := by have := (List.getElem?_eq_some_iff.1 hq).1; simp at this; omega
      rw [List.getElem?_take, if_pos hqm] at hq
      have := (List.getElem?_inj (List.getElem?_eq_some_iff.1 hq).1 hn).1 (hq.trans hi.symm)
      omega
    have hzi := (pk_zero h0 h1 hU hS (D := D) m i).2 ⟨hz i (List.mem_of_getElem? hi), hnm⟩
    have hpos := until_pos h0 h1 (uA (pk r U D S m).2 i)
    rw [pk_suc hi]
    simp only [updU]
    generalize (pk r U D S m).1 = V at *
    have hiV : i < V.length := by omega
    have hv : V[i] = 0 := by
      have : V[i]? = some V[i] := List.getElem?_eq_getElem hiV
      rw [uA_of this] at hzi; exact hzi
    unfold fr at ih ⊢
    rw [List.count_set hiV, hv]
    have h1c : 1 ≤ V.count 0 := List.one_le_count_iff.2 (by rw [← hv]; exact List.getElem_mem hiV)
    have hne : (w64 (w64 (r + 1) + nh (uA (pk r U D S m).2 i)) == 0) = false := by simp; omega
    rw [hne]
    simp
    omega
end
theorem bad_pk {r C U D S w lo} (h0 : 0 ≤ r) (h1 : r ≤ 1073741824) (hU : U.length = 16) (hS : ∀ a ∈ S, a < 16) (m j : Nat) : badI C (pk r U D S m).1 w lo j = true ↔ badI C U w lo j = true ∧ j ∉ S.take m := by
  have := pk_zero h0 h1 hU hS (D := D) m j
  simp only [badI, Bool.and_eq_true, decide_eq_true_eq, this]
  constructor
  · rintro ⟨⟨⟨a, b⟩, c⟩, d⟩; exact ⟨⟨⟨a, c⟩, d⟩, b⟩
  · rintro ⟨⟨⟨a, c⟩, d⟩, b⟩; exact ⟨⟨⟨a, b⟩, c⟩, d⟩
theorem srtB_iff {C U w lo a} : a ∈ srtB C U w lo ↔ a < 16 ∧ badI C U w lo a = true := by
  have := (srt_perm C (upto (badI C U w lo) 16) (upto (badI C U w lo) 16).length).mem_iff (a := a)
  rw [List.take_length] at this
  rw [← upto_mem]
  exact this
theorem srtB_nodup (C U w lo) : (srtB C U w lo).Nodup := by
  have := srt_perm C (upto (badI C U w lo) 16) (upto (badI C U w lo) 16).length
  rw [List.take_length] at this
  refine this.nodup_iff.2 ?_
  exact (upto_sorted _ _).imp (fun h => by omega)
theorem srtB_sorted {C} (h : AllC C) (U w lo) : (srtB C U w lo).Pairwise (tl C) := srt_sorted h (upto_sorted _ _) _
theorem AllC_of {r C U D} (h : vB r C U D = true) : AllC C := fun c hc => by
  obtain ⟨j, hj⟩ := List.getElem?_of_mem hc
  exact vB_cB h hj
/-- What the reference picks. -/
theorem wst_pk {r C U D w lo} (hv : vB r C U D = true) (m : Nat) : wstI C (pk r U D (srtB C U w lo) m).1 w lo 16 = match (srtB C U w lo)[m]? with | some i => (i : Int) | none => -1 := by
  obtain ⟨⟨h0, h1, hC, hU, hD⟩, _⟩ := vB_iff.1 hv
  have hA := AllC_of hv
  have hbp := fun j => bad_pk (C := C) (D := D) (w := w) (lo := lo) h0 h1 hU (S := srtB C U w lo) (fun a ha => srtB_mem ha) m j
  have hs := wst_spec hA (pk r U D (srtB C U w lo) m).1 w lo 16
  cases h : (srtB C U w lo)[m]? with
  | none =>
    rcases hs with ⟨e, _⟩ | ⟨b, b1, e, b2, _⟩
    · exact e
    · obtain ⟨c1, c2⟩ := (hbp b).1 b2
      rw [List.take_of_length_le (by rw [List.getElem?_eq_none_iff] at h; omega)] at c2
      exact absurd (srtB_iff.2 ⟨b1, c1⟩) c2
  | some s =>
    have hsm := List.mem_of_getElem? h
    have hs16 := srtB_iff.1 hsm
    have hml := (List.getElem?_eq_some_iff.1 h).1
    have hn := srtB_nodup C U w lo
    have hsn : s ∉ (srtB C U w lo).take m := by
      intro hmem
      obtain ⟨q, hq⟩ := List.getElem?_of_mem hmem
      have hqm : q < m := by have := (List.getElem?_eq_some_iff.1 hq).1; simp at this; omega
      rw [List.getElem?_take, if_pos hqm] at hq
      have := (List.getElem?_inj (List.getElem?_eq_some_iff.1 hq).1 hn).1 (hq.trans h.symm)
      omega
    have hsb := (hbp s).2 ⟨hs16.2, hsn⟩
    rcases hs with ⟨_, e⟩ | ⟨b, b1, e, b2, b3⟩
    · rw [e s hs16.1] at hsb; cases hsb
    · rw [e]
      have : s = b := by
        rcases b3 s hs16.1 hsb with h5 | h5
        · exact h5
        · obtain ⟨c1, c2⟩ := (hbp b).1 b2
          obtain ⟨q, hq⟩ := List.getElem?_of_mem (srtB_iff.2 ⟨b1, c1⟩)
          have hql := (List.getElem?_eq_some_iff.1 hq).1
          rcases Nat.lt_or_ge q m with h6 | h6
          · exact absurd (List.mem_of_getElem? (by rw [List.getElem?_take, if_pos h6]; exact hq)) c2
          · rcases Nat.lt_or_ge m q with h7 | h7
            · have := List.pairwise_iff_getElem.1 (srtB_sorted hA U w lo) m q hml hql h7
              rw [(List.getElem?_eq_some_iff.1 h).2, (List.getElem?_eq_some_iff.1 hq).2] at this
              exact (tl_irr hA h5 this).elim
            · obtain rfl : q = m := by omega
              rw [h] at hq; cases hq; rfl
      rw [this]
end Go.Sh
namespace Go.Sh
set_option linter.unusedSectionVars false
set_option linter.unnecessarySimpa false
set_option linter.unusedVariables false
set_option linter.unusedSimpArgs false
set_option maxRecDepth 100000
set_option maxHeartbeats 4000000
abbrev hpR (r : Int) (C : List (Int × Int)) (U D : List Int) (f g h : Bool) (R : Int) (Cc : List (Int × Int)) (Uu Dd : List Int) : List SBlk :=
  [.box (lrC r C U D f g h), .box [.int .i64 0, .lst 0 [] true, .lst 0 [] true, .lst 0 [] true], .box (lrC r C U D f g h), .box (lsC r 4 16 16 16), .arr 0 2 (cS Cc) false, .arr 0 1 (iS Uu) false, .arr 0 1 (iS Dd) false, .box (lsC R 4 16 16 16)]
theorem ref_right (w lo hi le : Int) : (decide (w < 1) || decide (1000 < w) || decide (lo < 0) || decide (hi < lo) || decide (1000 < hi) || decide (le < 1) || decide (16 < le)) = !rightB w lo hi le := by
  rw [Bool.eq_iff_iff]; simp [rightB, or_assoc, Int.not_le]
theorem kI_le (S U le) : kI S U le ≤ S.length := by unfold kI; omega
theorem s37 (n : Nat) (H : Heap) (r C U D f g h w lo hi le) : call1 T (n + 9) (.fn 37) [lr r C U D f g h, .int .i64 w, .int .i64 lo, .int .i64 hi, .int .i64 le] H = some (clV false r C U D w lo hi le, H) := by
  refine call_pure e37 (by rfl) ?_
  have h39 := fun H => s39 (n + 6) H r C U D f g h
  cases hv : vB r C U D with
  | false => simp only [c37, heap0, go_sem, Int.cast_ofNat_Int, Int.reduceToNat, Bool.true_xor, Bool.false_xor, Bool.xor_true, Bool.xor_false, Nat.reduceAdd, Nat.reduceBEq, Nat.reduceLeDiff, Nat.reduceLT, Nat.reduceMul, Nat.reduceSub, Int.reduceEq, Int.reduceLT, Int.reduceLE, Int.reduceNeg, h39, hv, clV]
  | true =>
    cases hr : rightB w lo hi le with
    | false =>
      have hq := ref_right w lo hi le
      rw [hr] at hq
      simp only [c37, heap0, go_sem, Int.cast_ofNat_Int, Int.reduceToNat, Bool.true_xor, Bool.false_xor, Bool.xor_true, Bool.xor_false, Nat.reduceAdd, Nat.reduceBEq, Nat.reduceLeDiff, Nat.reduceLT, Nat.reduceMul, Nat.reduceSub, Int.reduceEq, Int.reduceLT, Int.reduceLE, Int.reduceNeg, h39, hv, hr, clV]
      cases a1 : decide (w < 1) with
      | true => simp only [go_sem, Int.cast_ofNat_Int, Int.reduceToNat, Bool.true_xor, Bool.false_xor, Bool.xor_true, Bool.xor_false, Nat.reduceAdd, Nat.reduceBEq, Nat.reduceLeDiff, Nat.reduceLT, Nat.reduceMul, Nat.reduceSub, Int.reduceEq, Int.reduceLT, Int.reduceLE, Int.reduceNeg, a1]
      | false =>
      cases a2 : decide (1000 < w) with
      | true => simp only [go_sem, Int.cast_ofNat_Int, Int.reduceToNat, Bool.true_xor, Bool.false_xor, Bool.xor_true, Bool.xor_false, Nat.reduceAdd, Nat.reduceBEq, Nat.reduceLeDiff, Nat.reduceLT, Nat.reduceMul, Nat.reduceSub, Int.reduceEq, Int.reduceLT, Int.reduceLE, Int.reduceNeg, a1, a2]
      | false =>
      cases a3 : decide (lo < 0) with
      | true => simp only [go_sem, Int.cast_ofNat_Int, Int.reduceToNat, Bool.true_xor, Bool.false_xor, Bool.xor_true, Bool.xor_false, Nat.reduceAdd, Nat.reduceBEq, Nat.reduceLeDiff, Nat.reduceLT, Nat.reduceMul, Nat.reduceSub, Int.reduceEq, Int.reduceLT, Int.reduceLE, Int.reduceNeg, a1, a2, a3]
      | false =>
      cases a4 : decide (hi < lo) with
      | true => simp only [go_sem, Int.cast_ofNat_Int, Int.reduceToNat, Bool.true_xor, Bool.false_xor, Bool.xor_true, Bool.xor_false, Nat.reduceAdd, Nat.reduceBEq, Nat.reduceLeDiff, Nat.reduceLT, Nat.reduceMul, Nat.reduceSub, Int.reduceEq, Int.reduceLT, Int.reduceLE, Int.reduceNeg, a1, a2, a3, a4]
      | false =>
      cases a5 : decide (1000 < hi) with
      | true => simp only [go_sem, Int.cast_ofNat_Int, Int.reduceToNat, Bool.true_xor, Bool.false_xor, Bool.xor_true, Bool.xor_false, Nat.reduceAdd, Nat.reduceBEq, Nat.reduceLeDiff, Nat.reduceLT, Nat.reduceMul, Nat.reduceSub, Int.reduceEq, Int.reduceLT, Int.reduceLE, Int.reduceNeg, a1, a2, a3, a4, a5]
      | false =>
      cases a6 : decide (le < 1) with
      | true => simp only [go_sem, Int.cast_ofNat_Int, Int.reduceToNat, Bool.true_xor, Bool.false_xor, Bool.xor_true, Bool.xor_false, Nat.reduceAdd, Nat.reduceBEq, Nat.reduceLeDiff, Nat.reduceLT, Nat.reduceMul, Nat.reduceSub, Int.reduceEq, Int.reduceLT, Int.reduceLE, Int.reduceNeg, a1, a2, a3, a4, a5, a6]
      | false =>
        rw [a1, a2, a3, a4, a5, a6] at hq
        have a7 : decide (16 < le) = true := by simpa using hq
        simp only [go_sem, Int.cast_ofNat_Int, Int.reduceToNat, Bool.true_xor, Bool.false_xor, Bool.xor_true, Bool.xor_false, Nat.reduceAdd, Nat.reduceBEq, Nat.reduceLeDiff, Nat.reduceLT, Nat.reduceMul, Nat.reduceSub, Int.reduceEq, Int.reduceLT, Int.reduceLE, Int.reduceNeg, a1, a2, a3, a4, a5, a6, a7]
    | true =>
      have hq := ref_right w lo hi le
      rw [hr] at hq
      simp only [Bool.not_true, Bool.or_eq_false_iff] at hq
      obtain ⟨⟨⟨⟨⟨⟨a1, a2⟩, a3⟩, a4⟩, a5⟩, a6⟩, a7⟩ := hq
      cases h1 : decide (r = 1073741824) with
      | true => simp only [c37, heap0, go_sem, Int.cast_ofNat_Int, Int.reduceToNat, Bool.true_xor, Bool.false_xor, Bool.xor_true, Bool.xor_false, Nat.reduceAdd, Nat.reduceBEq, Nat.reduceLeDiff, Nat.reduceLT, Nat.reduceMul, Nat.reduceSub, Int.reduceEq, Int.reduceLT, Int.reduceLE, Int.reduceNeg, h39, hv, hr, h1, a1, a2, a3, a4, a5, a6, a7, clV]
      | false =>
        obtain ⟨⟨r0, r1, hC, hU, hD⟩, _⟩ := vB_iff.1 hv
        have hrr := hr
        simp only [rightB, Bool.and_eq_true, decide_eq_true_eq] at hrr
        have h13 := fun x y es => s13k2 (n + 7) x y es r C U D f g h (by omega) (by omega) (by omega)
        rw [hC, hU, hD] at h13
        simp only [c37, heap0, go_sem, Int.cast_ofNat_Int, Int.reduceToNat, Bool.true_xor, Bool.false_xor, Bool.xor_true, Bool.xor_false, Nat.reduceAdd, Nat.reduceBEq, Nat.reduceLeDiff, Nat.reduceLT, Nat.reduceMul, Nat.reduceSub, Int.reduceEq, Int.reduceLT, Int.reduceLE, Int.reduceNeg, h39, hv, hr, h1, a1, a2, a3, a4, a5, a6, a7, clV, h13]
        have hcu : clU r C U D w lo le = (pk r U D (srtB C U w lo) (kI (srtB C U w lo) U le)).1.map (fU (w64 (r + 1))) := rfl
        have hcd : clD r C U D w lo hi le = zD (prvI C U w lo hi) (pk r U D (srtB C U w lo) (kI (srtB C U w lo) U le)).2 := rfl
        have hfr := fun m => pk_fr (D := D) r0 r1 hU (S := srtB C U w lo) (fun a ha => srtB_mem ha) (fun a ha => by
          have := (srtB_iff.1 ha).2
          simp only [badI, Bool.and_eq_true, decide_eq_true_eq] at this
          exact this.1.1) (srtB_nodup C U w lo) m
        have hwst := fun m => wst_pk (lo := lo) (w := w) hv m
        have hzer := fun m j => pk_zero (D := D) r0 r1 hU (S := srtB C U w lo) (fun a ha => srtB_mem ha) m j
        have hf16 : 0 ≤ fr U ∧ fr U ≤ 16 := by
          have : U.count 0 ≤ 16 := hU ▸ List.count_le_length
          unfold fr; omega
        have hwf : w64 (fr U - le) = fr U - le := w64_id (by omega) (by omega)
        have hSl := srtB_len C U w lo
        have hK : (kI (srtB C U w lo) U le : Int) = max 0 (min ((srtB C U w lo).length : Int) (fr U - le)) := by unfold kI; rw [hwf]; omega
        have hbadS : ∀ a, a ∈ srtB C U w lo → badI C U w lo a = true := fun a ha => (srtB_iff.1 ha).2
        rw [hcu, hcd]
        clear hcu hcd
        have hSm : ∀ a ∈ srtB C U w lo, a < 16 := fun a ha => srtB_mem ha
        have hKl := kI_le (srtB C U w lo) U le
        generalize kI (srtB C U w lo) U le = K at *
        generalize srtB C U w lo = S at *
        refine loop_rule (fun m => ([(1, .int .i64 w), (2, .int .i64 lo), (3, .int .i64 hi), (4, .int .i64 le), (5, .ptr 0 0 0 0), (10, .ptr 1 0 0 0), (12, .ptr 7 0 0 0)],
          ⟨hpR r C U D f g h r C (pk r U D S m).1 (pk r U D S m).2, [], 0⟩)) (fun _ => True) K (by simp only [go_sem, Int.cast_ofNat_Int, Int.reduceToNat, Bool.true_xor, Bool.false_xor, Bool.xor_true, Bool.xor_false, Nat.reduceAdd, Nat.reduceBEq, Nat.reduceLeDiff, Nat.reduceLT, Nat.reduceMul, Nat.reduceSub, Int.reduceEq, Int.reduceLT, Int.reduceLE, Int.reduceNeg]; rfl) trivial ?_
        intro m hm _
        have l1 := pk_len1 r U D S m
        have l2 := pk_len2 r U D S m
        have h49 := fun x0 x1 x2 x3 x4 x6 x7 es ro => s49 (n + 7) x0 x1 x2 x3 x4 x6 x7 es ro r (pk r U D S m).1 (by omega)
        have h50 := fun x0 x1 x2 x3 x6 x7 es ro => s50 (n + 6) x0 x1 x2 x3 x6 x7 es ro r w lo C (pk r U D S m).1 hC (by omega)
        rw [hfr m (by omega)] at h49
        rw [hwst m] at h50
        rcases Nat.lt_or_ge m K with hlt | hge
        · obtain ⟨i, hi⟩ := getS (l := S) (i := m) (by omega)
          have hi16 := hSm i (List.mem_of_getElem? hi)
          rw [hi] at h50
          obtain ⟨u, hu⟩ := getS (l := (pk r U D S m).1) (i := i) (by omega)
          obtain ⟨d, hd⟩ := getS (l := (pk r U D S m).2) (i := i) (by omega)
          have hfree : decide (le < fr U - m) = true := decide_eq_true (by omega)
          have hi' : decide ((i : Int) < 16) = true := decide_eq_true (by omega)
          have hin : decide ((i : Int) < 0) = false := decide_eq_false (by omega)
          have hi16' : decide (i < 16) = true := decide_eq_true (by omega)
          have hD1 : ((pk r U D S m).2.set i (nh d))[i]? = some (nh d) := List.getElem?_set_self (by omega)
          have hpk := pk_suc (r := r) (U := U) (D := D) hi
          rw [updU, updD, uA_of hd] at hpk
          have hnh : min (max (w64 (2 * d)) 1) 64 = nh d := rfl
          simp only [go_sem, Int.cast_ofNat_Int, Int.reduceToNat, Bool.true_xor, Bool.false_xor, Bool.xor_true, Bool.xor_false, Nat.reduceAdd, Nat.reduceBEq, Nat.reduceLeDiff, Nat.reduceLT, Nat.reduceMul, Nat.reduceSub, Int.reduceEq, Int.reduceLT, Int.reduceLE, Int.reduceNeg, hlt, h49, h50, hfree, hi', hin, hi16', hu, hd, hnh, iS_set, hD1, hpk]
          exact ⟨by first | trivial | omega, by first | trivial | rfl, trivial⟩
        obtain rfl : m = K := by omega
        have hzer := hzer m
        have hx : decide (le < fr U - m) = false ∨ decide (le < fr U - m) = true ∧ S[m]? = none := by
          cases hx : decide (le < fr U - m) with
          | false => exact .inl rfl
          | true =>
            have := of_decide_eq_true hx
            exact .inr ⟨rfl, List.getElem?_eq_none (by omega)⟩
        have hx2 : ∀ x0 x1 x2 x3 x6 x7 es ro, decide (le < fr U - m) = true → S[m]? = none → call1 T (n + 6 + 2) (.fn 50) [ls r 4 16 16 16, .int .i64 w, .int .i64 lo] ⟨[x0, x1, x2, x3, .arr 0 2 (cS C) false, .arr 0 1 (iS (pk r U D S m).1) false, x6, x7], es, ro⟩ =
            some (.int .i64 (-1), ⟨[x0, x1, x2, x3, .arr 0 2 (cS C) false, .arr 0 1 (iS (pk r U D S m).1) false, x6, x7], es, ro⟩) := fun x0 x1 x2 x3 x6 x7 es ro _ hs => by
          have := h50 x0 x1 x2 x3 x6 x7 es ro
          rw [hs] at this
          exact this
        clear h50
        generalize hU1 : (pk r U D S m).1 = U1 at *
        generalize (pk r U D S m).2 = D1 at *
        rw [hU] at l1
        rw [hD] at l2
        rcases hx with hx | ⟨hx, hs⟩
        · simp only [go_sem, Int.cast_ofNat_Int, Int.reduceToNat, Bool.true_xor, Bool.false_xor, Bool.xor_true, Bool.xor_false, Nat.reduceAdd, Nat.reduceBEq, Nat.reduceLeDiff, Nat.reduceLT, Nat.reduceMul, Nat.reduceSub, Int.reduceEq, Int.reduceLT, Int.reduceLE, Int.reduceNeg, h49, hx]
          refine loop_rule (fun i => ([(1, .int .i64 w), (3, .int .i64 hi), (5, .ptr 0 0 0 0), (10, .ptr 1 0 0 0), (12, .ptr 7 0 0 0), (14, .int .i64 i)],
            ⟨hpR r C U D f g h r C U1 ((zD (prvI C U w lo hi) D1).take i ++ D1.drop i), [], 0⟩)) (fun _ => True) 16 (by simp only [go_sem, Int.cast_ofNat_Int, Int.reduceToNat, Bool.true_xor, Bool.false_xor, Bool.xor_true, Bool.xor_false, Nat.reduceAdd, Nat.reduceBEq, Nat.reduceLeDiff, Nat.reduceLT, Nat.reduceMul, Nat.reduceSub, Int.reduceEq, Int.reduceLT, Int.reduceLE, Int.reduceNeg]; rfl) trivial ?_
          intro i hi' _
          have hzl : (zD (prvI C U w lo hi) D1).length = D1.length := zD_len _ _
          rcases Nat.lt_or_ge i 16 with hlt | hge
          · obtain ⟨u, hu⟩ := getS (l := U) (i := i) (by omega)
            obtain ⟨c, hc⟩ := getS (l := C) (i := i) (by omega)
            obtain ⟨v, hv1⟩ := getS (l := U1) (i := i) (by omega)
            obtain ⟨d, hd⟩ := getS (l := D1) (i := i) (by omega)
            have hlt' : decide ((i : Int) < 16) = true := decide_eq_true (by omega)
            have hlt2 : decide (i < 16) = true := decide_eq_true (by omega)
            have hlU : decide ((i : Int) < (U.length : Int)) = true := decide_eq_true (by omega)
            have hlC : decide ((i : Int) < (C.length : Int)) = true := decide_eq_true (by omega)
            have hw : w64 ((i : Int) + 1) = ((i + 1 : Nat) : Int) := w64_suc (n := 16) hlt ln16
            have hp : prvI C U w lo hi i = (decide (u = 0) && !decide (c.1 < w) && !decide (rtV c.1 c.2 < lo) && decide (hi ≤ rtV c.1 c.2)) := by simp only [prvI, uA_of hu, cA_of hc]
            have gd : ((zD (prvI C U w lo hi) D1).take i ++ D1.drop i)[i]? = some d := by rw [mid_get (by omega), hd]
            have sd := mid_set (zD_get (p := prvI C U w lo hi) hd) hzl
            have hid : ((zD (prvI C U w lo hi) D1).take i ++ D1.drop i).set i d = (zD (prvI C U w lo hi) D1).take i ++ D1.drop i := by
              apply List.ext_getElem?
              intro j
              rw [List.getElem?_set]
              by_cases hj : i = j
              · subst hj; rw [if_pos rfl, gd, if_pos (by rw [mid_len hzl]; omega)]
              · rw [if_neg hj]
            have hno : prvI C U w lo hi i = false → (zD (prvI C U w lo hi) D1).take (i + 1) ++ D1.drop (i + 1) = (zD (prvI C U w lo hi) D1).take i ++ D1.drop i := fun h => by
              rw [h] at sd; rw [← sd]; exact hid
            have h44 := fun H => s44 (n + 7) H c.1 c.2
            have gw : decide (w ≤ c.1) = !decide (c.1 < w) := by rw [Bool.eq_iff_iff]; simp
            cases k1 : decide (u = 0) with
            | false =>
              have e1 := hno (by rw [hp, k1]; rfl)
              simp only [go_sem, Int.cast_ofNat_Int, Int.reduceToNat, Bool.true_xor, Bool.false_xor, Bool.xor_true, Bool.xor_false, Nat.reduceAdd, Nat.reduceBEq, Nat.reduceLeDiff, Nat.reduceLT, Nat.reduceMul, Nat.reduceSub, Int.reduceEq, Int.reduceLT, Int.reduceLE, Int.reduceNeg, hlt, hlt', hlt2, hlU, hlC, hu, hc, k1, hw, e1]
              exact ⟨by first | trivial | omega, by first | trivial | rfl, trivial⟩
            | true =>
              cases k2 : decide (c.1 < w) with
              | true =>
                have e1 := hno (by rw [hp, k1, k2]; rfl)
                simp only [go_sem, Int.cast_ofNat_Int, Int.reduceToNat, Bool.true_xor, Bool.false_xor, Bool.xor_true, Bool.xor_false, Nat.reduceAdd, Nat.reduceBEq, Nat.reduceLeDiff, Nat.reduceLT, Nat.reduceMul, Nat.reduceSub, Int.reduceEq, Int.reduceLT, Int.reduceLE, Int.reduceNeg, hlt, hlt', hlt2, hlU, hlC, hu, hc, k1, gw, k2, hw, e1]
                exact ⟨by first | trivial | omega, by first | trivial | rfl, trivial⟩
              | false =>
                cases k3 : decide (hi ≤ rtV c.1 c.2) with
                | false =>
                  have e1 := hno (by rw [hp, k1, k2, k3]; simp)
                  simp only [go_sem, Int.cast_ofNat_Int, Int.reduceToNat, Bool.true_xor, Bool.false_xor, Bool.xor_true, Bool.xor_false, Nat.reduceAdd, Nat.reduceBEq, Nat.reduceLeDiff, Nat.reduceLT, Nat.reduceMul, Nat.reduceSub, Int.reduceEq, Int.reduceLT, Int.reduceLE, Int.reduceNeg, hlt, hlt', hlt2, hlU, hlC, hu, hc, k1, gw, k2, h44, k3, hw, e1]
                  exact ⟨by first | trivial | omega, by first | trivial | rfl, trivial⟩
                | true =>
                  have k3' := of_decide_eq_true k3
                  have k4 : decide (rtV c.1 c.2 < lo) = false := decide_eq_false (by omega)
                  have hpt : prvI C U w lo hi i = true := by rw [hp, k1, k2, k3, k4]; rfl
                  rw [hpt, cond_true] at sd
                  have hnS : i ∉ S.take m := fun hm => by
                    have := hbadS i (List.mem_of_mem_take hm)
                    simp only [badI, cA_of hc, k4, Bool.and_false] at this
                    cases this
                  have hv0 : v = 0 := by
                    have := (hzer i).2 ⟨by rw [uA_of hu]; exact of_decide_eq_true k1, hnS⟩
                    rw [uA_of hv1] at this; exact this
                  subst hv0
                  simp only [go_sem, Int.cast_ofNat_Int, Int.reduceToNat, Bool.true_xor, Bool.false_xor, Bool.xor_true, Bool.xor_false, Nat.reduceAdd, Nat.reduceBEq, Nat.reduceLeDiff, Nat.reduceLT, Nat.reduceMul, Nat.reduceSub, Int.reduceEq, Int.reduceLT, Int.reduceLE, Int.reduceNeg, hlt, hlt', hlt2, hlU, hlC, hu, hc, hv1, gd, k1, gw, k2, h44, k3, iS_set, sd, hw]
                  exact ⟨by first | trivial | omega, by first | trivial | rfl, trivial⟩
          obtain rfl : i = 16 := by omega
          have e0 : (zD (prvI C U w lo hi) D1).take 16 ++ D1.drop 16 = zD (prvI C U w lo hi) D1 := mid_end (by omega) hzl
          simp only [go_sem, Int.cast_ofNat_Int, Int.reduceToNat, Bool.true_xor, Bool.false_xor, Bool.xor_true, Bool.xor_false, Nat.reduceAdd, Nat.reduceBEq, Nat.reduceLeDiff, Nat.reduceLT, Nat.reduceMul, Nat.reduceSub, Int.reduceEq, Int.reduceLT, Int.reduceLE, Int.reduceNeg, show decide (((16 : Nat) : Int) < 16) = false from by decide, e0]
          have e4 : (zD (prvI C U w lo hi) D1).length = 16 := by omega
          generalize zD (prvI C U w lo hi) D1 = D2 at *
          clear hge hi' e0
          refine loop_rule (fun i => ([(10, .ptr 1 0 0 0), (12, .ptr 7 0 0 0), (15, .int .i64 i)],
            ⟨hpR r C U D f g h (w64 (r + 1)) (C0.take i ++ C.drop i) ((U1.map (fU (w64 (r + 1)))).take i ++ U1.drop i) D2, [], 0⟩)) (fun _ => True) 16 (by simp only [go_sem, Int.cast_ofNat_Int, Int.reduceToNat, Bool.true_xor, Bool.false_xor, Bool.xor_true, Bool.xor_false, Nat.reduceAdd, Nat.reduceBEq, Nat.reduceLeDiff, Nat.reduceLT, Nat.reduceMul, Nat.reduceSub, Int.reduceEq, Int.reduceLT, Int.reduceLE, Int.reduceNeg]; rfl) trivial ?_
          intro i hi' _
          have hlm : (U1.map (fU (w64 (r + 1)))).length = U1.length := by simp
          have hC0 : C0.length = C.length := by rw [C0_len, hC]
          rcases Nat.lt_or_ge i 16 with hlt | hge
          · obtain ⟨u, hu⟩ := getS (l := U1) (i := i) (by omega)
            obtain ⟨c, hc⟩ := getS (l := C) (i := i) (by omega)
            have hlt' : decide ((i : Int) < 16) = true := decide_eq_true (by omega)
            have hlt2 : decide (i < 16) = true := decide_eq_true hlt
            have hw : w64 ((i : Int) + 1) = ((i + 1 : Nat) : Int) := w64_suc (n := 16) hlt ln16
            have gu : ((U1.map (fU (w64 (r + 1)))).take i ++ U1.drop i)[i]? = some u := by rw [mid_get (by omega), hu]
            have gc : (C0.take i ++ C.drop i)[i]? = some c := by rw [mid_get (by omega), hc]
            have su : ((U1.map (fU (w64 (r + 1)))).take i ++ U1.drop i).set i (fU (w64 (r + 1)) u) = (U1.map (fU (w64 (r + 1)))).take (i + 1) ++ U1.drop (i + 1) := mid_set (by simp [hu]) hlm
            have sc : (C0.take i ++ C.drop i).set i (0, 0) = C0.take (i + 1) ++ C.drop (i + 1) := mid_set (by rw [C0, List.getElem?_replicate, if_pos hlt]) hC0
            cases k1 : decide (u ≤ w64 (r + 1)) with
            | true =>
              have hf : fU (w64 (r + 1)) u = 0 := by simp only [fU, k1, cond_true]
              rw [hf] at su
              simp only [go_sem, Int.cast_ofNat_Int, Int.reduceToNat, Bool.true_xor, Bool.false_xor, Bool.xor_true, Bool.xor_false, Nat.reduceAdd, Nat.reduceBEq, Nat.reduceLeDiff, Nat.reduceLT, Nat.reduceMul, Nat.reduceSub, Int.reduceEq, Int.reduceLT, Int.reduceLE, Int.reduceNeg, hlt, hlt', hlt2, gu, gc, k1, iS_set, cS_set2, su, sc, hw]
              exact ⟨by first | trivial | omega, by first | trivial | rfl, trivial⟩
            | false =>
              have hf : fU (w64 (r + 1)) u = u := by simp only [fU, k1, cond_false]
              rw [hf] at su
              have hid : ((U1.map (fU (w64 (r + 1)))).take i ++ U1.drop i).set i u = (U1.map (fU (w64 (r + 1)))).take i ++ U1.drop i := by
                apply List.ext_getElem?
                intro j
                rw [List.getElem?_set]
                by_cases hj : i = j
                · subst hj; rw [if_pos rfl, gu, if_pos (by rw [mid_len hlm]; omega)]
                · rw [if_neg hj]
              rw [hid] at su
              simp only [go_sem, Int.cast_ofNat_Int, Int.reduceToNat, Bool.true_xor, Bool.false_xor, Bool.xor_true, Bool.xor_false, Nat.reduceAdd, Nat.reduceBEq, Nat.reduceLeDiff, Nat.reduceLT, Nat.reduceMul, Nat.reduceSub, Int.reduceEq, Int.reduceLT, Int.reduceLE, Int.reduceNeg, hlt, hlt', hlt2, gu, gc, k1, iS_set, cS_set2, ← su, sc, hw]
              exact ⟨by first | trivial | omega, by first | trivial | rfl, trivial⟩
          · obtain rfl : i = 16 := by omega
            have e1 : (U1.map (fU (w64 (r + 1)))).take 16 ++ U1.drop 16 = U1.map (fU (w64 (r + 1))) := mid_end (by omega) hlm
            have e2 : C0.take 16 ++ C.drop 16 = C0 := mid_end (by omega) hC0
            have e3 : (U1.map (fU (w64 (r + 1)))).length = 16 := by omega
            simp only [go_sem, Int.cast_ofNat_Int, Int.reduceToNat, Bool.true_xor, Bool.false_xor, Bool.xor_true, Bool.xor_false, Nat.reduceAdd, Nat.reduceBEq, Nat.reduceLeDiff, Nat.reduceLT, Nat.reduceMul, Nat.reduceSub, Int.reduceEq, Int.reduceLT, Int.reduceLE, Int.reduceNeg, show decide (((16 : Nat) : Int) < 16) = false from by decide, e1, e2, fz_cS16 _ _ _ _ _ _ C0_len, fz_iS16 _ _ _ _ _ _ e3, fz_iS16 _ _ _ _ _ _ e4]
        · simp only [go_sem, Int.cast_ofNat_Int, Int.reduceToNat, Bool.true_xor, Bool.false_xor, Bool.xor_true, Bool.xor_false, Nat.reduceAdd, Nat.reduceBEq, Nat.reduceLeDiff, Nat.reduceLT, Nat.reduceMul, Nat.reduceSub, Int.reduceEq, Int.reduceLT, Int.reduceLE, Int.reduceNeg, h49, hx, hx2 _ _ _ _ _ _ _ _ hx hs]
          refine loop_rule (fun i => ([(1, .int .i64 w), (3, .int .i64 hi), (5, .ptr 0 0 0 0), (10, .ptr 1 0 0 0), (12, .ptr 7 0 0 0), (14, .int .i64 i)],
            ⟨hpR r C U D f g h r C U1 ((zD (prvI C U w lo hi) D1).take i ++ D1.drop i), [], 0⟩)) (fun _ => True) 16 (by simp only [go_sem, Int.cast_ofNat_Int, Int.reduceToNat, Bool.true_xor, Bool.false_xor, Bool.xor_true, Bool.xor_false, Nat.reduceAdd, Nat.reduceBEq, Nat.reduceLeDiff, Nat.reduceLT, Nat.reduceMul, Nat.reduceSub, Int.reduceEq, Int.reduceLT, Int.reduceLE, Int.reduceNeg]; rfl) trivial ?_
          intro i hi' _
          have hzl : (zD (prvI C U w lo hi) D1).length = D1.length := zD_len _ _
          rcases Nat.lt_or_ge i 16 with hlt | hge
          · obtain ⟨u, hu⟩ := getS (l := U) (i := i) (by omega)
            obtain ⟨c, hc⟩ := getS (l := C) (i := i) (by omega)
            obtain ⟨v, hv1⟩ := getS (l := U1) (i := i) (by omega)
            obtain ⟨d, hd⟩ := getS (l := D1) (i := i) (by omega)
            have hlt' : decide ((i : Int) < 16) = true := decide_eq_true (by omega)
            have hlt2 : decide (i < 16) = true := decide_eq_true (by omega)
            have hlU : decide ((i : Int) < (U.length : Int)) = true := decide_eq_true (by omega)
            have hlC : decide ((i : Int) < (C.length : Int)) = true := decide_eq_true (by omega)
            have hw : w64 ((i : Int) + 1) = ((i + 1 : Nat) : Int) := w64_suc (n := 16) hlt ln16
            have hp : prvI C U w lo hi i = (decide (u = 0) && !decide (c.1 < w) && !decide (rtV c.1 c.2 < lo) && decide (hi ≤ rtV c.1 c.2)) := by simp only [prvI, uA_of hu, cA_of hc]
            have gd : ((zD (prvI C U w lo hi) D1).take i ++ D1.drop i)[i]? = some d := by rw [mid_get (by omega), hd]
            have sd := mid_set (zD_get (p := prvI C U w lo hi) hd) hzl
            have hid : ((zD (prvI C U w lo hi) D1).take i ++ D1.drop i).set i d = (zD (prvI C U w lo hi) D1).take i ++ D1.drop i := by
              apply List.ext_getElem?
              intro j
              rw [List.getElem?_set]
              by_cases hj : i = j
              · subst hj; rw [if_pos rfl, gd, if_pos (by rw [mid_len hzl]; omega)]
              · rw [if_neg hj]
            have hno : prvI C U w lo hi i = false → (zD (prvI C U w lo hi) D1).take (i + 1) ++ D1.drop (i + 1) = (zD (prvI C U w lo hi) D1).take i ++ D1.drop i := fun h => by
              rw [h] at sd; rw [← sd]; exact hid
            have h44 := fun H => s44 (n + 7) H c.1 c.2
            have gw : decide (w ≤ c.1) = !decide (c.1 < w) := by rw [Bool.eq_iff_iff]; simp
            cases k1 : decide (u = 0) with
            | false =>
              have e1 := hno (by rw [hp, k1]; rfl)
              simp only [go_sem, Int.cast_ofNat_Int, Int.reduceToNat, Bool.true_xor, Bool.false_xor, Bool.xor_true, Bool.xor_false, Nat.reduceAdd, Nat.reduceBEq, Nat.reduceLeDiff, Nat.reduceLT, Nat.reduceMul, Nat.reduceSub, Int.reduceEq, Int.reduceLT, Int.reduceLE, Int.reduceNeg, hlt, hlt', hlt2, hlU, hlC, hu, hc, k1, hw, e1]
              exact ⟨by first | trivial | omega, by first | trivial | rfl, trivial⟩
            | true =>
              cases k2 : decide (c.1 < w) with
              | true =>
                have e1 := hno (by rw [hp, k1, k2]; rfl)
                simp only [go_sem, Int.cast_ofNat_Int, Int.reduceToNat, Bool.true_xor, Bool.false_xor, Bool.xor_true, Bool.xor_false, Nat.reduceAdd, Nat.reduceBEq, Nat.reduceLeDiff, Nat.reduceLT, Nat.reduceMul, Nat.reduceSub, Int.reduceEq, Int.reduceLT, Int.reduceLE, Int.reduceNeg, hlt, hlt', hlt2, hlU, hlC, hu, hc, k1, gw, k2, hw, e1]
                exact ⟨by first | trivial | omega, by first | trivial | rfl, trivial⟩
              | false =>
                cases k3 : decide (hi ≤ rtV c.1 c.2) with
                | false =>
                  have e1 := hno (by rw [hp, k1, k2, k3]; simp)
                  simp only [go_sem, Int.cast_ofNat_Int, Int.reduceToNat, Bool.true_xor, Bool.false_xor, Bool.xor_true, Bool.xor_false, Nat.reduceAdd, Nat.reduceBEq, Nat.reduceLeDiff, Nat.reduceLT, Nat.reduceMul, Nat.reduceSub, Int.reduceEq, Int.reduceLT, Int.reduceLE, Int.reduceNeg, hlt, hlt', hlt2, hlU, hlC, hu, hc, k1, gw, k2, h44, k3, hw, e1]
                  exact ⟨by first | trivial | omega, by first | trivial | rfl, trivial⟩
                | true =>
                  have k3' := of_decide_eq_true k3
                  have k4 : decide (rtV c.1 c.2 < lo) = false := decide_eq_false (by omega)
                  have hpt : prvI C U w lo hi i = true := by rw [hp, k1, k2, k3, k4]; rfl
                  rw [hpt, cond_true] at sd
                  have hnS : i ∉ S.take m := fun hm => by
                    have := hbadS i (List.mem_of_mem_take hm)
                    simp only [badI, cA_of hc, k4, Bool.and_false] at this
                    cases this
                  have hv0 : v = 0 := by
                    have := (hzer i).2 ⟨by rw [uA_of hu]; exact of_decide_eq_true k1, hnS⟩
                    rw [uA_of hv1] at this; exact this
                  subst hv0
                  simp only [go_sem, Int.cast_ofNat_Int, Int.reduceToNat, Bool.true_xor, Bool.false_xor, Bool.xor_true, Bool.xor_false, Nat.reduceAdd, Nat.reduceBEq, Nat.reduceLeDiff, Nat.reduceLT, Nat.reduceMul, Nat.reduceSub, Int.reduceEq, Int.reduceLT, Int.reduceLE, Int.reduceNeg, hlt, hlt', hlt2, hlU, hlC, hu, hc, hv1, gd, k1, gw, k2, h44, k3, iS_set, sd, hw]
                  exact ⟨by first | trivial | omega, by first | trivial | rfl, trivial⟩
          obtain rfl : i = 16 := by omega
          have e0 : (zD (prvI C U w lo hi) D1).take 16 ++ D1.drop 16 = zD (prvI C U w lo hi) D1 := mid_end (by omega) hzl
          simp only [go_sem, Int.cast_ofNat_Int, Int.reduceToNat, Bool.true_xor, Bool.false_xor, Bool.xor_true, Bool.xor_false, Nat.reduceAdd, Nat.reduceBEq, Nat.reduceLeDiff, Nat.reduceLT, Nat.reduceMul, Nat.reduceSub, Int.reduceEq, Int.reduceLT, Int.reduceLE, Int.reduceNeg, show decide (((16 : Nat) : Int) < 16) = false from by decide, e0]
          have e4 : (zD (prvI C U w lo hi) D1).length = 16 := by omega
          generalize zD (prvI C U w lo hi) D1 = D2 at *
          clear hge hi' e0
          refine loop_rule (fun i => ([(10, .ptr 1 0 0 0), (12, .ptr 7 0 0 0), (15, .int .i64 i)],
            ⟨hpR r C U D f g h (w64 (r + 1)) (C0.take i ++ C.drop i) ((U1.map (fU (w64 (r + 1)))).take i ++ U1.drop i) D2, [], 0⟩)) (fun _ => True) 16 (by simp only [go_sem, Int.cast_ofNat_Int, Int.reduceToNat, Bool.true_xor, Bool.false_xor, Bool.xor_true, Bool.xor_false, Nat.reduceAdd, Nat.reduceBEq, Nat.reduceLeDiff, Nat.reduceLT, Nat.reduceMul, Nat.reduceSub, Int.reduceEq, Int.reduceLT, Int.reduceLE, Int.reduceNeg]; rfl) trivial ?_
          intro i hi' _
          have hlm : (U1.map (fU (w64 (r + 1)))).length = U1.length := by simp
          have hC0 : C0.length = C.length := by rw [C0_len, hC]
          rcases Nat.lt_or_ge i 16 with hlt | hge
          · obtain ⟨u, hu⟩ := getS (l := U1) (i := i) (by omega)
            obtain ⟨c, hc⟩ := getS (l := C) (i := i) (by omega)
            have hlt' : decide ((i : Int) < 16) = true := decide_eq_true (by omega)
            have hlt2 : decide (i < 16) = true := decide_eq_true hlt
            have hw : w64 ((i : Int) + 1) = ((i + 1 : Nat) : Int) := w64_suc (n := 16) hlt ln16
            have gu : ((U1.map (fU (w64 (r + 1)))).take i ++ U1.drop i)[i]? = some u := by rw [mid_get (by omega), hu]
            have gc : (C0.take i ++ C.drop i)[i]? = some c := by rw [mid_get (by omega), hc]
            have su : ((U1.map (fU (w64 (r + 1)))).take i ++ U1.drop i).set i (fU (w64 (r + 1)) u) = (U1.map (fU (w64 (r + 1)))).take (i + 1) ++ U1.drop (i + 1) := mid_set (by simp [hu]) hlm
            have sc : (C0.take i ++ C.drop i).set i (0, 0) = C0.take (i + 1) ++ C.drop (i + 1) := mid_set (by rw [C0, List.getElem?_replicate, if_pos hlt]) hC0
            cases k1 : decide (u ≤ w64 (r + 1)) with
            | true =>
              have hf : fU (w64 (r + 1)) u = 0 := by simp only [fU, k1, cond_true]
              rw [hf] at su
              simp only [go_sem, Int.cast_ofNat_Int, Int.reduceToNat, Bool.true_xor, Bool.false_xor, Bool.xor_true, Bool.xor_false, Nat.reduceAdd, Nat.reduceBEq, Nat.reduceLeDiff, Nat.reduceLT, Nat.reduceMul, Nat.reduceSub, Int.reduceEq, Int.reduceLT, Int.reduceLE, Int.reduceNeg, hlt, hlt', hlt2, gu, gc, k1, iS_set, cS_set2, su, sc, hw]
              exact ⟨by first | trivial | omega, by first | trivial | rfl, trivial⟩
            | false =>
              have hf : fU (w64 (r + 1)) u = u := by simp only [fU, k1, cond_false]
              rw [hf] at su
              have hid : ((U1.map (fU (w64 (r + 1)))).take i ++ U1.drop i).set i u = (U1.map (fU (w64 (r + 1)))).take i ++ U1.drop i := by
                apply List.ext_getElem?
                intro j
                rw [List.getElem?_set]
                by_cases hj : i = j
                · subst hj; rw [if_pos rfl, gu, if_pos (by rw [mid_len hlm]; omega)]
                · rw [if_neg hj]
              rw [hid] at su
              simp only [go_sem, Int.cast_ofNat_Int, Int.reduceToNat, Bool.true_xor, Bool.false_xor, Bool.xor_true, Bool.xor_false, Nat.reduceAdd, Nat.reduceBEq, Nat.reduceLeDiff, Nat.reduceLT, Nat.reduceMul, Nat.reduceSub, Int.reduceEq, Int.reduceLT, Int.reduceLE, Int.reduceNeg, hlt, hlt', hlt2, gu, gc, k1, iS_set, cS_set2, ← su, sc, hw]
              exact ⟨by first | trivial | omega, by first | trivial | rfl, trivial⟩
          · obtain rfl : i = 16 := by omega
            have e1 : (U1.map (fU (w64 (r + 1)))).take 16 ++ U1.drop 16 = U1.map (fU (w64 (r + 1))) := mid_end (by omega) hlm
            have e2 : C0.take 16 ++ C.drop 16 = C0 := mid_end (by omega) hC0
            have e3 : (U1.map (fU (w64 (r + 1)))).length = 16 := by omega
            simp only [go_sem, Int.cast_ofNat_Int, Int.reduceToNat, Bool.true_xor, Bool.false_xor, Bool.xor_true, Bool.xor_false, Nat.reduceAdd, Nat.reduceBEq, Nat.reduceLeDiff, Nat.reduceLT, Nat.reduceMul, Nat.reduceSub, Int.reduceEq, Int.reduceLT, Int.reduceLE, Int.reduceNeg, show decide (((16 : Nat) : Int) < 16) = false from by decide, e1, e2, fz_cS16 _ _ _ _ _ _ C0_len, fz_iS16 _ _ _ _ _ _ e3, fz_iS16 _ _ _ _ _ _ e4]
end Go.Sh
namespace Go.Sh
set_option linter.unusedSectionVars false
set_option linter.unnecessarySimpa false
set_option linter.unusedVariables false
set_option linter.unusedSimpArgs false
set_option maxRecDepth 100000
set_option maxHeartbeats 4000000
def blk (U : List Int) : List Nat := upto (fun i => !decide (uA U i = 0)) 16
def blV (r : Int) (C : List (Int × Int)) (U D : List Int) : SV := bif vB r C U D then .tup [.lst 1 (bS (blk U)) false, .int .i64 0] else .tup [.lst 0 [] true, .int .i64 1]
theorem s15 (n : Nat) (H : Heap) (r C U D f g h) : call1 T (n + 3) (.fn 15) [lr r C U D f g h] H = some (blV r C U D, H) := by
  refine call_pure e15 (by rfl) ?_
  have h12 := fun H => s12 n H r C U D f g h
  cases hv : vB r C U D with
  | false => simp only [c15, heap0, go_sem, Int.cast_ofNat_Int, Int.reduceToNat, Bool.true_xor, Bool.false_xor, Bool.xor_true, Bool.xor_false, Nat.reduceAdd, Nat.reduceBEq, Nat.reduceLeDiff, Nat.reduceLT, Nat.reduceMul, Nat.reduceSub, Int.reduceEq, Int.reduceLT, Int.reduceLE, Int.reduceNeg, h12, hv, blV, vI_no hv]
  | true =>
    obtain ⟨⟨r0, r1, hC, hU, hD⟩, _⟩ := vB_iff.1 hv
    simp only [c15, heap0, go_sem, Int.cast_ofNat_Int, Int.reduceToNat, Bool.true_xor, Bool.false_xor, Bool.xor_true, Bool.xor_false, Nat.reduceAdd, Nat.reduceBEq, Nat.reduceLeDiff, Nat.reduceLT, Nat.reduceMul, Nat.reduceSub, Int.reduceEq, Int.reduceLT, Int.reduceLE, Int.reduceNeg, h12, hv, blV, vI_yes hv, hU]
    refine loop_rule (fun i => ([(5, .slc 1 (upto (fun i => !decide (uA U i = 0)) i).length 0 (upto (fun i => !decide (uA U i = 0)) i).length), (14, .lst 1 (iS U) g), (15, .int .i64 16), (16, .int .i64 i)],
      ⟨[.box (lrC r C U D f g h), .arr (upto (fun i => !decide (uA U i = 0)) i).length 1 (bS (upto (fun i => !decide (uA U i = 0)) i)) false], [], 0⟩)) (fun _ => True) 16 (by simp only [go_sem, Int.cast_ofNat_Int, Int.reduceToNat, Bool.true_xor, Bool.false_xor, Bool.xor_true, Bool.xor_false, Nat.reduceAdd, Nat.reduceBEq, Nat.reduceLeDiff, Nat.reduceLT, Nat.reduceMul, Nat.reduceSub, Int.reduceEq, Int.reduceLT, Int.reduceLE, Int.reduceNeg]; rfl) trivial ?_
    intro i hi' _
    rcases Nat.lt_or_ge i 16 with hlt | hge
    · obtain ⟨u, hu⟩ := getS (l := U) (i := i) (by omega)
      have hlt' : decide ((i : Int) < 16) = true := decide_eq_true (by omega)
      have hlU : i < U.length := by omega
      have hw : w64 ((i : Int) + 1) = ((i + 1 : Nat) : Int) := w64_suc (n := 16) hlt ln16
      have rb := room8 (n := (upto (fun i => !decide (uA U i = 0)) i).length) (Nat.le_trans (upto_len _ _) (by omega))
      have gb := fun H => apB_grow 1 H 1 (upto (fun i => !decide (uA U i = 0)) i).length (upto (fun i => !decide (uA U i = 0)) i).length [[.int .i64 (i : Int)]] (bS (upto (fun i => !decide (uA U i = 0)) i)) (bS_len _)
      cases k1 : decide (u = 0) with
      | true =>
        have e1 := upto_no (p := fun i => !decide (uA U i = 0)) (i := i) (by simp only [uA_of hu, k1]; rfl)
        simp only [go_sem, Int.cast_ofNat_Int, Int.reduceToNat, Bool.true_xor, Bool.false_xor, Bool.xor_true, Bool.xor_false, Nat.reduceAdd, Nat.reduceBEq, Nat.reduceLeDiff, Nat.reduceLT, Nat.reduceMul, Nat.reduceSub, Int.reduceEq, Int.reduceLT, Int.reduceLE, Int.reduceNeg, hlt, hlt', hlU, hu, k1, hw, e1]
        exact ⟨by first | trivial | omega, by first | trivial | rfl, trivial⟩
      | false =>
        have e1 := upto_yes (p := fun i => !decide (uA U i = 0)) (i := i) (by simp only [uA_of hu, k1]; rfl)
        simp only [go_sem, Int.cast_ofNat_Int, Int.reduceToNat, Bool.true_xor, Bool.false_xor, Bool.xor_true, Bool.xor_false, Nat.reduceAdd, Nat.reduceBEq, Nat.reduceLeDiff, Nat.reduceLT, Nat.reduceMul, Nat.reduceSub, Int.reduceEq, Int.reduceLT, Int.reduceLE, Int.reduceNeg, hlt, hlt', hlU, hu, k1, rb, gb, bS_snoc, hw, e1, List.length_append]
        exact ⟨by first | trivial | omega, by first | trivial | rfl, trivial⟩
    · obtain rfl : i = 16 := by omega
      simp only [go_sem, Int.cast_ofNat_Int, Int.reduceToNat, Bool.true_xor, Bool.false_xor, Bool.xor_true, Bool.xor_false, Nat.reduceAdd, Nat.reduceBEq, Nat.reduceLeDiff, Nat.reduceLT, Nat.reduceMul, Nat.reduceSub, Int.reduceEq, Int.reduceLT, Int.reduceLE, Int.reduceNeg, show decide (((16 : Nat) : Int) < 16) = false from by decide]
      rfl
theorem s38 (n : Nat) (H : Heap) (r C U D f g h) : call1 T (n + 3) (.fn 38) [lr r C U D f g h] H = some (blV r C U D, H) := by
  refine call_pure e38 (by rfl) ?_
  have h39 := fun H => s39 n H r C U D f g h
  cases hv : vB r C U D with
  | false => simp only [c38, heap0, go_sem, Int.cast_ofNat_Int, Int.reduceToNat, Bool.true_xor, Bool.false_xor, Bool.xor_true, Bool.xor_false, Nat.reduceAdd, Nat.reduceBEq, Nat.reduceLeDiff, Nat.reduceLT, Nat.reduceMul, Nat.reduceSub, Int.reduceEq, Int.reduceLT, Int.reduceLE, Int.reduceNeg, h39, hv, blV]
  | true =>
    obtain ⟨⟨r0, r1, hC, hU, hD⟩, _⟩ := vB_iff.1 hv
    simp only [c38, heap0, go_sem, Int.cast_ofNat_Int, Int.reduceToNat, Bool.true_xor, Bool.false_xor, Bool.xor_true, Bool.xor_false, Nat.reduceAdd, Nat.reduceBEq, Nat.reduceLeDiff, Nat.reduceLT, Nat.reduceMul, Nat.reduceSub, Int.reduceEq, Int.reduceLT, Int.reduceLE, Int.reduceNeg, h39, hv, blV]
    refine loop_rule (fun i => ([(1, .ptr 0 0 0 0), (4, .slc 1 (upto (fun i => !decide (uA U i = 0)) i).length 0 (upto (fun i => !decide (uA U i = 0)) i).length), (5, .int .i64 i)],
      ⟨[.box (lrC r C U D f g h), .arr (upto (fun i => !decide (uA U i = 0)) i).length 1 (bS (upto (fun i => !decide (uA U i = 0)) i)) false], [], 0⟩)) (fun _ => True) 16 (by simp only [go_sem, Int.cast_ofNat_Int, Int.reduceToNat, Bool.true_xor, Bool.false_xor, Bool.xor_true, Bool.xor_false, Nat.reduceAdd, Nat.reduceBEq, Nat.reduceLeDiff, Nat.reduceLT, Nat.reduceMul, Nat.reduceSub, Int.reduceEq, Int.reduceLT, Int.reduceLE, Int.reduceNeg]; rfl) trivial ?_
    intro i hi' _
    rcases Nat.lt_or_ge i 16 with hlt | hge
    · obtain ⟨u, hu⟩ := getS (l := U) (i := i) (by omega)
      have hlt' : decide ((i : Int) < 16) = true := decide_eq_true (by omega)
      have hlU : i < U.length := by omega
      have hw : w64 ((i : Int) + 1) = ((i + 1 : Nat) : Int) := w64_suc (n := 16) hlt ln16
      have rb := room8 (n := (upto (fun i => !decide (uA U i = 0)) i).length) (Nat.le_trans (upto_len _ _) (by omega))
      have gb := fun H => apB_grow 1 H 1 (upto (fun i => !decide (uA U i = 0)) i).length (upto (fun i => !decide (uA U i = 0)) i).length [[.int .i64 (i : Int)]] (bS (upto (fun i => !decide (uA U i = 0)) i)) (bS_len _)
      cases k1 : decide (u = 0) with
      | true =>
        have e1 := upto_no (p := fun i => !decide (uA U i = 0)) (i := i) (by simp only [uA_of hu, k1]; rfl)
        simp only [go_sem, Int.cast_ofNat_Int, Int.reduceToNat, Bool.true_xor, Bool.false_xor, Bool.xor_true, Bool.xor_false, Nat.reduceAdd, Nat.reduceBEq, Nat.reduceLeDiff, Nat.reduceLT, Nat.reduceMul, Nat.reduceSub, Int.reduceEq, Int.reduceLT, Int.reduceLE, Int.reduceNeg, hlt, hlt', hlU, hu, k1, hw, e1]
        exact ⟨by first | trivial | omega, by first | trivial | rfl, trivial⟩
      | false =>
        have e1 := upto_yes (p := fun i => !decide (uA U i = 0)) (i := i) (by simp only [uA_of hu, k1]; rfl)
        simp only [go_sem, Int.cast_ofNat_Int, Int.reduceToNat, Bool.true_xor, Bool.false_xor, Bool.xor_true, Bool.xor_false, Nat.reduceAdd, Nat.reduceBEq, Nat.reduceLeDiff, Nat.reduceLT, Nat.reduceMul, Nat.reduceSub, Int.reduceEq, Int.reduceLT, Int.reduceLE, Int.reduceNeg, hlt, hlt', hlU, hu, k1, rb, gb, bS_snoc, hw, e1, List.length_append]
        exact ⟨by first | trivial | omega, by first | trivial | rfl, trivial⟩
    · obtain rfl : i = 16 := by omega
      simp only [go_sem, Int.cast_ofNat_Int, Int.reduceToNat, Bool.true_xor, Bool.false_xor, Bool.xor_true, Bool.xor_false, Nat.reduceAdd, Nat.reduceBEq, Nat.reduceLeDiff, Nat.reduceLT, Nat.reduceMul, Nat.reduceSub, Int.reduceEq, Int.reduceLT, Int.reduceLE, Int.reduceNeg, show decide (((16 : Nat) : Int) < 16) = false from by decide]
      rfl
theorem s14 (n : Nat) (H : Heap) (r C U D f g h w lo hi le) (hC : C.length ≤ 20) (hU : U.length ≤ 20) (hD : D.length ≤ 20) : call1 T (n + 10) (.fn 14) [lr r C U D f g h, rul w lo hi le] H = some (clV true r C U D w lo hi le, H) := by
  refine call_pure e14 (by rfl) ?_
  have h13 := fun H => s13 (n + 8) H r C U D f g h hC hU hD
  have h40 := fun H => s40 n H r C U D false false false w lo hi le
  unfold clV at h40 ⊢
  cases hv : vB r C U D with
  | false =>
    simp only [hv, cond_false] at h40
    simp only [c14, heap0, go_sem, Int.cast_ofNat_Int, Int.reduceToNat, Bool.true_xor, Bool.false_xor, Bool.xor_true, Bool.xor_false, Nat.reduceAdd, Nat.reduceBEq, Nat.reduceLeDiff, Nat.reduceLT, Nat.reduceMul, Nat.reduceSub, Int.reduceEq, Int.reduceLT, Int.reduceLE, Int.reduceNeg, h13, h40]
  | true =>
    cases hr : rightB w lo hi le with
    | false =>
      simp only [hv, hr, cond_false, cond_true] at h40
      simp only [c14, heap0, go_sem, Int.cast_ofNat_Int, Int.reduceToNat, Bool.true_xor, Bool.false_xor, Bool.xor_true, Bool.xor_false, Nat.reduceAdd, Nat.reduceBEq, Nat.reduceLeDiff, Nat.reduceLT, Nat.reduceMul, Nat.reduceSub, Int.reduceEq, Int.reduceLT, Int.reduceLE, Int.reduceNeg, h13, h40]
    | true =>
      cases h1 : decide (r = 1073741824) with
      | true =>
        simp only [hv, hr, h1, cond_false, cond_true] at h40
        simp only [c14, heap0, go_sem, Int.cast_ofNat_Int, Int.reduceToNat, Bool.true_xor, Bool.false_xor, Bool.xor_true, Bool.xor_false, Nat.reduceAdd, Nat.reduceBEq, Nat.reduceLeDiff, Nat.reduceLT, Nat.reduceMul, Nat.reduceSub, Int.reduceEq, Int.reduceLT, Int.reduceLE, Int.reduceNeg, h13, h40]
      | false =>
        simp only [hv, hr, h1, cond_false, cond_true] at h40
        simp only [c14, heap0, go_sem, Int.cast_ofNat_Int, Int.reduceToNat, Bool.true_xor, Bool.false_xor, Bool.xor_true, Bool.xor_false, Nat.reduceAdd, Nat.reduceBEq, Nat.reduceLeDiff, Nat.reduceLT, Nat.reduceMul, Nat.reduceSub, Int.reduceEq, Int.reduceLT, Int.reduceLE, Int.reduceNeg, h13, h40]
theorem s17b (n : Nat) (H : Heap) (L : List Nat) (hL : L.length ≤ maxLen) : call1 T (n + 1) (.fn 17) [.lst 1 (bS L) false, .lst 1 (bS L) false] H = some (.bool true, H) := by
  have := s17 n H (L.map fun (n : Nat) => (n : Int)) (L.map fun (n : Nat) => (n : Int)) false false (by simpa using hL)
  rw [← bS_iS, decide_eq_true rfl] at this
  exact this
theorem s17z (n : Nat) (H : Heap) (L : List Int) (f : Bool) (hL : L.length ≤ maxLen) : call1 T (n + 1) (.fn 17) [.lst 1 (iS L) f, .lst 0 [] true] H = some (.bool (decide (L = [])), H) :=
  stdEq_ok (T := T) (f := 17) (n := n) (H := H) e17 (.lst 1 f (.inl rfl)) (.lst (L := iS []) 0 true (.inr rfl)) hL
theorem s17zz (n : Nat) (H : Heap) : call1 T (n + 1) (.fn 17) [.lst 0 [] true, .lst 0 [] true] H = some (.bool true, H) :=
  stdEq_ok (T := T) (f := 17) (n := n) (H := H) (L := []) (M := []) e17 (.lst (L := iS []) 0 true (.inr rfl)) (.lst (L := iS []) 0 true (.inr rfl)) (by decide)
theorem nt_eq (r C U D x a) : (∃ e, ∀ fl, ntV fl r C U D x a = .tup [lz, .int .i64 e]) ∨ ∃ C' e, C'.length ≤ maxLen ∧ U.length ≤ maxLen ∧ D.length ≤ maxLen ∧ ∀ fl, ntV fl r C U D x a = .tup [lr r C' U D fl fl fl, .int .i64 e] := by
  unfold ntV
  cases h : vB r C U D with
  | false => exact .inl ⟨1, fun _ => rfl⟩
  | true =>
    obtain ⟨⟨_, _, hC, hU, hD⟩, _⟩ := vB_iff.1 h
    cases decide (x < 0) || decide (16 ≤ x) with
    | true => exact .inl ⟨2, fun _ => rfl⟩
    | false =>
      cases decide ((C.getD x.toNat (0, 0)).1 = 1073741824) with
      | true => exact .inl ⟨13, fun _ => rfl⟩
      | false => exact .inr ⟨_, 0, by simp [hC]; exact ln16, by rw [hU]; exact ln16, by rw [hD]; exact ln16, fun _ => rfl⟩
theorem clU_len {r C U D w lo le} (hU : U.length = 16) : (clU r C U D w lo le).length = 16 := by simp [clU, pk_len1, hU]
theorem clD_len {r C U D w lo hi le} (hD : D.length = 16) : (clD r C U D w lo hi le).length = 16 := by simp [clD, zD_len, pk_len2, hD]
theorem cl_eq (r C U D w lo hi le) : (∃ e, ∀ fl, clV fl r C U D w lo hi le = .tup [lz, .int .i64 e]) ∨ ∃ r' C' U' D' e, C'.length ≤ maxLen ∧ U'.length ≤ maxLen ∧ D'.length ≤ maxLen ∧ ∀ fl, clV fl r C U D w lo hi le = .tup [lr r' C' U' D' fl fl fl, .int .i64 e] := by
  unfold clV
  cases h : vB r C U D with
  | false => exact .inl ⟨1, fun _ => rfl⟩
  | true =>
    obtain ⟨⟨_, _, hC, hU, hD⟩, _⟩ := vB_iff.1 h
    cases rightB w lo hi le with
    | false => exact .inl ⟨2, fun _ => rfl⟩
    | true =>
      cases decide (r = 1073741824) with
      | true => exact .inl ⟨13, fun _ => rfl⟩
      | false => exact .inr ⟨_, _, _, _, 0, by rw [C0_len]; exact ln16, by rw [clU_len hU]; exact ln16, by rw [clD_len hD]; exact ln16, fun _ => rfl⟩
theorem s8 (r C U D f g h w lo hi le x) : call1 T 41 (.fn 8) [lr r C U D f g h, rul w lo hi le, .int .i64 x] heap0 = some (.bool true, heap0) := by
  refine call_pure e8 (by rfl) ?_
  have h10 := s10
  have h11 := fun H r C U D f g h => s11 39 H r C U D f g h
  cases k1 : fewB C U D with
  | false => simp only [c8, heap0, go_sem, Int.cast_ofNat_Int, Int.reduceToNat, Bool.true_xor, Bool.false_xor, Bool.xor_true, Bool.xor_false, Nat.reduceAdd, Nat.reduceBEq, Nat.reduceLeDiff, Nat.reduceLT, Nat.reduceMul, Nat.reduceSub, Int.reduceEq, Int.reduceLT, Int.reduceLE, Int.reduceNeg, h10, h11, k1]
  | true =>
    obtain ⟨a1, a2, a3⟩ := few_len k1
    have h13 := fun H => s13 39 H r C U D f g h a1 a2 a3
    have h35 := fun H a => s35 37 H r C U D false false false x a
    have h36 := fun H a => s36 37 H r C U D f g h x a
    have h14 := fun H => s14 30 H r C U D f g h w lo hi le a1 a2 a3
    have h37 := fun H => s37 31 H r C U D f g h w lo hi le
    have h15 := fun H => s15 37 H r C U D false false false
    have h38 := fun H => s38 37 H r C U D f g h
    have h12 := fun H => s12 38 H r C U D false false false
    have h39 := fun H => s39 38 H r C U D f g h
    have hz := fun H => s30z H
    have hbl : ∃ l e, blV r C U D = .tup [l, .int .i64 e] ∧ ∀ H, call1 T 40 (.fn 17) [l, l] H = some (.bool true, H) := by
      unfold blV
      cases vB r C U D with
      | false => exact ⟨_, _, rfl, fun H => s17zz 39 H⟩
      | true => exact ⟨_, _, rfl, fun H => s17b 39 H _ (Nat.le_trans (upto_len _ _) ln16)⟩
    obtain ⟨l, e3, q3, h17⟩ := hbl
    rw [q3] at h15 h38
    rcases nt_eq r C U D x (decide (lo.tmod 2 = 0)) with ⟨e, q⟩ | ⟨C', e, n1, n2, n3, q⟩
    · rcases cl_eq r C U D w lo hi le with ⟨e2, q2⟩ | ⟨r'', C'', U'', D'', e2, m1, m2, m3, q2⟩
      · rw [q2] at h14 h37
        simp only [c8, heap0, go_sem, Int.cast_ofNat_Int, Int.reduceToNat, Bool.true_xor, Bool.false_xor, Bool.xor_true, Bool.xor_false, Nat.reduceAdd, Nat.reduceBEq, Nat.reduceLeDiff, Nat.reduceLT, Nat.reduceMul, Nat.reduceSub, Int.reduceEq, Int.reduceLT, Int.reduceLE, Int.reduceNeg, h10, h11, h13, h12, h35, h36, h14, h37, h15, h38, h39, hz, h17, k1, q]
      · rw [q2] at h14 h37
        have hs2 := fun H => s30 39 H r'' C'' U'' D'' true true true r'' C'' U'' D'' false false false m1 m2 m3
        rw [sm_self] at hs2
        simp only [c8, heap0, go_sem, Int.cast_ofNat_Int, Int.reduceToNat, Bool.true_xor, Bool.false_xor, Bool.xor_true, Bool.xor_false, Nat.reduceAdd, Nat.reduceBEq, Nat.reduceLeDiff, Nat.reduceLT, Nat.reduceMul, Nat.reduceSub, Int.reduceEq, Int.reduceLT, Int.reduceLE, Int.reduceNeg, h10, h11, h13, h12, h35, h36, h14, h37, h15, h38, h39, hz, hs2, h17, k1, q]
    · have hs1 := fun H => s30 39 H r C' U D true true true r C' U D false false false n1 n2 n3
      rw [sm_self] at hs1
      rcases cl_eq r C U D w lo hi le with ⟨e2, q2⟩ | ⟨r'', C'', U'', D'', e2, m1, m2, m3, q2⟩
      · rw [q2] at h14 h37
        simp only [c8, heap0, go_sem, Int.cast_ofNat_Int, Int.reduceToNat, Bool.true_xor, Bool.false_xor, Bool.xor_true, Bool.xor_false, Nat.reduceAdd, Nat.reduceBEq, Nat.reduceLeDiff, Nat.reduceLT, Nat.reduceMul, Nat.reduceSub, Int.reduceEq, Int.reduceLT, Int.reduceLE, Int.reduceNeg, h10, h11, h13, h12, h35, h36, h14, h37, h15, h38, h39, hz, hs1, h17, k1, q]
      · rw [q2] at h14 h37
        have hs2 := fun H => s30 39 H r'' C'' U'' D'' true true true r'' C'' U'' D'' false false false m1 m2 m3
        rw [sm_self] at hs2
        simp only [c8, heap0, go_sem, Int.cast_ofNat_Int, Int.reduceToNat, Bool.true_xor, Bool.false_xor, Bool.xor_true, Bool.xor_false, Nat.reduceAdd, Nat.reduceBEq, Nat.reduceLeDiff, Nat.reduceLT, Nat.reduceMul, Nat.reduceSub, Int.reduceEq, Int.reduceLT, Int.reduceLE, Int.reduceNeg, h10, h11, h13, h12, h35, h36, h14, h37, h15, h38, h39, hz, hs1, hs2, h17, k1, q]
theorem law8 (xs : List SV) (h : FitsAll [(true, lrT), (true, [.int .i64, .int .i64, .int .i64, .int .i64]), (false, [.int .i64])] xs) : ∃ m, call1 T m (.fn 8) xs heap0 = some (.bool true, heap0) := by
  obtain ⟨x1, r1, rfl, h1, h⟩ := fitsAll_cons h
  obtain ⟨x2, r2, rfl, h2, h⟩ := fitsAll_cons h
  obtain ⟨x3, r3, rfl, h3, h⟩ := fitsAll_cons h
  cases fitsAll_nil h
  obtain ⟨r, C, U, D, f1, f2, f3, rfl, _⟩ := lr_of h1
  obtain ⟨cs, rfl, k⟩ := fitsA_agg h2
  obtain ⟨a, _, rfl, _, k⟩ := fitsL_i k
  obtain ⟨b, _, rfl, _, k⟩ := fitsL_i k
  obtain ⟨c, _, rfl, _, k⟩ := fitsL_i k
  obtain ⟨d, _, rfl, _, k⟩ := fitsL_i k
  cases fitsL_nil' k
  obtain ⟨x, rfl, _⟩ := fits_int (fitsA_one h3)
  exact ⟨41, s8 r C U D f1 f2 f3 a b c d x⟩
end Go.Sh
namespace Go.Sh
set_option linter.unusedSectionVars false
set_option linter.unnecessarySimpa false
set_option linter.unusedVariables false
set_option linter.unusedSimpArgs false
set_option maxRecDepth 100000
set_option maxHeartbeats 4000000
/-! ### What closing a round leaves -/
theorem take_not {A : Type} {S : List A} (hn : S.Nodup) {m : Nat} {i : A} (h : S[m]? = some i) : i ∉ S.take m := by
  intro hmem
  obtain ⟨q, hq⟩ := List.getElem?_of_mem hmem
  have hqm : q < m := by have := (List.getElem?_eq_some_iff.1 hq).1; simp at this; omega
  rw [List.getElem?_take, if_pos hqm] at hq
  have := (List.getElem?_inj (List.getElem?_eq_some_iff.1 hq).1 hn).1 (hq.trans h.symm)
  omega
theorem pk_at2 {r : Int} {U D : List Int} {S : List Nat} (hU : U.length = 16) (hD : D.length = 16) (hS : ∀ a ∈ S, a < 16) (hn : S.Nodup) : ∀ m j,
    (j ∉ S.take m → uA (pk r U D S m).1 j = uA U j ∧ uA (pk r U D S m).2 j = uA D j) ∧ (j ∈ S.take m → uA (pk r U D S m).1 j = w64 (w64 (r + 1) + nh (uA D j)) ∧ uA (pk r U D S m).2 j = nh (uA D j))
  | 0, j => by simp [pk]
  | m + 1, j => by
    have ih := fun j => pk_at2 (r := r) hU hD hS hn m j
    have hl := pk_len1 r U D S m
    have hl2 := pk_len2 r U D S m
    simp only [pk]
    cases h : S[m]? with
    | none => rw [List.take_add_one, h]; simpa using ih j
    | some i =>
      have hi := hS i (List.mem_of_getElem? h)
      have hni := ((ih i).1 (take_not hn h)).2
      rw [take_snoc h]
      simp only [updU, updD, List.mem_append, List.mem_singleton]
      rw [uA_set (by omega), uA_set (by omega), hni]
      by_cases hij : i = j
      · subst hij
        simp
      · simp only [if_neg hij]
        have hji : ¬ j = i := fun h => hij h.symm
        simp only [hji, or_false]
        exact ih j
theorem hB_nh {d : Int} (h : hB d = true) : hB (nh d) = true := by
  simp only [hB, Bool.or_eq_true, decide_eq_true_eq] at h
  rcases h with ((((((h | h) | h) | h) | h) | h) | h) | h <;> subst h <;> decide +kernel
theorem fr_blk (U : List Int) (h : U.length = 16) : ((blk U).length : Int) = 16 - fr U := by
  have key : ∀ i, i ≤ 16 → (upto (fun i => !decide (uA U i = 0)) i).length + (U.take i).count 0 = i := by
    intro i
    induction i with
    | zero => intro _; simp [upto]
    | succ i ih =>
      intro hi
      have ih := ih (by omega)
      obtain ⟨u, hu⟩ := getS (l := U) (i := i) (by omega)
      have hc := count_take hu
      cases hz : decide (u = 0) with
      | true =>
        rw [upto_no (by simp only [uA_of hu, hz]; rfl)]
        rw [hz, cond_true] at hc
        omega
      | false =>
        rw [upto_yes (by simp only [uA_of hu, hz]; rfl), List.length_append]
        rw [hz, cond_false] at hc
        simp only [List.length_cons, List.length_nil]
        omega
  have := key 16 (by omega)
  rw [List.take_of_length_le (by omega)] at this
  unfold blk fr
  omega
structure Closed (r : Int) (C : List (Int × Int)) (U D : List Int) (w lo hi le : Int) (U' D' : List Int) : Prop where
  valid : vB (r + 1) C0 U' D' = true
  keep : ∀ j, j < 16 → uA U' j ≠ 0 → uA U j ≠ 0 ∨ (badI C U w lo j = true ∧ uA U' j = r + 1 + uA D' j)
  enough : le ≤ fr U → le ≤ fr U'
  rest : ∀ j, j < 16 → badI C U w lo j = false → uA U' j = (if uA U j ≤ r + 1 then 0 else uA U j)
theorem okI_uA {r C U D} {i : Nat} (hC : C.length = 16) (hU : U.length = 16) (hD : D.length = 16) (hi : i < 16) : okI r C U D i = okAt r (cA C i) (uA U i) (uA D i) := by
  obtain ⟨c, hc⟩ := getS (l := C) (i := i) (by omega)
  obtain ⟨u, hu⟩ := getS (l := U) (i := i) (by omega)
  obtain ⟨d, hd⟩ := getS (l := D) (i := i) (by omega)
  simp only [okI, hc, hu, hd, cA_of hc, uA_of hu, uA_of hd]
theorem okAt_iff {r : Int} {c : Int × Int} {u d : Int} (h0 : 0 ≤ r) (h1 : r ≤ 1073741824) : okAt r c u d = true ↔ cB c.1 c.2 = true ∧ hB d = true ∧ (u = 0 ∨ r < u ∧ u ≤ r + 64 ∧ d ≠ 0) := by
  have : w64 (r + 64) = r + 64 := w64_id (by omega) (by omega)
  simp only [okAt, this, Bool.and_eq_true, Bool.not_eq_true', Bool.and_eq_false_iff, Bool.not_eq_false', Bool.or_eq_false_iff, decide_eq_true_eq, decide_eq_false_iff_not, and_assoc]
  constructor
  · rintro ⟨a, b, c | ⟨c, d, e⟩⟩
    · exact ⟨a, b, .inl c⟩
    · exact ⟨a, b, .inr ⟨by omega, by omega, e⟩⟩
  · rintro ⟨a, b, c | ⟨c, d, e⟩⟩
    · exact ⟨a, b, .inl c⟩
    · exact ⟨a, b, .inr ⟨by omega, by omega, e⟩⟩
theorem uA_map {f : Int → Int} {U : List Int} {j : Nat} (h : j < U.length) : uA (U.map f) j = f (uA U j) := by
  obtain ⟨u, hu⟩ := getS h
  rw [uA_of hu, uA_of (u := f u) (by simp [hu])]
theorem closed_ok {r C U D w lo hi le} (hv : vB r C U D = true) (hr : rightB w lo hi le = true) (h1 : decide (r = 1073741824) = false) : Closed r C U D w lo hi le (clU r C U D w lo le) (clD r C U D w lo hi le) := by
  obtain ⟨⟨r0, r1, hC, hU, hD⟩, hok⟩ := vB_iff.1 hv
  have h1' := of_decide_eq_false h1
  simp only [rightB, Bool.and_eq_true, decide_eq_true_eq] at hr
  have hw1 : w64 (r + 1) = r + 1 := w64_id (by omega) (by omega)
  have hlU := clU_len (r := r) (C := C) (D := D) (w := w) (lo := lo) (le := le) hU
  have hlD := clD_len (r := r) (C := C) (U := U) (w := w) (lo := lo) (hi := hi) (le := le) hD
  have hat := fun j => pk_at2 (r := r) hU hD (S := srtB C U w lo) (fun a ha => srtB_mem ha) (srtB_nodup C U w lo) (kI (srtB C U w lo) U le) j
  have hfr := pk_fr (D := D) r0 r1 hU (S := srtB C U w lo) (fun a ha => srtB_mem ha) (fun a ha => by
          have := (srtB_iff.1 ha).2
          simp only [badI, Bool.and_eq_true, decide_eq_true_eq] at this
          exact this.1.1) (srtB_nodup C U w lo) (kI (srtB C U w lo) U le) (kI_le _ _ _)
  have eU : ∀ j, j < 16 → uA (clU r C U D w lo le) j = fU (r + 1) (uA (pk r U D (srtB C U w lo) (kI (srtB C U w lo) U le)).1 j) := fun j hj => by
    unfold clU; rw [uA_map (by rw [pk_len1]; omega), hw1]
  have eD : ∀ j, j < 16 → uA (clD r C U D w lo hi le) j = bif prvI C U w lo hi j then 0 else uA (pk r U D (srtB C U w lo) (kI (srtB C U w lo) U le)).2 j := fun j hj => by
    obtain ⟨d, hd⟩ := getS (l := (pk r U D (srtB C U w lo) (kI (srtB C U w lo) U le)).2) (i := j) (by rw [pk_len2]; omega)
    unfold clD; rw [uA_of (zD_get hd), uA_of hd]
  have hold : ∀ j, j < 16 → hB (uA D j) = true ∧ (uA U j = 0 ∨ r < uA U j ∧ uA U j ≤ r + 64 ∧ uA D j ≠ 0) := fun j hj => by
    have := hok j hj
    rw [okI_uA hC hU hD hj, okAt_iff r0 r1] at this
    exact this.2
  have hpb : ∀ j, badI C U w lo j = true → prvI C U w lo hi j = false := fun j hb => by
    simp only [badI, Bool.and_eq_true, decide_eq_true_eq] at hb
    simp only [prvI, hb.2, decide_true, Bool.not_true, Bool.and_false, Bool.false_and]
  have hpu : ∀ j, prvI C U w lo hi j = true → uA U j = 0 := fun j hb => by
    simp only [prvI, Bool.and_eq_true, decide_eq_true_eq] at hb
    exact hb.1.1.1
  -- the two cases of a channel
  have pick : ∀ j, j < 16 → j ∈ (srtB C U w lo).take (kI (srtB C U w lo) U le) → badI C U w lo j = true ∧ uA (clU r C U D w lo le) j = r + 1 + nh (uA D j) ∧ uA (clD r C U D w lo hi le) j = nh (uA D j) := fun j hj hm => by
    have hb := (srtB_iff.1 (List.mem_of_mem_take hm)).2
    obtain ⟨a1, a2⟩ := (hat j).2 hm
    have hp := until_pos r0 r1 (uA D j)
    refine ⟨hb, ?_, ?_⟩
    · rw [eU j hj, a1, hp.1]
      have := nh_bd (uA D j)
      simp only [fU]
      rw [decide_eq_false (by omega), cond_false]
    · rw [eD j hj, hpb j hb, a2, cond_false]
  have stay : ∀ j, j < 16 → j ∉ (srtB C U w lo).take (kI (srtB C U w lo) U le) → uA (clU r C U D w lo le) j = fU (r + 1) (uA U j) ∧ uA (clD r C U D w lo hi le) j = bif prvI C U w lo hi j then 0 else uA D j := fun j hj hm => by
    obtain ⟨a1, a2⟩ := (hat j).1 hm
    rw [eU j hj, eD j hj, a1, a2]
    exact ⟨rfl, rfl⟩
  refine ⟨vB_iff.2 ⟨⟨by omega, by omega, C0_len, hlU, hlD⟩, fun j hj => ?_⟩, fun j hj hne => ?_, fun hle => ?_, fun j hj hb => ?_⟩
  · rw [okI_uA C0_len hlU hlD hj, okAt_iff (by omega) (by omega)]
    have hc0 : cB (cA C0 j).1 (cA C0 j).2 = true := by
      have : C0[j]? = some (0, 0) := by rw [C0, List.getElem?_replicate, if_pos hj]
      rw [cA_of this]; rfl
    obtain ⟨k1, k2⟩ := hold j hj
    refine ⟨hc0, ?_⟩
    by_cases hm : j ∈ (srtB C U w lo).take (kI (srtB C U w lo) U le)
    · obtain ⟨_, q1, q2⟩ := pick j hj hm
      have := nh_bd (uA D j)
      rw [q1, q2]
      exact ⟨hB_nh k1, .inr ⟨by omega, by omega, by omega⟩⟩
    · obtain ⟨q1, q2⟩ := stay j hj hm
      rw [q1, q2]
      cases hp : prvI C U w lo hi j with
      | true =>
        have := hpu j hp
        rw [this]
        exact ⟨rfl, .inl (by simp [fU])⟩
      | false =>
        simp only [cond_false]
        refine ⟨k1, ?_⟩
        simp only [fU]
        cases hq : decide (uA U j ≤ r + 1) with
        | true => exact .inl rfl
        | false =>
          have := of_decide_eq_false hq
          rcases k2 with k2 | ⟨k2, k3, k4⟩
          · omega
          · exact .inr ⟨by simp only [cond_false]; omega, by simp only [cond_false]; omega, k4⟩
  · by_cases hm : j ∈ (srtB C U w lo).take (kI (srtB C U w lo) U le)
    · obtain ⟨q0, q1, q2⟩ := pick j hj hm
      exact .inr ⟨q0, by rw [q1, q2]⟩
    · obtain ⟨q1, q2⟩ := stay j hj hm
      left
      intro hz
      rw [q1, hz] at hne
      exact hne (by simp [fU])
  · have e1 : fr (pk r U D (srtB C U w lo) (kI (srtB C U w lo) U le)).1 ≤ fr (clU r C U D w lo le) := by
      unfold fr clU
      have := List.count_le_count_map (l := (pk r U D (srtB C U w lo) (kI (srtB C U w lo) U le)).1) (f := fU (w64 (r + 1))) (x := 0)
      have e0 : fU (w64 (r + 1)) 0 = 0 := by simp [fU]
      rw [e0] at this
      omega
    have hf16 : 0 ≤ fr U ∧ fr U ≤ 16 := by
      have : U.count 0 ≤ 16 := hU ▸ List.count_le_length
      unfold fr; omega
    have hwf : w64 (fr U - le) = fr U - le := w64_id (by omega) (by omega)
    have hK : (kI (srtB C U w lo) U le : Int) = max 0 (min ((srtB C U w lo).length : Int) (fr U - le)) := by unfold kI; rw [hwf]; omega
    omega
  · have hm : j ∉ (srtB C U w lo).take (kI (srtB C U w lo) U le) := fun hm => by
      have := (srtB_iff.1 (List.mem_of_mem_take hm)).2
      rw [hb] at this; cases this
    obtain ⟨q1, q2⟩ := stay j hj hm
    rw [q1]
    unfold fU
    cases hq : decide (uA U j ≤ r + 1) with
    | true => rw [if_pos (of_decide_eq_true hq)]; rfl
    | false => rw [if_neg (of_decide_eq_false hq)]; rfl
end Go.Sh
