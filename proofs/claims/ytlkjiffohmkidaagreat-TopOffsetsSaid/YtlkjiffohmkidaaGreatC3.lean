

import Derived.Test.YtlkjiffohmkidaaGreatC2
namespace Go.Sh
set_option linter.unusedSectionVars false
set_option linter.unnecessarySimpa false
set_option linter.unusedVariables false
set_option linter.unusedSimpArgs false
set_option maxRecDepth 100000
set_option maxHeartbeats 4000000
namespace H12
abbrev ct (t k : Int) : SV := .agg [.int .i64 t, .int .i64 k]
def cB (t k : Int) : Bool := decide (0 ≤ k) && decide (k ≤ t) && decide (t ≤ 1073741824)
def cV (t k : Int) : Int := bif cB t k then 0 else 1
@[go_sem] theorem cV0 (t k) : decide (cV t k = 0) = cB t k := by unfold cV; cases cB t k <;> rfl
theorem s105 (n : Nat) (H : Heap) (t k : Int) : call1 T (n + 1) (.fn 105) [ct t k] H = some (.int .i64 (cV t k), H) := by
  refine call_pure e105 (by rfl) ?_
  simp only [c105, heap0, go_sem, Int.cast_ofNat_Int, Int.reduceToNat, Bool.true_xor, Bool.false_xor, Bool.xor_true, Bool.xor_false, Nat.reduceAdd, Nat.reduceBEq, Nat.reduceLeDiff, Nat.reduceLT, Nat.reduceMul, Nat.reduceSub, Int.reduceEq, Int.reduceLT, Int.reduceLE, Int.reduceNeg]
  repeat' (with_reducible refine fork_split (fun _ => ?_) (fun _ => ?_) <;> simp only [*, go_sem, Int.cast_ofNat_Int, Int.reduceToNat, Bool.true_xor, Bool.false_xor, Bool.xor_true, Bool.xor_false, Nat.reduceAdd, Nat.reduceBEq, Nat.reduceLeDiff, Nat.reduceLT, Nat.reduceMul, Nat.reduceSub, Int.reduceEq, Int.reduceLT, Int.reduceLE, Int.reduceNeg])
  all_goals (refine congrArg some (congrArg (SV.int .i64) ?_); simp only [cV, cB, Bool.cond_eq_ite, Bool.and_eq_true, decide_eq_true_eq]; simp only [decide_eq_true_eq, decide_eq_false_iff_not] at *; first | (rw [if_pos (by omega)]) | (rw [if_neg (by omega)]))
def adV (t k : Int) (a : Bool) : SV := bif cB t k then (bif decide (t = 1073741824) then .tup [ct 0 0, .int .i64 13] else .tup [ct (w64 (t + 1)) (bif a then w64 (k + 1) else k), .int .i64 0]) else .tup [ct 0 0, .int .i64 1]
theorem s55 (n : Nat) (H : Heap) (t k : Int) (a : Bool) : call1 T (n + 2) (.fn 55) [ct t k, .bool a] H = some (adV t k a, H) := by
  refine call_pure e55 (by rfl) ?_
  simp only [c55, heap0, go_sem, Int.cast_ofNat_Int, Int.reduceToNat, Bool.true_xor, Bool.false_xor, Bool.xor_true, Bool.xor_false, Nat.reduceAdd, Nat.reduceBEq, Nat.reduceLeDiff, Nat.reduceLT, Nat.reduceMul, Nat.reduceSub, Int.reduceEq, Int.reduceLT, Int.reduceLE, Int.reduceNeg, s105]
  cases h : cB t k with
  | false => simp only [go_sem, Int.cast_ofNat_Int, Int.reduceToNat, Bool.true_xor, Bool.false_xor, Bool.xor_true, Bool.xor_false, Nat.reduceAdd, Nat.reduceBEq, Nat.reduceLeDiff, Nat.reduceLT, Nat.reduceMul, Nat.reduceSub, Int.reduceEq, Int.reduceLT, Int.reduceLE, Int.reduceNeg, adV, h]
  | true =>
    simp only [go_sem, Int.cast_ofNat_Int, Int.reduceToNat, Bool.true_xor, Bool.false_xor, Bool.xor_true, Bool.xor_false, Nat.reduceAdd, Nat.reduceBEq, Nat.reduceLeDiff, Nat.reduceLT, Nat.reduceMul, Nat.reduceSub, Int.reduceEq, Int.reduceLT, Int.reduceLE, Int.reduceNeg, adV, h]
    cases h2 : decide (t = 1073741824) with
    | true => simp only [go_sem, Int.cast_ofNat_Int, Int.reduceToNat, Bool.true_xor, Bool.false_xor, Bool.xor_true, Bool.xor_false, Nat.reduceAdd, Nat.reduceBEq, Nat.reduceLeDiff, Nat.reduceLT, Nat.reduceMul, Nat.reduceSub, Int.reduceEq, Int.reduceLT, Int.reduceLE, Int.reduceNeg]
    | false => cases a <;> simp only [go_sem, Int.cast_ofNat_Int, Int.reduceToNat, Bool.true_xor, Bool.false_xor, Bool.xor_true, Bool.xor_false, Nat.reduceAdd, Nat.reduceBEq, Nat.reduceLeDiff, Nat.reduceLT, Nat.reduceMul, Nat.reduceSub, Int.reduceEq, Int.reduceLT, Int.reduceLE, Int.reduceNeg]
def rtV (t k : Int) : Int := if t = 0 then 0 else w64 ((w64 (1000 * k)).tdiv t)
theorem s107 (n : Nat) (H : Heap) (t k : Int) : call1 T (n + 1) (.fn 107) [ct t k] H = some (.int .i64 (rtV t k), H) := by
  refine call_pure e107 (by rfl) ?_
  simp only [c107, heap0, go_sem, Int.cast_ofNat_Int, Int.reduceToNat, Bool.true_xor, Bool.false_xor, Bool.xor_true, Bool.xor_false, Nat.reduceAdd, Nat.reduceBEq, Nat.reduceLeDiff, Nat.reduceLT, Nat.reduceMul, Nat.reduceSub, Int.reduceEq, Int.reduceLT, Int.reduceLE, Int.reduceNeg]
  by_cases h : t = 0
  · simp only [go_sem, Int.cast_ofNat_Int, Int.reduceToNat, Bool.true_xor, Bool.false_xor, Bool.xor_true, Bool.xor_false, Nat.reduceAdd, Nat.reduceBEq, Nat.reduceLeDiff, Nat.reduceLT, Nat.reduceMul, Nat.reduceSub, Int.reduceEq, Int.reduceLT, Int.reduceLE, Int.reduceNeg, h, rtV, decide_true, if_true]
  · simp only [go_sem, Int.cast_ofNat_Int, Int.reduceToNat, Bool.true_xor, Bool.false_xor, Bool.xor_true, Bool.xor_false, Nat.reduceAdd, Nat.reduceBEq, Nat.reduceLeDiff, Nat.reduceLT, Nat.reduceMul, Nat.reduceSub, Int.reduceEq, Int.reduceLT, Int.reduceLE, Int.reduceNeg, h, rtV, decide_false, if_false]
def raV (t k : Int) : SV := bif cB t k then .tup [.int .i64 (rtV t k), .int .i64 0] else .tup [.int .i64 0, .int .i64 1]
theorem cV_no {t k : Int} (h : cB t k = false) : cV t k = 1 := by simp only [cV, h, cond_false]
theorem cV_yes {t k : Int} (h : cB t k = true) : cV t k = 0 := by simp only [cV, h, cond_true]
def csI (t k : Int) : Int := if k = 0 then 65535 else min (w64 ((w64 (128 * t)).tdiv k)) 65535
def csV (t k : Int) : SV := bif cB t k then .tup [.int .i64 (csI t k), .int .i64 0] else .tup [.int .i64 0, .int .i64 1]
theorem s192 (n : Nat) (H : Heap) (a : Int) : call1 T (n + 1) (.fn 192) [.int .i64 a] H = some (.bool false, H) := by
  refine call_pure e192 (by rfl) ?_
  simp only [c192, heap0, go_sem, Int.cast_ofNat_Int, Int.reduceToNat, Bool.true_xor, Bool.false_xor, Bool.xor_true, Bool.xor_false, Nat.reduceAdd, Nat.reduceBEq, Nat.reduceLeDiff, Nat.reduceLT, Nat.reduceMul, Nat.reduceSub, Int.reduceEq, Int.reduceLT, Int.reduceLE, Int.reduceNeg]
def cmpI (a b : Int) : Int := if a < b then -1 else if b < a then 1 else 0
theorem s163 (n : Nat) (H : Heap) (a b : Int) : call1 T (n + 2) (.fn 163) [.int .i64 a, .int .i64 b] H = some (.int .i64 (cmpI a b), H) := by
  refine call_pure e163 (by rfl) ?_
  simp only [c163, heap0, go_sem, Int.cast_ofNat_Int, Int.reduceToNat, Bool.true_xor, Bool.false_xor, Bool.xor_true, Bool.xor_false, Nat.reduceAdd, Nat.reduceBEq, Nat.reduceLeDiff, Nat.reduceLT, Nat.reduceMul, Nat.reduceSub, Int.reduceEq, Int.reduceLT, Int.reduceLE, Int.reduceNeg, s192]
  repeat' (with_reducible refine fork_split (fun _ => ?_) (fun _ => ?_) <;> simp only [*, go_sem, Int.cast_ofNat_Int, Int.reduceToNat, Bool.true_xor, Bool.false_xor, Bool.xor_true, Bool.xor_false, Nat.reduceAdd, Nat.reduceBEq, Nat.reduceLeDiff, Nat.reduceLT, Nat.reduceMul, Nat.reduceSub, Int.reduceEq, Int.reduceLT, Int.reduceLE, Int.reduceNeg])
  all_goals simp_all [cmpI]
  all_goals omega
def prV (k t : Int) : Int := w64 (k * max t 1)
def lsR (t k u j : Int) : Bool := decide (prV k u < prV j t)
theorem cmp_neg (a b : Int) : decide (cmpI a b < 0) = decide (a < b) := by
  unfold cmpI
  split
  · rename_i h; simp [h]
  · split
    · rename_i h h2; simp [h]
    · rename_i h h2; simp [h]
theorem s110 (n : Nat) (H : Heap) (t k u j : Int) : call1 T (n + 3) (.fn 110) [ct t k, ct u j] H = some (.int .i64 (cmpI (prV k u) (prV j t)), H) := by
  refine call_pure e110 (by rfl) ?_
  simp only [c110, heap0, go_sem, Int.cast_ofNat_Int, Int.reduceToNat, Bool.true_xor, Bool.false_xor, Bool.xor_true, Bool.xor_false, Nat.reduceAdd, Nat.reduceBEq, Nat.reduceLeDiff, Nat.reduceLT, Nat.reduceMul, Nat.reduceSub, Int.reduceEq, Int.reduceLT, Int.reduceLE, Int.reduceNeg, s163]
  rfl
def lsB (t k u j : Int) : Bool := cB t k && cB u j && lsR t k u j
theorem ad_eq (t k : Int) (a : Bool) : ∃ x y e, adV t k a = .tup [ct x y, .int .i64 e] := by
  unfold adV
  cases cB t k
  · exact ⟨_, _, _, rfl⟩
  · cases decide (t = 1073741824)
    · exact ⟨_, _, _, rfl⟩
    · exact ⟨_, _, _, rfl⟩
theorem ra_eq (t k : Int) : ∃ x e, raV t k = .tup [.int .i64 x, .int .i64 e] := by
  unfold raV; cases cB t k <;> exact ⟨_, _, rfl⟩
theorem cs_eq (t k : Int) : ∃ x e, csV t k = .tup [.int .i64 x, .int .i64 e] := by
  unfold csV; cases cB t k <;> exact ⟨_, _, rfl⟩
theorem pr_id {k t : Int} (h0 : 0 ≤ k) (h1 : k ≤ 1073741824) (h3 : t ≤ 1073741824) : prV k t = k * max t 1 := by
  have hm : k * max t 1 ≤ 1073741824 * max t 1 := Int.mul_le_mul_of_nonneg_right h1 (by omega)
  have hn : 0 ≤ k * max t 1 := Int.mul_nonneg h0 (by omega)
  exact w64_id (by omega) (by omega)
theorem cB_iff {t k : Int} : cB t k = true ↔ 0 ≤ k ∧ k ≤ t ∧ t ≤ 1073741824 := by
  simp only [cB, Bool.and_eq_true, decide_eq_true_eq]; omega
theorem ls_iff {t k u j : Int} (h : cB t k = true) (h2 : cB u j = true) : lsB t k u j = true ↔ k * max u 1 < j * max t 1 := by
  have g := cB_iff.1 h
  have g2 := cB_iff.1 h2
  simp only [lsB, h, h2, lsR, Bool.true_and, decide_eq_true_eq, pr_id g.1 (by omega : k ≤ 1073741824) (by omega : u ≤ 1073741824), pr_id g2.1 (by omega : j ≤ 1073741824) (by omega : t ≤ 1073741824)]
theorem ls_ok {t k u j : Int} (h : lsB t k u j = true) : cB t k = true ∧ cB u j = true := by
  simp only [lsB, Bool.and_eq_true] at h; exact h.1
theorem ls_self (t k : Int) : lsB t k t k = false := by
  rw [Bool.eq_false_iff]; intro h
  have := (ls_iff (ls_ok h).1 (ls_ok h).2).1 h
  omega
theorem ls_asym {t k u j : Int} (h : lsB t k u j = true) : lsB u j t k = false := by
  rw [Bool.eq_false_iff]; intro h'
  have := (ls_iff (ls_ok h).1 (ls_ok h).2).1 h
  have := (ls_iff (ls_ok h).2 (ls_ok h).1).1 h'
  omega
theorem ls_trans {t k u j v i : Int} (h : lsB t k u j = true) (h2 : lsB u j v i = true) : lsB t k v i = true := by
  have o1 := ls_ok h
  have o2 := ls_ok h2
  have a := (ls_iff o1.1 o1.2).1 h
  have b := (ls_iff o2.1 o2.2).1 h2
  refine (ls_iff o1.1 o2.2).2 ?_
  have p1 : (0 : Int) < max t 1 := by omega
  have p2 : (0 : Int) < max u 1 := by omega
  have p3 : (0 : Int) < max v 1 := by omega
  generalize max t 1 = A at *
  generalize max u 1 = B at *
  generalize max v 1 = C at *
  have e1 : k * B * C < j * A * C := Int.mul_lt_mul_of_pos_right a p3
  have e2 : j * C * A < i * B * A := Int.mul_lt_mul_of_pos_right b p1
  have e3 : j * A * C = j * C * A := by rw [Int.mul_assoc, Int.mul_assoc, Int.mul_comm A C]
  have e4 : (k * C) * B < (i * A) * B := by
    have : (k * C) * B = k * B * C := by rw [Int.mul_assoc, Int.mul_assoc, Int.mul_comm B C]
    have : (i * A) * B = i * B * A := by rw [Int.mul_assoc, Int.mul_assoc, Int.mul_comm A B]
    omega
  exact Int.lt_of_mul_lt_mul_right e4 (by omega)
theorem cs_id {t k : Int} (h : cB t k = true) (hk : k ≠ 0) : csI t k = min (128 * t / k) 65535 := by
  have g := cB_iff.1 h
  have hn : 0 ≤ 128 * t / k := Int.ediv_nonneg (by omega) (by omega)
  have hl : 128 * t / k ≤ 128 * t := Int.ediv_le_self _ (by omega)
  simp only [csI, hk, if_false]
  rw [w64_id (n := 128 * t) (by omega) (by omega), Int.tdiv_eq_ediv_of_nonneg (by omega), w64_id (by omega) (by omega)]
theorem cs_le (t k : Int) : csI t k ≤ 65535 := by unfold csI; split <;> omega
theorem cs_ge {t k : Int} (h : cB t k = true) : 128 ≤ csI t k := by
  by_cases hk : k = 0
  · simp only [csI, hk, if_true]; omega
  · have g := cB_iff.1 h
    rw [cs_id h hk]
    have : 128 ≤ 128 * t / k := (Int.le_ediv_iff_mul_le (by omega)).2 (by omega)
    omega
theorem cs_more {t k : Int} (h : cB t k = true) (h2 : cB (t + 1) (k + 1) = true) : csI (t + 1) (k + 1) ≤ csI t k := by
  by_cases hk : k = 0
  · have e : csI t k = 65535 := by simp only [csI, hk, if_true]
    rw [e]; exact cs_le _ _
  · have g := cB_iff.1 h
    rw [cs_id h hk, cs_id h2 (by omega)]
    have : 128 * (t + 1) / (k + 1) ≤ 128 * t / k := by
      rw [Int.le_ediv_iff_mul_le (by omega)]
      have hq := Int.ediv_mul_le (128 * (t + 1)) (show k + 1 ≠ 0 by omega)
      generalize 128 * (t + 1) / (k + 1) = q at *
      have hkt : k * t ≤ k * t := Int.le_refl _
      have e1 : (q * k) * (k + 1) ≤ (128 * t) * (k + 1) := by
        have e2 : (q * k) * (k + 1) = (q * (k + 1)) * k := by rw [Int.mul_assoc, Int.mul_assoc, Int.mul_comm k (k + 1)]
        have e3 : (q * (k + 1)) * k ≤ (128 * (t + 1)) * k := Int.mul_le_mul_of_nonneg_right hq (by omega)
        have e4 : (128 * (t + 1)) * k = 128 * (t * k) + 128 * k := by rw [Int.mul_assoc, Int.add_mul, Int.one_mul, Int.mul_add]
        have e5 : (128 * t) * (k + 1) = 128 * (t * k) + 128 * t := by rw [Int.mul_assoc, Int.mul_add, Int.mul_one, Int.mul_add]
        omega
      exact Int.le_of_mul_le_mul_right e1 (by omega)
    omega
theorem cs_less {t k : Int} (h : cB t k = true) (h2 : cB (t + 1) k = true) : csI t k ≤ csI (t + 1) k := by
  by_cases hk : k = 0
  · simp only [csI, hk, if_true]; omega
  · have g := cB_iff.1 h
    rw [cs_id h hk, cs_id h2 hk]
    have : 128 * t / k ≤ 128 * (t + 1) / k := Int.ediv_le_ediv (by omega) (by omega)
    omega
theorem ls_more {t k : Int} (h : cB t k = true) (h2 : cB (t + 1) (k + 1) = true) : lsB (t + 1) (k + 1) t k = false := by
  rw [Bool.eq_false_iff]; intro hl
  have := (ls_iff h2 h).1 hl
  have g := cB_iff.1 h
  have e1 : (k + 1) * max t 1 = k * max t 1 + max t 1 := by rw [Int.add_mul, Int.one_mul]
  have e2 : max (t + 1) 1 = t + 1 := by omega
  rw [e2, e1, Int.mul_add, Int.mul_one] at this
  rcases Int.lt_or_le 0 t with ht | ht
  · rw [Int.max_eq_left (by omega : (1 : Int) ≤ t)] at this; omega
  · obtain rfl : t = 0 := by omega
    obtain rfl : k = 0 := by omega
    omega
theorem ls_less {t k : Int} (h : cB t k = true) (h2 : cB (t + 1) k = true) : lsB t k (t + 1) k = false := by
  rw [Bool.eq_false_iff]; intro hl
  have := (ls_iff h h2).1 hl
  have g := cB_iff.1 h
  have : k * max t 1 ≤ k * max (t + 1) 1 := Int.mul_le_mul_of_nonneg_left (by omega) g.1
  omega
theorem ct_of {x : SV} (h : FitsA (true, [.int .i64, .int .i64]) x) : ∃ t k, x = ct t k := by
  obtain ⟨cs, rfl, k⟩ := fitsA_agg h
  obtain ⟨a, _, rfl, _, k⟩ := fitsL_i k
  obtain ⟨b, _, rfl, _, k⟩ := fitsL_i k
  cases fitsL_nil' k
  exact ⟨a, b, rfl⟩
def cS (C : List (Int × Int)) : List (List SV) := C.map fun c => [.int .i64 c.1, .int .i64 c.2]
@[go_sem] theorem cS_len (C) : (cS C).length = C.length := by simp [cS]
@[go_sem] theorem cS_get (C) (i : Nat) : (cS C)[i]? = (C[i]?).map (fun c => [.int .i64 c.1, .int .i64 c.2]) := by simp [cS]
theorem cS_still (C) : Still (cS C) := by
  intro cs hcs c hc
  simp only [cS, List.mem_map] at hcs
  obtain ⟨b, _, rfl⟩ := hcs
  simp only [List.mem_cons, List.not_mem_nil, or_false] at hc
  rcases hc with rfl | rfl <;> exact ⟨by simp [SV.refs], fun N H d => by simp only [frz]⟩
theorem cS_set (C : List (Int × Int)) (i : Nat) (c : Int × Int) : (cS C).set i [.int .i64 c.1, .int .i64 c.2] = cS (C.set i c) := by simp [cS, List.map_set]
theorem iS_set (C : List Int) (i : Nat) (c : Int) : (iS C).set i [.int .i64 c] = iS (C.set i c) := by simp [iS, List.map_set]
abbrev lr (r : Int) (C : List (Int × Int)) (U D : List Int) (f g h : Bool) : SV := .agg [.int .i64 r, .lst 2 (cS C) f, .lst 1 (iS U) g, .lst 1 (iS D) h]
abbrev lz : SV := .agg [.int .i64 0, .lst 0 [] true, .lst 0 [] true, .lst 0 [] true]
/-! ### hold -/
def hB (n : Int) : Bool := decide (n = 0) || decide (n = 1) || decide (n = 2) || decide (n = 4) || decide (n = 8) || decide (n = 16) || decide (n = 32) || decide (n = 64)
theorem hold_and : ∀ n : Fin 65, decide (w64 ((BitVec.ofInt 64 (n.val : Int) &&& BitVec.ofInt 64 (w64 ((n.val : Int) - 1))).toNat : Int) = 0) = hB n.val := by decide +kernel
theorem s106 (n : Nat) (H : Heap) (x : Int) : call1 T (n + 1) (.fn 106) [.int .i64 x] H = some (.bool (hB x), H) := by
  refine call_pure e106 (by rfl) ?_
  cases h1 : decide (0 ≤ x) with
  | false =>
    have : hB x = false := by simp only [decide_eq_false_iff_not] at h1; simp [hB]; omega
    simp only [c106, heap0, go_sem, Int.cast_ofNat_Int, Int.reduceToNat, Bool.true_xor, Bool.false_xor, Bool.xor_true, Bool.xor_false, Nat.reduceAdd, Nat.reduceBEq, Nat.reduceLeDiff, Nat.reduceLT, Nat.reduceMul, Nat.reduceSub, Int.reduceEq, Int.reduceLT, Int.reduceLE, Int.reduceNeg, h1, this]
  | true =>
    cases h2 : decide (x ≤ 64) with
    | false =>
      have : hB x = false := by simp only [decide_eq_false_iff_not] at h2; simp [hB]; omega
      simp only [c106, heap0, go_sem, Int.cast_ofNat_Int, Int.reduceToNat, Bool.true_xor, Bool.false_xor, Bool.xor_true, Bool.xor_false, Nat.reduceAdd, Nat.reduceBEq, Nat.reduceLeDiff, Nat.reduceLT, Nat.reduceMul, Nat.reduceSub, Int.reduceEq, Int.reduceLT, Int.reduceLE, Int.reduceNeg, h1, h2, this]
    | true =>
      have h1' := of_decide_eq_true h1
      have h2' := of_decide_eq_true h2
      have := hold_and ⟨x.toNat, by omega⟩
      rw [show ((⟨x.toNat, by omega⟩ : Fin 65).val : Int) = x from Int.toNat_of_nonneg h1'] at this
      simp only [c106, heap0, go_sem, Int.cast_ofNat_Int, Int.reduceToNat, Bool.true_xor, Bool.false_xor, Bool.xor_true, Bool.xor_false, Nat.reduceAdd, Nat.reduceBEq, Nat.reduceLeDiff, Nat.reduceLT, Nat.reduceMul, Nat.reduceSub, Int.reduceEq, Int.reduceLT, Int.reduceLE, Int.reduceNeg, h1, h2]
      exact congrArg (fun b => some (SV.bool b)) this
def okAt (r : Int) (c : Int × Int) (u d : Int) : Bool := cB c.1 c.2 && hB d && !(!decide (u = 0) && (decide (u ≤ r) || decide (w64 (r + 64) < u) || decide (d = 0)))
def okI (r : Int) (C : List (Int × Int)) (U D : List Int) (i : Nat) : Bool := match C[i]?, U[i]?, D[i]? with
  | some c, some u, some d => okAt r c u d
  | _, _, _ => false
def lenB (r : Int) (C : List (Int × Int)) (U D : List Int) : Bool := decide (0 ≤ r) && decide (r ≤ 1073741824) && decide (C.length = 16) && decide (U.length = 16) && decide (D.length = 16)
def vB (r : Int) (C : List (Int × Int)) (U D : List Int) : Bool := lenB r C U D && (List.range 16).all (okI r C U D)
def vI (r : Int) (C : List (Int × Int)) (U D : List Int) : Int := bif vB r C U D then 0 else 1
@[go_sem] theorem vI0 (r C U D) : decide (vI r C U D = 0) = vB r C U D := by unfold vI; cases vB r C U D <;> rfl
theorem vI_no {r C U D} (h : vB r C U D = false) : vI r C U D = 1 := by simp only [vI, h, cond_false]
theorem vI_yes {r C U D} (h : vB r C U D = true) : vI r C U D = 0 := by simp only [vI, h, cond_true]
theorem vB_at {r C U D} {i : Nat} (hi : i < 16) (h : okI r C U D i = false) : vB r C U D = false := by
  simp only [vB, Bool.and_eq_false_imp]
  intro _
  rw [List.all_eq_false]
  exact ⟨i, by simp [hi], by simp [h]⟩
theorem vB_all {r C U D} (h1 : lenB r C U D = true) (h : ∀ i, i < 16 → okI r C U D i = true) : vB r C U D = true := by
  simp only [vB, h1, Bool.true_and, List.all_eq_true, List.mem_range]
  exact h
@[go_sem] theorem lenD (n : Nat) : decide ((n : Int) = 16) = decide (n = 16) := by
  rw [Bool.eq_iff_iff, decide_eq_true_eq, decide_eq_true_eq]; omega
theorem s54 (n : Nat) (H : Heap) (r C U D f g h) : call1 T (n + 2) (.fn 54) [lr r C U D f g h] H = some (.int .i64 (vI r C U D), H) := by
  refine call_pure e54 (by rfl) ?_
  cases hl : lenB r C U D with
  | false =>
    have hv : vI r C U D = 1 := vI_no (by simp only [vB, hl, Bool.false_and])
    simp only [c54, heap0, go_sem, Int.cast_ofNat_Int, Int.reduceToNat, Bool.true_xor, Bool.false_xor, Bool.xor_true, Bool.xor_false, Nat.reduceAdd, Nat.reduceBEq, Nat.reduceLeDiff, Nat.reduceLT, Nat.reduceMul, Nat.reduceSub, Int.reduceEq, Int.reduceLT, Int.reduceLE, Int.reduceNeg, hv, lenD]
    cases h1 : decide (r < 0) with
    | true => simp only [*, s105, s106, go_sem, Int.cast_ofNat_Int, Int.reduceToNat, Bool.true_xor, Bool.false_xor, Bool.xor_true, Bool.xor_false, Nat.reduceAdd, Nat.reduceBEq, Nat.reduceLeDiff, Nat.reduceLT, Nat.reduceMul, Nat.reduceSub, Int.reduceEq, Int.reduceLT, Int.reduceLE, Int.reduceNeg]
    | false =>
      cases h2 : decide (1073741824 < r) with
      | true => simp only [*, s105, s106, go_sem, Int.cast_ofNat_Int, Int.reduceToNat, Bool.true_xor, Bool.false_xor, Bool.xor_true, Bool.xor_false, Nat.reduceAdd, Nat.reduceBEq, Nat.reduceLeDiff, Nat.reduceLT, Nat.reduceMul, Nat.reduceSub, Int.reduceEq, Int.reduceLT, Int.reduceLE, Int.reduceNeg]
      | false =>
        cases h3 : decide (C.length = 16) with
        | false => simp only [*, s105, s106, go_sem, Int.cast_ofNat_Int, Int.reduceToNat, Bool.true_xor, Bool.false_xor, Bool.xor_true, Bool.xor_false, Nat.reduceAdd, Nat.reduceBEq, Nat.reduceLeDiff, Nat.reduceLT, Nat.reduceMul, Nat.reduceSub, Int.reduceEq, Int.reduceLT, Int.reduceLE, Int.reduceNeg]
        | true =>
          cases h4 : decide (U.length = 16) with
          | false => simp only [*, s105, s106, go_sem, Int.cast_ofNat_Int, Int.reduceToNat, Bool.true_xor, Bool.false_xor, Bool.xor_true, Bool.xor_false, Nat.reduceAdd, Nat.reduceBEq, Nat.reduceLeDiff, Nat.reduceLT, Nat.reduceMul, Nat.reduceSub, Int.reduceEq, Int.reduceLT, Int.reduceLE, Int.reduceNeg]
          | true =>
            have h5 : decide (D.length = 16) = false := by
              rw [Bool.eq_false_iff]; intro h5
              simp only [decide_eq_true_eq, decide_eq_false_iff_not] at h1 h2 h3 h4 h5
              simp only [lenB, Bool.and_eq_false_iff, decide_eq_false_iff_not] at hl
              omega
            simp only [*, s105, s106, go_sem, Int.cast_ofNat_Int, Int.reduceToNat, Bool.true_xor, Bool.false_xor, Bool.xor_true, Bool.xor_false, Nat.reduceAdd, Nat.reduceBEq, Nat.reduceLeDiff, Nat.reduceLT, Nat.reduceMul, Nat.reduceSub, Int.reduceEq, Int.reduceLT, Int.reduceLE, Int.reduceNeg, h5]
  | true =>
    have hl' := hl
    simp only [lenB, Bool.and_eq_true, decide_eq_true_eq] at hl'
    obtain ⟨⟨⟨⟨r0, r1⟩, hC⟩, hU⟩, hD⟩ := hl'
    have g0 : decide (r < 0) = false := decide_eq_false (by omega)
    have g1 : decide (1073741824 < r) = false := decide_eq_false (by omega)
    simp only [c54, heap0, go_sem, Int.cast_ofNat_Int, Int.reduceToNat, Bool.true_xor, Bool.false_xor, Bool.xor_true, Bool.xor_false, Nat.reduceAdd, Nat.reduceBEq, Nat.reduceLeDiff, Nat.reduceLT, Nat.reduceMul, Nat.reduceSub, Int.reduceEq, Int.reduceLT, Int.reduceLE, Int.reduceNeg, lenD, g0, g1, hC, hU, hD]
    refine loop_rule (fun i => ([(1, .ptr 0 0 0 0), (33, .lst 2 (cS C) f), (34, .int .i64 16), (35, .int .i64 i)], ⟨[.box [.int .i64 r, .lst 2 (cS C) f, .lst 1 (iS U) g, .lst 1 (iS D) h]], [], 0⟩))
      (fun i => ∀ j, j < i → okI r C U D j = true) 16 (by simp only [*, s105, s106, go_sem, Int.cast_ofNat_Int, Int.reduceToNat, Bool.true_xor, Bool.false_xor, Bool.xor_true, Bool.xor_false, Nat.reduceAdd, Nat.reduceBEq, Nat.reduceLeDiff, Nat.reduceLT, Nat.reduceMul, Nat.reduceSub, Int.reduceEq, Int.reduceLT, Int.reduceLE, Int.reduceNeg]; rfl) (fun j h => by omega) ?_
    intro i hi hP
    rcases Nat.lt_or_ge i 16 with hlt | hge
    · obtain ⟨c, hc⟩ := getS (l := C) (i := i) (by omega)
      obtain ⟨u, hu⟩ := getS (l := U) (i := i) (by omega)
      obtain ⟨d, hd⟩ := getS (l := D) (i := i) (by omega)
      have hok : okI r C U D i = okAt r c u d := by simp only [okI, hc, hu, hd]
      have hw : w64 ((i : Int) + 1) = ((i + 1 : Nat) : Int) := w64_suc (n := 16) hlt (by decide)
      have hlt' : decide ((i : Int) < 16) = true := decide_eq_true (by omega)
      have hlC : i < C.length := by omega
      have hlU : i < U.length := by omega
      have hlD : i < D.length := by omega
      have fin : okAt r c u d = false → vI r C U D = 1 := fun h => vI_no (vB_at hlt (by rw [hok, h]))
      have go : okAt r c u d = true → ∀ j, j < i + 1 → okI r C U D j = true := fun h j hj => by
        rcases Nat.lt_or_ge j i with h3 | h3
        · exact hP j h3
        · obtain rfl : j = i := by omega
          rw [hok, h]
      simp only [*, s105, s106, go_sem, Int.cast_ofNat_Int, Int.reduceToNat, Bool.true_xor, Bool.false_xor, Bool.xor_true, Bool.xor_false, Nat.reduceAdd, Nat.reduceBEq, Nat.reduceLeDiff, Nat.reduceLT, Nat.reduceMul, Nat.reduceSub, Int.reduceEq, Int.reduceLT, Int.reduceLE, Int.reduceNeg, hlt', hlC, hlU, hlD, hc, hu, hd, s105, s106, hw]
      cases k1 : cB c.1 c.2 with
      | false => simp only [*, s105, s106, go_sem, Int.cast_ofNat_Int, Int.reduceToNat, Bool.true_xor, Bool.false_xor, Bool.xor_true, Bool.xor_false, Nat.reduceAdd, Nat.reduceBEq, Nat.reduceLeDiff, Nat.reduceLT, Nat.reduceMul, Nat.reduceSub, Int.reduceEq, Int.reduceLT, Int.reduceLE, Int.reduceNeg, fin (by simp only [okAt, k1, Bool.false_and])]
      | true =>
        cases k2 : hB d with
        | false => simp only [*, s105, s106, go_sem, Int.cast_ofNat_Int, Int.reduceToNat, Bool.true_xor, Bool.false_xor, Bool.xor_true, Bool.xor_false, Nat.reduceAdd, Nat.reduceBEq, Nat.reduceLeDiff, Nat.reduceLT, Nat.reduceMul, Nat.reduceSub, Int.reduceEq, Int.reduceLT, Int.reduceLE, Int.reduceNeg, fin (by simp only [okAt, k1, k2, Bool.false_and, Bool.true_and])]
        | true =>
          cases k3 : decide (u = 0) with
          | true =>
            simp only [*, s105, s106, go_sem, Int.cast_ofNat_Int, Int.reduceToNat, Bool.true_xor, Bool.false_xor, Bool.xor_true, Bool.xor_false, Nat.reduceAdd, Nat.reduceBEq, Nat.reduceLeDiff, Nat.reduceLT, Nat.reduceMul, Nat.reduceSub, Int.reduceEq, Int.reduceLT, Int.reduceLE, Int.reduceNeg, hlt]
            exact ⟨trivial, by first | trivial | rfl, go (by simp only [okAt, k1, k2, k3]; rfl)⟩
          | false =>
            cases k4 : decide (u ≤ r) with
            | true => simp only [*, s105, s106, go_sem, Int.cast_ofNat_Int, Int.reduceToNat, Bool.true_xor, Bool.false_xor, Bool.xor_true, Bool.xor_false, Nat.reduceAdd, Nat.reduceBEq, Nat.reduceLeDiff, Nat.reduceLT, Nat.reduceMul, Nat.reduceSub, Int.reduceEq, Int.reduceLT, Int.reduceLE, Int.reduceNeg, fin (by simp only [okAt, k1, k2, k3, k4]; rfl)]
            | false =>
              cases k5 : decide (w64 (r + 64) < u) with
              | true => simp only [*, s105, s106, go_sem, Int.cast_ofNat_Int, Int.reduceToNat, Bool.true_xor, Bool.false_xor, Bool.xor_true, Bool.xor_false, Nat.reduceAdd, Nat.reduceBEq, Nat.reduceLeDiff, Nat.reduceLT, Nat.reduceMul, Nat.reduceSub, Int.reduceEq, Int.reduceLT, Int.reduceLE, Int.reduceNeg, k5, fin (by simp only [okAt, k1, k2, k3, k4, k5]; rfl)]
              | false =>
                cases k6 : decide (d = 0) with
                | true => simp only [*, s105, s106, go_sem, Int.cast_ofNat_Int, Int.reduceToNat, Bool.true_xor, Bool.false_xor, Bool.xor_true, Bool.xor_false, Nat.reduceAdd, Nat.reduceBEq, Nat.reduceLeDiff, Nat.reduceLT, Nat.reduceMul, Nat.reduceSub, Int.reduceEq, Int.reduceLT, Int.reduceLE, Int.reduceNeg, k5, hlD, hd, k6, fin (by simp only [okAt, k1, k2, k3, k4, k5, k6]; rfl)]
                | false =>
                  simp only [*, s105, s106, go_sem, Int.cast_ofNat_Int, Int.reduceToNat, Bool.true_xor, Bool.false_xor, Bool.xor_true, Bool.xor_false, Nat.reduceAdd, Nat.reduceBEq, Nat.reduceLeDiff, Nat.reduceLT, Nat.reduceMul, Nat.reduceSub, Int.reduceEq, Int.reduceLT, Int.reduceLE, Int.reduceNeg, k5, hlD, hd, k6, hlt]
                  exact ⟨trivial, by first | trivial | rfl, go (by simp only [okAt, k1, k2, k3, k4, k5, k6]; rfl)⟩
    · obtain rfl : i = 16 := by omega
      have hv : vI r C U D = 0 := vI_yes (vB_all hl (fun j hj => hP j hj))
      simp only [*, s105, s106, go_sem, Int.cast_ofNat_Int, Int.reduceToNat, Bool.true_xor, Bool.false_xor, Bool.xor_true, Bool.xor_false, Nat.reduceAdd, Nat.reduceBEq, Nat.reduceLeDiff, Nat.reduceLT, Nat.reduceMul, Nat.reduceSub, Int.reduceEq, Int.reduceLT, Int.reduceLE, Int.reduceNeg, hv, show decide (((16 : Nat) : Int) < 16) = false from by decide]
@[go_sem] theorem fz_cS (N H d v C e) : fzB N H (d + 1) v 0 C.length (some (.arr v 2 (cS C) e)) = some (.lst 2 (cS C) e) := (cS_still C).fz N H d v _ 2 e (cS_len C)
@[go_sem] theorem fz_iS (N H d v C e) : fzB N H (d + 1) v 0 C.length (some (.arr v 1 (iS C) e)) = some (.lst 1 (iS C) e) := (Still.ints C).fz N H d v _ 1 e iS_len
theorem fz_cS16 (N H d v C e) (h : C.length = 16) : fzB N H (d + 1) v 0 16 (some (.arr v 2 (cS C) e)) = some (.lst 2 (cS C) e) := by rw [← h]; exact fz_cS N H d v C e
theorem fz_iS16 (N H d v C e) (h : C.length = 16) : fzB N H (d + 1) v 0 16 (some (.arr v 1 (iS C) e)) = some (.lst 1 (iS C) e) := by rw [← h]; exact fz_iS N H d v C e
@[go_sem] theorem refs_cS (C) : SV.refs.refsL (cS C).flatten = 0 := (cS_still C).zero
@[go_sem] theorem refs_iS (C) : SV.refs.refsL (iS C).flatten = 0 := (Still.ints C).zero
def C0 : List (Int × Int) := List.replicate 16 (0, 0)
def Z0 : List Int := List.replicate 16 0
@[go_sem] theorem C0_len : C0.length = 16 := by rfl
@[go_sem] theorem Z0_len : Z0.length = 16 := by rfl
@[go_sem] theorem mkC0 (H : Heap) : smake 2 [.int .i64 0, .int .i64 0] 16 H (.int .i64 16) (.int .i64 16) = some (.slc H.bl.length 0 0 16, hnew H (.arr 0 2 (cS C0) true)) := by rfl
@[go_sem] theorem mkZ0 (H : Heap) : smake 1 [.int .i64 0] 8 H (.int .i64 16) (.int .i64 16) = some (.slc H.bl.length 0 0 16, hnew H (.arr 0 1 (iS Z0) true)) := by rfl
theorem cpB_full {esz : Nat} {H : Heap} {X L : List (List SV)} {b v n : Nat} {e : Bool} (hX : X.length = n) (hL : L.length = n) (h0 : SV.refs.refsL X.flatten = 0) : cpB esz H X b v 0 n (some (.arr v esz L e)) = (hset H b (.arr v esz X e) 0).map fun H => (.int .i64 n, H) := by
  subst hX
  simp only [cpB_arr, Nat.zero_add, hL, Nat.le_refl, decide_true, cond_true, h0, List.take_zero, List.nil_append, List.take_length, Nat.min_self]
  rw [List.drop_of_length_le (by omega), List.append_nil]
theorem few16 {n : Nat} (h : n ≤ 20) : decide (n * 16 ≤ mostLen) = true ∧ decide (n * 8 ≤ mostLen) = true := by
  simp only [decide_eq_true_eq]
  exact ⟨Nat.le_trans (show n * 16 ≤ 1000 by omega) (by decide), Nat.le_trans (show n * 8 ≤ 1000 by omega) (by decide)⟩
@[go_sem] theorem dmax {a b c d : Nat} : decide (max 0 (max a (max b (max c 0))) ≤ d) = (decide (a ≤ d) && decide (b ≤ d) && decide (c ≤ d)) := by
  rw [Bool.eq_iff_iff]; simp; omega
/-- A learner whose lists lie in blocks. -/
abbrev ls (r : Int) (b : Nat) (c u d : Nat) : SV := .agg [.int .i64 r, .slc b 0 0 c, .slc (b + 1) 0 0 u, .slc (b + 2) 0 0 d]
abbrev lsC (r : Int) (b : Nat) (c u d : Nat) : List SV := [.int .i64 r, .slc b 0 0 c, .slc (b + 1) 0 0 u, .slc (b + 2) 0 0 d]
theorem s16 (n : Nat) (H : Heap) : call1 T (n + 1) (.fn 16) [] H = some (lr 0 C0 Z0 Z0 true true true, H) := by
  refine call_pure e16 (by rfl) ?_
  simp only [c16, heap0, go_sem, Int.cast_ofNat_Int, Int.reduceToNat, Bool.true_xor, Bool.false_xor, Bool.xor_true, Bool.xor_false, Nat.reduceAdd, Nat.reduceBEq, Nat.reduceLeDiff, Nat.reduceLT, Nat.reduceMul, Nat.reduceSub, Int.reduceEq, Int.reduceLT, Int.reduceLE, Int.reduceNeg, fz_cS16, fz_iS16]
theorem s31k (n : Nat) (x y z u v : SBlk) (es : List (Nat × Nat)) : call1 T (n + 1) (.kfn 16) [] ⟨[x, y, z, u, v], es, 0⟩ =
    some (ls 0 6 16 16 16, ⟨[x, y, z, u, v, .box (lsC 0 6 16 16 16), .arr 0 2 (cS C0) true, .arr 0 1 (iS Z0) true, .arr 0 1 (iS Z0) true], es ++ [(5, max 0 (max 7 (max 8 (max 9 0))))], 0⟩) := by
  refine kcall_in e16 ?_
  simp only [c16, heap0, go_sem, Int.cast_ofNat_Int, Int.reduceToNat, Bool.true_xor, Bool.false_xor, Bool.xor_true, Bool.xor_false, Nat.reduceAdd, Nat.reduceBEq, Nat.reduceLeDiff, Nat.reduceLT, Nat.reduceMul, Nat.reduceSub, Int.reduceEq, Int.reduceLT, Int.reduceLE, Int.reduceNeg]
theorem tk_cS (C) (h : C.length = 16) : (cS C).take 16 = cS C := List.take_of_length_le (by rw [cS_len]; omega)
theorem tk_iS (C) (h : C.length = 16) : (iS C).take 16 = iS C := List.take_of_length_le (by rw [iS_len]; omega)
theorem dr_C0 : (cS C0).drop (min 16 16) = [] := rfl
theorem dr_Z0 : (iS Z0).drop (min 16 16) = [] := rfl
theorem s47k (n : Nat) (x y z : SBlk) (es : List (Nat × Nat)) (r C U D f g h) (hC : C.length = 16) (hU : U.length = 16) (hD : D.length = 16) : call1 T (n + 2) (.kfn 56) [lr r C U D f g h] ⟨[x, y, z], es, 0⟩ =
    some (ls r 6 16 16 16, ⟨[x, y, z, .box [.int .i64 r, .lst 2 (cS C) f, .lst 1 (iS U) g, .lst 1 (iS D) h], .box (lsC r 6 16 16 16), .box (lsC 0 6 16 16 16), .arr 0 2 (cS C) true, .arr 0 1 (iS U) true, .arr 0 1 (iS D) true, .box (lsC r 6 16 16 16)],
      es ++ [(4, max 0 (max 7 (max 8 (max 9 0)))), (5, max 0 (max 7 (max 8 (max 9 0))))], 0⟩) := by
  refine kcall_in e56 ?_
  simp only [c56, heap0, go_sem, Int.cast_ofNat_Int, Int.reduceToNat, Bool.true_xor, Bool.false_xor, Bool.xor_true, Bool.xor_false, Nat.reduceAdd, Nat.reduceBEq, Nat.reduceLeDiff, Nat.reduceLT, Nat.reduceMul, Nat.reduceSub, Int.reduceEq, Int.reduceLT, Int.reduceLE, Int.reduceNeg, s31k, hC, hU, hD, tk_cS _ hC, tk_iS _ hU, tk_iS _ hD, dr_C0, dr_Z0]
theorem ext_upto {A : Type} {L M : List A} (hl : L.length = M.length) {i : Nat} (hi : L.length ≤ i) (h : ∀ j : Nat, j < i → L[j]? = M[j]?) : L = M := List.ext_getElem? (fun j => by
  rcases Nat.lt_or_ge j L.length with h3 | h3
  · exact h j (by omega)
  · rw [List.getElem?_eq_none h3, List.getElem?_eq_none (by omega)])
theorem upto_suc {A : Type} {L M : List A} {i : Nat} (h : ∀ j : Nat, j < i → L[j]? = M[j]?) (hi : L[i]? = M[i]?) : ∀ j : Nat, j < i + 1 → L[j]? = M[j]? := fun j hj => by
  rcases Nat.lt_or_ge j i with h3 | h3
  · exact h j h3
  · obtain rfl : j = i := by omega
    exact hi
def smB (r : Int) (C : List (Int × Int)) (U D : List Int) (r' : Int) (C' : List (Int × Int)) (U' D' : List Int) : Bool := decide (r = r' ∧ C = C' ∧ U = U' ∧ D = D')
@[go_sem] theorem lenE (a b : Nat) : decide ((a : Int) = (b : Int)) = decide (a = b) := by
  rw [Bool.eq_iff_iff, decide_eq_true_eq, decide_eq_true_eq]; omega
def ad1 (c : Int × Int) (a : Bool) : Int × Int := (c.1 + 1, bif a then c.2 + 1 else c.2)
theorem ad_ok {c : Int × Int} (h : cB c.1 c.2 = true) (h2 : decide (c.1 = 1073741824) = false) (a : Bool) : adV c.1 c.2 a = .tup [ct (ad1 c a).1 (ad1 c a).2, .int .i64 0] := by
  have g := cB_iff.1 h
  have h2' := of_decide_eq_false h2
  have w1 : w64 (c.1 + 1) = c.1 + 1 := w64_id (by omega) (by omega)
  have w2 : w64 (c.2 + 1) = c.2 + 1 := w64_id (by omega) (by omega)
  simp only [adV, h, h2, w1, w2, cond_true, cond_false, ad1]
theorem ad_full {c : Int × Int} (h : cB c.1 c.2 = true) (h2 : decide (c.1 = 1073741824) = true) (a : Bool) : adV c.1 c.2 a = .tup [ct 0 0, .int .i64 13] := by
  simp only [adV, h, h2, cond_true]
theorem vB_iff {r C U D} : vB r C U D = true ↔ (0 ≤ r ∧ r ≤ 1073741824 ∧ C.length = 16 ∧ U.length = 16 ∧ D.length = 16) ∧ ∀ i, i < 16 → okI r C U D i = true := by
  simp only [vB, lenB, Bool.and_eq_true, decide_eq_true_eq, List.all_eq_true, List.mem_range, and_assoc]
theorem vB_cB {r C U D} (h : vB r C U D = true) {i : Nat} {c : Int × Int} (hc : C[i]? = some c) : cB c.1 c.2 = true := by
  obtain ⟨⟨_, _, h3, h4, h5⟩, h6⟩ := vB_iff.1 h
  have hi : i < 16 := by have := (List.getElem?_eq_some_iff.1 hc).1; omega
  have := h6 i hi
  obtain ⟨u, hu⟩ := getS (l := U) (i := i) (by omega)
  obtain ⟨d, hd⟩ := getS (l := D) (i := i) (by omega)
  simp only [okI, hc, hu, hd, okAt, Bool.and_eq_true] at this
  exact this.1.1
def ntV (fl : Bool) (r : Int) (C : List (Int × Int)) (U D : List Int) (x : Int) (a : Bool) : SV :=
  bif vB r C U D then
    bif decide (x < 0) || decide (16 ≤ x) then .tup [lz, .int .i64 2]
    else bif decide ((C.getD x.toNat (0, 0)).1 = 1073741824) then .tup [lz, .int .i64 13]
    else .tup [lr r (C.set x.toNat (ad1 (C.getD x.toNat (0, 0)) a)) U D fl fl fl, .int .i64 0]
  else .tup [lz, .int .i64 1]
theorem s17 (n : Nat) (H : Heap) (r C U D f g h x a) : call1 T (n + 3) (.fn 17) [lr r C U D f g h, .int .i64 x, .bool a] H = some (ntV true r C U D x a, H) := by
  refine call_pure e17 (by rfl) ?_
  have h12 := fun H => s54 n H r C U D f g h
  cases hv : vB r C U D with
  | false => simp only [c17, heap0, go_sem, Int.cast_ofNat_Int, Int.reduceToNat, Bool.true_xor, Bool.false_xor, Bool.xor_true, Bool.xor_false, Nat.reduceAdd, Nat.reduceBEq, Nat.reduceLeDiff, Nat.reduceLT, Nat.reduceMul, Nat.reduceSub, Int.reduceEq, Int.reduceLT, Int.reduceLE, Int.reduceNeg, h12, hv, ntV]
  | true =>
    cases h1 : decide (x < 0) with
    | true => simp only [c17, heap0, go_sem, Int.cast_ofNat_Int, Int.reduceToNat, Bool.true_xor, Bool.false_xor, Bool.xor_true, Bool.xor_false, Nat.reduceAdd, Nat.reduceBEq, Nat.reduceLeDiff, Nat.reduceLT, Nat.reduceMul, Nat.reduceSub, Int.reduceEq, Int.reduceLT, Int.reduceLE, Int.reduceNeg, h12, hv, ntV, h1]
    | false =>
      cases h2 : decide (16 ≤ x) with
      | true => simp only [c17, heap0, go_sem, Int.cast_ofNat_Int, Int.reduceToNat, Bool.true_xor, Bool.false_xor, Bool.xor_true, Bool.xor_false, Nat.reduceAdd, Nat.reduceBEq, Nat.reduceLeDiff, Nat.reduceLT, Nat.reduceMul, Nat.reduceSub, Int.reduceEq, Int.reduceLT, Int.reduceLE, Int.reduceNeg, h12, hv, ntV, h1, h2]
      | false =>
        obtain ⟨⟨_, _, hC, hU, hD⟩, _⟩ := vB_iff.1 hv
        have h1' := of_decide_eq_false h1
        have h2' := of_decide_eq_false h2
        have k1 : decide (0 ≤ x) = true := decide_eq_true (by omega)
        have k2 : decide (x < 16) = true := decide_eq_true (by omega)
        have hlt : x.toNat < 16 := by omega
        have hltC : decide (x < (C.length : Int)) = true := decide_eq_true (by omega)
        obtain ⟨c, hc⟩ := getS (l := C) (i := x.toNat) (by omega)
        have hg : C.getD x.toNat (0, 0) = c := by simp [hc]
        have hcb := vB_cB hv hc
        have h18 := fun H => s55 n H c.1 c.2 a
        cases h3 : decide (c.1 = 1073741824) with
        | true =>
          rw [ad_full hcb h3] at h18
          simp only [c17, heap0, go_sem, Int.cast_ofNat_Int, Int.reduceToNat, Bool.true_xor, Bool.false_xor, Bool.xor_true, Bool.xor_false, Nat.reduceAdd, Nat.reduceBEq, Nat.reduceLeDiff, Nat.reduceLT, Nat.reduceMul, Nat.reduceSub, Int.reduceEq, Int.reduceLT, Int.reduceLE, Int.reduceNeg, h12, hv, ntV, h1, h2, k1, hltC, hc, h18, hg, h3]
        | false =>
          rw [ad_ok hcb h3] at h18
          have h47 := fun x y z es => s47k n x y z es r C U D f g h hC hU hD
          have hl : (C.set x.toNat (ad1 c a)).length = 16 := by simp [hC]
          simp only [c17, heap0, go_sem, Int.cast_ofNat_Int, Int.reduceToNat, Bool.true_xor, Bool.false_xor, Bool.xor_true, Bool.xor_false, Nat.reduceAdd, Nat.reduceBEq, Nat.reduceLeDiff, Nat.reduceLT, Nat.reduceMul, Nat.reduceSub, Int.reduceEq, Int.reduceLT, Int.reduceLE, Int.reduceNeg, h12, hv, ntV, h1, h2, k1, k2, hltC, hc, h18, hg, h3, h47, cS_set, fz_cS16 _ _ _ _ _ _ hl, fz_iS16 _ _ _ _ _ _ hU, fz_iS16 _ _ _ _ _ _ hD]
theorem mid_get {A : Type} {S C : List A} {i : Nat} (h : i ≤ S.length) : (S.take i ++ C.drop i)[i]? = C[i]? := by
  rw [List.getElem?_append_right (by simp; omega)]
  simp [Nat.min_eq_left h]
theorem mid_len {A : Type} {S C : List A} {i : Nat} (h : S.length = C.length) : (S.take i ++ C.drop i).length = C.length := by
  simp; omega
theorem mid_set {A : Type} {S C : List A} {i : Nat} {s : A} (h : S[i]? = some s) (hl : S.length = C.length) : (S.take i ++ C.drop i).set i s = S.take (i + 1) ++ C.drop (i + 1) := by
  have hi := (List.getElem?_eq_some_iff.1 h).1
  apply List.ext_getElem?
  intro j
  rw [take_snoc h]
  simp only [List.getElem?_set, List.getElem?_append, List.length_take, List.length_append, List.length_cons, List.length_nil, List.getElem?_drop, List.getElem?_take]
  have e1 : min i S.length = i := by omega
  simp only [e1, List.length_drop]
  by_cases h1 : i = j
  · subst h1
    simp; omega
  · by_cases h2 : j < i
    · simp [h1, h2, show j < i + 1 by omega]
    · simp only [h1, h2, if_false, show ¬ j < i + 1 by omega]
      congr 1; omega
theorem mid_end {A : Type} {S C : List A} {i : Nat} (h : C.length ≤ i) (hs : S.length = C.length) : S.take i ++ C.drop i = S := by
  rw [List.drop_of_length_le h, List.append_nil, List.take_of_length_le (by omega)]
theorem cS_set2 (C : List (Int × Int)) (i : Nat) (x y : Int) : (cS C).set i [.int .i64 x, .int .i64 y] = cS (C.set i (x, y)) := by simp [cS, List.map_set]
def sumC (C C' : List (Int × Int)) : List (Int × Int) := C.zipWith (fun a b => (a.1 + b.1, a.2 + b.2)) C'
theorem sumC_len {C C' : List (Int × Int)} (h : C.length = C'.length) : (sumC C C').length = C.length := by simp [sumC]; omega
theorem sumC_get {C C' : List (Int × Int)} {i : Nat} {a b} (h : C[i]? = some a) (h2 : C'[i]? = some b) : (sumC C C')[i]? = some (a.1 + b.1, a.2 + b.2) := by simp [sumC, List.getElem?_zipWith, h, h2]
def okS (S : List (Int × Int)) : Bool := S.all fun c => decide (c.1 ≤ 1073741824)
def mgV (fl : Bool) (r : Int) (C : List (Int × Int)) (U D : List Int) (r' : Int) (C' : List (Int × Int)) (U' D' : List Int) : SV :=
  bif vB r C U D && vB r' C' U' D' then
    bif decide (r = r') && decide (U = U') && decide (D = D') then
      bif okS (sumC C C') then .tup [lr r (sumC C C') U D fl fl fl, .int .i64 0] else .tup [lz, .int .i64 13]
    else .tup [lz, .int .i64 11]
  else .tup [lz, .int .i64 1]
theorem sum_cB {a b : Int × Int} (h : cB a.1 a.2 = true) (h2 : cB b.1 b.2 = true) : w64 (a.1 + b.1) = a.1 + b.1 ∧ w64 (a.2 + b.2) = a.2 + b.2 ∧ cB (a.1 + b.1) (a.2 + b.2) = decide (a.1 + b.1 ≤ 1073741824) := by
  have g := cB_iff.1 h
  have g2 := cB_iff.1 h2
  refine ⟨w64_id (by omega) (by omega), w64_id (by omega) (by omega), ?_⟩
  rw [Bool.eq_iff_iff, cB_iff, decide_eq_true_eq]; omega
theorem okS_no {S : List (Int × Int)} {i : Nat} {c} (h : S[i]? = some c) (h2 : decide (c.1 ≤ 1073741824) = false) : okS S = false := by
  rw [okS, List.all_eq_false]
  exact ⟨c, List.mem_of_getElem? h, by simp [of_decide_eq_false h2]⟩
theorem okS_yes {S : List (Int × Int)} (h : ∀ (j : Nat) c, S[j]? = some c → decide (c.1 ≤ 1073741824) = true) : okS S = true := by
  rw [okS, List.all_eq_true]
  intro c hc
  obtain ⟨j, hj⟩ := List.getElem?_of_mem hc
  exact h j c hj
theorem ln16 : (16 : Nat) ≤ maxLen := by decide
def fewB (C : List (Int × Int)) (U D : List Int) : Bool := decide (C.length ≤ 20) && decide (U.length ≤ 20) && decide (D.length ≤ 20)
@[go_sem] theorem lenF (n : Nat) : decide ((n : Int) ≤ 20) = decide (n ≤ 20) := by
  rw [Bool.eq_iff_iff, decide_eq_true_eq, decide_eq_true_eq]; omega
theorem few_len {C U D} (h : fewB C U D = true) : C.length ≤ 20 ∧ U.length ≤ 20 ∧ D.length ≤ 20 := by
  simp only [fewB, Bool.and_eq_true, decide_eq_true_eq] at h; omega
theorem ln20 {n : Nat} (h : n ≤ 20) : n ≤ maxLen := by simp only [maxLen]; omega
theorem mg_eq (r C U D r' C' U' D') : (∃ e, ∀ fl, mgV fl r C U D r' C' U' D' = .tup [lz, .int .i64 e]) ∨ ((sumC C C').length ≤ 20 ∧ U.length ≤ 20 ∧ D.length ≤ 20 ∧ ∃ e, ∀ fl, mgV fl r C U D r' C' U' D' = .tup [lr r (sumC C C') U D fl fl fl, .int .i64 e]) := by
  unfold mgV
  cases h : vB r C U D with
  | false => exact .inl ⟨1, fun _ => rfl⟩
  | true =>
    cases h' : vB r' C' U' D' with
    | false => exact .inl ⟨1, fun _ => rfl⟩
    | true =>
      obtain ⟨⟨_, _, hC, hU, hD⟩, _⟩ := vB_iff.1 h
      obtain ⟨⟨_, _, hC', hU', hD'⟩, _⟩ := vB_iff.1 h'
      cases decide (r = r') && decide (U = U') && decide (D = D') with
      | false => exact .inl ⟨11, fun _ => rfl⟩
      | true =>
        cases okS (sumC C C') with
        | false => exact .inl ⟨13, fun _ => rfl⟩
        | true => exact .inr ⟨by rw [sumC_len (by omega)]; omega, by omega, by omega, 0, fun _ => rfl⟩
theorem sm_self (r C U D) : smB r C U D r C U D = true := by simp [smB]
abbrev lrT : List DT := [.int .i64, .lst [.int .i64, .int .i64], .lst [.int .i64], .lst [.int .i64]]
theorem cS_of : ∀ {L : List (List SV)}, (∀ q ∈ L, FitsL [.int .i64, .int .i64] q) → ∃ N, L = cS N
  | [], _ => ⟨[], rfl⟩
  | q :: L, h => by
    obtain ⟨N, rfl⟩ := cS_of (L := L) (fun q hq => h q (by simp [hq]))
    have k := h q (by simp)
    obtain ⟨a, _, rfl, _, k⟩ := fitsL_i k
    obtain ⟨b, _, rfl, _, k⟩ := fitsL_i k
    cases fitsL_nil' k
    exact ⟨(a, b) :: N, rfl⟩
theorem iS_of : ∀ {L : List (List SV)}, (∀ q ∈ L, FitsL [.int .i64] q) → ∃ N, L = iS N
  | [], _ => ⟨[], rfl⟩
  | q :: L, h => by
    obtain ⟨N, rfl⟩ := iS_of (L := L) (fun q hq => h q (by simp [hq]))
    have k := h q (by simp)
    obtain ⟨a, _, rfl, _, k⟩ := fitsL_i k
    cases fitsL_nil' k
    exact ⟨a :: N, rfl⟩
theorem lr_of {x : SV} (h : FitsA (true, lrT) x) : ∃ r C U D f g h, x = lr r C U D f g h ∧ (-9223372036854775808 ≤ r ∧ r ≤ 9223372036854775807) := by
  obtain ⟨cs, rfl, k⟩ := fitsA_agg h
  obtain ⟨r, _, rfl, w, k⟩ := fitsL_i k
  obtain ⟨L1, f1, _, rfl, m1, a1, k⟩ := fitsL_l k
  obtain ⟨L2, f2, _, rfl, m2, a2, k⟩ := fitsL_l k
  obtain ⟨L3, f3, _, rfl, m3, a3, k⟩ := fitsL_l k
  cases fitsL_nil' k
  obtain ⟨C, rfl⟩ := cS_of a1
  obtain ⟨U, rfl⟩ := iS_of a2
  obtain ⟨D, rfl⟩ := iS_of a3
  refine ⟨r, C, U, D, f1, f2, f3, rfl, ?_⟩
  simp only [Lit.wf, Bool.and_eq_true, decide_eq_true_eq] at w
  exact w



/-! ### The order of channels: the mathematics -/
def bS (L : List Nat) : List (List SV) := L.map fun (n : Nat) => [.int .i64 (n : Int)]
@[go_sem] theorem bS_len (L) : (bS L).length = L.length := by simp [bS]
@[go_sem] theorem bS_get (L) (i : Nat) : (bS L)[i]? = (L[i]?).map (fun (n : Nat) => [.int .i64 (n : Int)]) := by simp [bS]
theorem bS_iS (L) : bS L = iS (L.map fun (n : Nat) => (n : Int)) := by simp [bS, iS]
theorem bS_still (L) : Still (bS L) := by rw [bS_iS]; exact Still.ints _
@[go_sem] theorem fz_bS (N H d v C e) : fzB N H (d + 1) v 0 C.length (some (.arr v 1 (bS C) e)) = some (.lst 1 (bS C) e) := (bS_still C).fz N H d v _ 1 e (bS_len C)
@[go_sem] theorem refs_bS (C) : SV.refs.refsL (bS C).flatten = 0 := (bS_still C).zero
theorem bS_set (C : List Nat) (i c : Nat) : (bS C).set i [.int .i64 (c : Int)] = bS (C.set i c) := by simp [bS, List.map_set]
theorem bS_snoc (C : List Nat) (c : Nat) : bS C ++ [[.int .i64 (c : Int)]] = bS (C ++ [c]) := by simp [bS]
def cA (C : List (Int × Int)) (a : Nat) : Int × Int := C.getD a (0, 0)
theorem cA_of {C : List (Int × Int)} {a : Nat} {c} (h : C[a]? = some c) : cA C a = c := by simp [cA, h]
def lt1 (C : List (Int × Int)) (a b : Nat) : Bool := lsR (cA C a).1 (cA C a).2 (cA C b).1 (cA C b).2
def AllC (C : List (Int × Int)) : Prop := ∀ c ∈ C, cB c.1 c.2 = true
theorem cA_cB {C : List (Int × Int)} (h : AllC C) (a : Nat) : cB (cA C a).1 (cA C a).2 = true := by
  unfold cA
  rw [List.getD_eq_getElem?_getD]
  cases hq : C[a]? with
  | none => rfl
  | some c => exact h c (List.mem_of_getElem? hq)
theorem lt1_iff {C : List (Int × Int)} (h : AllC C) (a b : Nat) : lt1 C a b = true ↔ (cA C a).2 * max (cA C b).1 1 < (cA C b).2 * max (cA C a).1 1 := by
  have ha := cB_iff.1 (cA_cB h a)
  have hb := cB_iff.1 (cA_cB h b)
  simp only [lt1, lsR, decide_eq_true_eq]
  rw [pr_id (by omega) (by omega) (by omega), pr_id (by omega) (by omega) (by omega)]
theorem weak {k t j u i v : Int} (hA : 0 < t) (hB : 0 < u) (hC : 0 < v) (h : k * u ≤ j * t) (h2 : j * v ≤ i * u) : k * v ≤ i * t := by
  have e1 : k * u * v ≤ j * t * v := Int.mul_le_mul_of_nonneg_right h (by omega)
  have e2 : j * v * t ≤ i * u * t := Int.mul_le_mul_of_nonneg_right h2 (by omega)
  have e3 : j * t * v = j * v * t := by rw [Int.mul_assoc, Int.mul_assoc, Int.mul_comm t v]
  have e4 : (k * v) * u ≤ (i * t) * u := by
    have : (k * v) * u = k * u * v := by rw [Int.mul_assoc, Int.mul_assoc, Int.mul_comm v u]
    have : (i * t) * u = i * u * t := by rw [Int.mul_assoc, Int.mul_assoc, Int.mul_comm t u]
    omega
  exact Int.le_of_mul_le_mul_right e4 hB
/-- At most as good: a weak order. -/
theorem lt1_false {C : List (Int × Int)} (h : AllC C) (a b : Nat) : lt1 C a b = false ↔ (cA C b).2 * max (cA C a).1 1 ≤ (cA C a).2 * max (cA C b).1 1 := by
  rw [Bool.eq_false_iff, ne_eq, lt1_iff h]; omega
theorem lt1_weak {C : List (Int × Int)} (h : AllC C) {a b c : Nat} (h1 : lt1 C b a = false) (h2 : lt1 C c b = false) : lt1 C c a = false := by
  rw [lt1_false h] at h1 h2 ⊢
  exact weak (by omega) (by omega) (by omega) h1 h2
theorem lt1_asym {C : List (Int × Int)} (h : AllC C) {a b : Nat} (h1 : lt1 C a b = true) : lt1 C b a = false := by
  rw [lt1_false h]
  rw [lt1_iff h] at h1
  omega
theorem lt1_self {C : List (Int × Int)} (h : AllC C) (a : Nat) : lt1 C a a = false := by
  rw [lt1_false h]; omega
/-- The order with the index behind it: total. -/
def tl (C : List (Int × Int)) (a b : Nat) : Prop := lt1 C a b = true ∨ lt1 C b a = false ∧ a < b
theorem tl_le {C : List (Int × Int)} (h : AllC C) {a b : Nat} (h1 : tl C a b) : lt1 C b a = false := by
  rcases h1 with h1 | h1
  · exact lt1_asym h h1
  · exact h1.1
theorem tl_irr {C : List (Int × Int)} (h : AllC C) {a b : Nat} (h1 : tl C a b) (h2 : tl C b a) : False := by
  have e1 := tl_le h h1
  have e2 := tl_le h h2
  rcases h1 with h1 | h1
  · rw [h1] at e2; cases e2
  · rcases h2 with h2 | h2
    · rw [h2] at e1; cases e1
    · omega
/-! ### Sorting by insertion -/
def cutI (C : List (Int × Int)) (x : Nat) (L : List Nat) : Nat → Nat
  | 0 => 0
  | j + 1 => bif lt1 C x (L.getD j 0) then cutI C x L j else j + 1
def insI (C : List (Int × Int)) (x : Nat) (L : List Nat) : List Nat := L.take (cutI C x L L.length) ++ x :: L.drop (cutI C x L L.length)
def srt (C : List (Int × Int)) (B : List Nat) : Nat → List Nat
  | 0 => []
  | i + 1 => match B[i]? with
    | some x => insI C x (srt C B i)
    | none => srt C B i
theorem cutI_le (C x L) : ∀ j, cutI C x L j ≤ j
  | 0 => Nat.le_refl 0
  | j + 1 => by
    have := cutI_le C x L j
    simp only [cutI]
    cases lt1 C x (L.getD j 0)
    · exact Nat.le_refl _
    · simp only [cond_true]; omega
theorem insI_len (C x L) : (insI C x L).length = L.length + 1 := by
  have := cutI_le C x L L.length
  simp [insI]; omega
theorem srt_len (C B) : ∀ i, i ≤ B.length → (srt C B i).length = i
  | 0, _ => rfl
  | i + 1, h => by
    have ih := srt_len C B i (by omega)
    obtain ⟨x, hx⟩ := getS (l := B) (i := i) (by omega)
    simp only [srt, hx, insI_len, ih]
theorem insI_perm (C x L) : List.Perm (insI C x L) (x :: L) := by
  unfold insI
  refine List.perm_middle.trans ?_
  rw [List.take_append_drop]
theorem srt_perm (C B) : ∀ i, List.Perm (srt C B i) (B.take i)
  | 0 => by simp [srt]
  | i + 1 => by
    have ih := srt_perm C B i
    simp only [srt]
    cases hx : B[i]? with
    | none => rw [List.take_add_one, hx]; simpa using ih
    | some x =>
      rw [take_snoc hx]
      exact (insI_perm C x _).trans ((List.Perm.cons x ih).trans (List.perm_append_singleton x _).symm)
theorem cutI_hi (C x L) : ∀ j i, cutI C x L j ≤ i → i < j → lt1 C x (L.getD i 0) = true
  | 0, i, _, h => by omega
  | j + 1, i, h1, h2 => by
    simp only [cutI] at h1
    cases hq : lt1 C x (L.getD j 0) with
    | false => rw [hq] at h1; simp only [cond_false] at h1; omega
    | true =>
      rw [hq] at h1
      simp only [cond_true] at h1
      rcases Nat.lt_or_ge i j with h3 | h3
      · exact cutI_hi C x L j i h1 h3
      · obtain rfl : i = j := by omega
        exact hq
theorem cutI_lo (C x L) : ∀ j p, cutI C x L j = p + 1 → lt1 C x (L.getD p 0) = false
  | 0, p, h => by simp [cutI] at h
  | j + 1, p, h => by
    simp only [cutI] at h
    cases hq : lt1 C x (L.getD j 0) with
    | false => rw [hq] at h; simp only [cond_false] at h; obtain rfl : j = p := by omega
               exact hq
    | true => rw [hq] at h; exact cutI_lo C x L j p h
theorem insI_sorted {C x L} (h : AllC C) (hL : L.Pairwise (tl C)) (hx : ∀ a ∈ L, a < x) : (insI C x L).Pairwise (tl C) := by
  unfold insI
  have hle := cutI_le C x L L.length
  generalize hp : cutI C x L L.length = p at *
  have hlo : ∀ a ∈ L.take p, lt1 C x a = false := by
    intro a ha
    cases p with
    | zero => simp at ha
    | succ p =>
      have h1 := cutI_lo C x L _ _ hp
      obtain ⟨q, hq⟩ := List.getElem?_of_mem ha
      have hqp : q < p + 1 := by have := (List.getElem?_eq_some_iff.1 hq).1; simp at this; omega
      rw [List.getElem?_take, if_pos hqp] at hq
      obtain ⟨y, hy⟩ := getS (l := L) (i := p) (by omega)
      rw [show L.getD p 0 = y by simp [hy]] at h1
      rcases Nat.lt_or_ge q p with h3 | h3
      · have := List.pairwise_iff_getElem.1 hL q p (by omega) (by omega) h3
        have e1 : L[q]'(by omega) = a := (List.getElem?_eq_some_iff.1 hq).2
        have e2 : L[p]'(by omega) = y := (List.getElem?_eq_some_iff.1 hy).2
        rw [e1, e2] at this
        exact lt1_weak h (tl_le h this) h1
      · obtain rfl : q = p := by omega
        rw [hy] at hq; cases hq; exact h1
  have hhi : ∀ b ∈ L.drop p, lt1 C x b = true := by
    intro b hb
    obtain ⟨q, hq⟩ := List.getElem?_of_mem hb
    rw [List.getElem?_drop] at hq
    have := cutI_hi C x L L.length (p + q) (by omega) (List.getElem?_eq_some_iff.1 hq).1
    rwa [show L.getD (p + q) 0 = b by simp [hq]] at this
  have hsp : (L.take p ++ L.drop p).Pairwise (tl C) := by rw [List.take_append_drop]; exact hL
  rw [List.pairwise_append] at hsp
  rw [List.pairwise_append]
  refine ⟨hsp.1, List.pairwise_cons.2 ⟨fun b hb => .inl (hhi b hb), hsp.2.1⟩, fun a ha b hb => ?_⟩
  rcases List.mem_cons.1 hb with rfl | hb
  · exact .inr ⟨hlo a ha, hx a (List.mem_of_mem_take ha)⟩
  · exact hsp.2.2 a ha b hb
theorem srt_sorted {C B} (h : AllC C) (hB : B.Pairwise (· < ·)) : ∀ i, (srt C B i).Pairwise (tl C)
  | 0 => by simp [srt]
  | i + 1 => by
    have ih := srt_sorted h hB i
    simp only [srt]
    cases hx : B[i]? with
    | none => exact ih
    | some x =>
      refine insI_sorted h ih (fun a ha => ?_)
      have := (srt_perm C B i).mem_iff.1 ha
      obtain ⟨q, hq⟩ := List.getElem?_of_mem this
      have hqi : q < i := by have := (List.getElem?_eq_some_iff.1 hq).1; simp at this; omega
      rw [List.getElem?_take, if_pos hqi] at hq
      have hi := (List.getElem?_eq_some_iff.1 hx).1
      have := List.pairwise_iff_getElem.1 hB q i (by omega) hi hqi
      rwa [(List.getElem?_eq_some_iff.1 hq).2, (List.getElem?_eq_some_iff.1 hx).2] at this



/-! ### The sort walked -/
abbrev lrC (r : Int) (C : List (Int × Int)) (U D : List Int) (f g h : Bool) : List SV := [.int .i64 r, .lst 2 (cS C) f, .lst 1 (iS U) g, .lst 1 (iS D) h]
def cmpC (C : List (Int × Int)) (a b : Nat) : Int := cmpI (prV (cA C a).2 (cA C b).1) (prV (cA C b).2 (cA C a).1)
theorem cmpC_lt (C a b) : decide (cmpC C a b < 0) = lt1 C a b := by
  exact cmp_neg _ _
theorem s109 (n : Nat) (x : SBlk) (R : List SBlk) (es : List (Nat × Nat)) (ro : Nat) (r C U D f g h) (a b : Nat) (ha : a < C.length) (hb : b < C.length) :
    call1 T (n + 4) (.fn 109) [.int .i64 a, .int .i64 b, .ptr 1 0 0 0] ⟨x :: .box (lrC r C U D f g h) :: R, es, ro⟩ = some (.int .i64 (cmpC C a b), ⟨x :: .box (lrC r C U D f g h) :: R, es, ro⟩) := by
  refine call_ro e109 rfl rfl (fun RR k bl ro' hbl => ?_)
  have hbl : bl = x :: .box (lrC r C U D f g h) :: R := by
    rcases hbl with ⟨_, h2⟩ | h
    · simp [SV.refs.refsL, SV.refs] at h2
    · exact h
  subst hbl
  obtain ⟨c, hc⟩ := getS ha
  obtain ⟨d, hd⟩ := getS hb
  have h45 := fun H => s110 n H c.1 c.2 d.1 d.2
  have hcm : cmpC C a b = cmpI (prV c.2 d.1) (prV d.2 c.1) := by simp only [cmpC, cA_of hc, cA_of hd]
  simp only [c109, go_sem, Int.cast_ofNat_Int, Int.reduceToNat, Bool.true_xor, Bool.false_xor, Bool.xor_true, Bool.xor_false, Nat.reduceAdd, Nat.reduceBEq, Nat.reduceLeDiff, Nat.reduceLT, Nat.reduceMul, Nat.reduceSub, Int.reduceEq, Int.reduceLT, Int.reduceLE, Int.reduceNeg, ha, hb, hc, hd, h45, hcm]
/-- The data within the inner loop: x stands at p. -/
def dat (L : List Nat) (x : Nat) (R : List Nat) (p : Nat) : List Nat := L.take p ++ x :: (L.drop p ++ R)
theorem dat_len {L x R p} : (dat L x R p).length = L.length + R.length + 1 := by simp [dat]; omega
theorem dat_at {L x R p} (h : p ≤ L.length) : (dat L x R p)[p]? = some x := by
  unfold dat
  rw [List.getElem?_append_right (by simp; omega)]
  simp [Nat.min_eq_left h]
theorem dat_pre {L x R p y} (h : L[p]? = some y) : (dat L x R (p + 1))[p]? = some y := by
  have hi := (List.getElem?_eq_some_iff.1 h).1
  unfold dat
  rw [List.getElem?_append_left (by simp; omega), List.getElem?_take, if_pos (by omega), h]
theorem two_set {A : Type} (P : List A) (a b c d : A) (Z : List A) {p : Nat} (h : P.length = p) : ((P ++ a :: b :: Z).set (p + 1) c).set p d = P ++ d :: c :: Z := by
  subst h
  simp [List.set_append]
theorem dat_step {L x R p y} (h : L[p]? = some y) : ((dat L x R (p + 1)).set (p + 1) y).set p x = dat L x R p := by
  have hi := (List.getElem?_eq_some_iff.1 h).1
  have e := List.drop_eq_getElem_cons hi
  rw [(List.getElem?_eq_some_iff.1 h).2] at e
  unfold dat
  rw [take_snoc h, e, List.append_assoc]
  exact two_set _ _ _ _ _ _ (by simp; omega)
theorem s190 (n : Nat) (x z : SBlk) (v : Nat) (r C U D f g h) (B : List Nat) (hB : ∀ b ∈ B, b < C.length) (hl : B.length ≤ 16) :
    call1 T (n + 5) (.fn 190) [.slc 2 v 0 B.length, .int .i64 0, .int .i64 B.length, .fn 109 [.ptr 1 0 0 0]] ⟨[x, .box (lrC r C U D f g h), .arr v 1 (bS B) false, z], [], 0⟩ =
    some (.tup [], ⟨[x, .box (lrC r C U D f g h), .arr v 1 (bS (srt C B B.length)) false, z], [], 0⟩) := by
  refine call_in e190 (by rfl) ?_
  simp only [c190, go_sem, Int.cast_ofNat_Int, Int.reduceToNat, Bool.true_xor, Bool.false_xor, Bool.xor_true, Bool.xor_false, Nat.reduceAdd, Nat.reduceBEq, Nat.reduceLeDiff, Nat.reduceLT, Nat.reduceMul, Nat.reduceSub, Int.reduceEq, Int.reduceLT, Int.reduceLE, Int.reduceNeg]
  refine loop_rule (fun i => ([(0, .slc 2 v 0 B.length), (1, .int .i64 0), (2, .int .i64 B.length), (3, .fn 109 [.ptr 1 0 0 0]), (8, .int .i64 (i + 1 : Nat))], ⟨[x, .box (lrC r C U D f g h), .arr v 1 (bS (srt C B (i + 1) ++ B.drop (i + 1))) false, z], [], 0⟩))
    (fun _ => True) (B.length - 1) ?_ trivial ?_
  · have : srt C B (0 + 1) ++ B.drop (0 + 1) = B := by
      cases B with
      | nil => rfl
      | cons b B => simp [srt, insI, cutI]
    simp only [go_sem, Int.cast_ofNat_Int, Int.reduceToNat, Bool.true_xor, Bool.false_xor, Bool.xor_true, Bool.xor_false, Nat.reduceAdd, Nat.reduceBEq, Nat.reduceLeDiff, Nat.reduceLT, Nat.reduceMul, Nat.reduceSub, Int.reduceEq, Int.reduceLT, Int.reduceLE, Int.reduceNeg, this]
    rfl
  intro i hi _
  rcases Nat.lt_or_ge (i + 1) B.length with hlt | hge
  · have hlt' : decide (((i + 1 : Nat) : Int) < (B.length : Int)) = true := decide_eq_true (by omega)
    obtain ⟨b, hb⟩ := getS hlt
    have hbl := hB b (List.mem_of_getElem? hb)
    have hsl : (srt C B (i + 1)).length = i + 1 := srt_len C B _ (by omega)
    have hd0 : srt C B (i + 1) ++ B.drop (i + 1) = dat (srt C B (i + 1)) b (B.drop (i + 2)) (i + 1) := by
      have e1 : (srt C B (i + 1)).take (i + 1) = srt C B (i + 1) := List.take_of_length_le (by omega)
      have e2 : (srt C B (i + 1)).drop (i + 1) = [] := List.drop_of_length_le (by omega)
      have e3 := List.drop_eq_getElem_cons hlt
      rw [(List.getElem?_eq_some_iff.1 hb).2] at e3
      rw [dat, e1, e2, e3]
      rfl
    have hd1 : dat (srt C B (i + 1)) b (B.drop (i + 2)) (cutI C b (srt C B (i + 1)) (i + 1)) = srt C B (i + 2) ++ B.drop (i + 2) := by
      conv => rhs; rw [srt]
      simp only [hb, insI, hsl, dat, List.append_assoc, List.cons_append]
    have hmem : ∀ a ∈ srt C B (i + 1), a < C.length := fun a ha => hB a (List.mem_of_mem_take ((srt_perm C B _).mem_iff.1 ha))
    simp only [go_sem, Int.cast_ofNat_Int, Int.reduceToNat, Bool.true_xor, Bool.false_xor, Bool.xor_true, Bool.xor_false, Nat.reduceAdd, Nat.reduceBEq, Nat.reduceLeDiff, Nat.reduceLT, Nat.reduceMul, Nat.reduceSub, Int.reduceEq, Int.reduceLT, Int.reduceLE, Int.reduceNeg, hlt', hd0]
    refine loop_post (fun q => ([(0, .slc 2 v 0 B.length), (1, .int .i64 0), (2, .int .i64 B.length), (3, .fn 109 [.ptr 1 0 0 0]), (8, .int .i64 (i + 1 : Nat)), (9, .int .i64 (i + 1 - q : Nat))], ⟨[x, .box (lrC r C U D f g h), .arr v 1 (bS (dat (srt C B (i + 1)) b (B.drop (i + 2)) (i + 1 - q))) false, z], [], 0⟩))
      (fun q => cutI C b (srt C B (i + 1)) (i + 1) = cutI C b (srt C B (i + 1)) (i + 1 - q)) (i + 1) ?_ rfl ?_
    · simp only [go_sem, Int.cast_ofNat_Int, Int.reduceToNat, Bool.true_xor, Bool.false_xor, Bool.xor_true, Bool.xor_false, Nat.reduceAdd, Nat.reduceBEq, Nat.reduceLeDiff, Nat.reduceLT, Nat.reduceMul, Nat.reduceSub, Int.reduceEq, Int.reduceLT, Int.reduceLE, Int.reduceNeg]
      rfl
    · intro q hq hP
      generalize hp : i + 1 - q = p at *
      cases p with
      | zero =>
        have hw : w64 (((i + 1 : Nat) : Int) + 1) = ((i + 1 + 1 : Nat) : Int) := w64_suc (n := 17) (by omega) (by decide)
        have h0 : cutI C b (srt C B (i + 1)) 0 = 0 := rfl
        rw [hP, h0] at hd1
        simp only [go_sem, Int.cast_ofNat_Int, Int.reduceToNat, Bool.true_xor, Bool.false_xor, Bool.xor_true, Bool.xor_false, Nat.reduceAdd, Nat.reduceBEq, Nat.reduceLeDiff, Nat.reduceLT, Nat.reduceMul, Nat.reduceSub, Int.reduceEq, Int.reduceLT, Int.reduceLE, Int.reduceNeg, hw, hd1]
        exact ⟨by omega, rfl, trivial⟩
      | succ p =>
        have hps : p < (srt C B (i + 1)).length := by omega
        obtain ⟨y, hy⟩ := getS hps
        have hyl := hmem y (List.mem_of_getElem? hy)
        have g1 : (dat (srt C B (i + 1)) b (B.drop (i + 2)) (p + 1))[p + 1]? = some b := dat_at (by omega)
        have g2 : (dat (srt C B (i + 1)) b (B.drop (i + 2)) (p + 1))[p]? = some y := dat_pre hy
        have h56 := fun R es ro => s109 n x R es ro r C U D f g h b y hbl hyl
        have k1 : decide ((0 : Int) < ((p + 1 : Nat) : Int)) = true := decide_eq_true (by omega)
        have k2 : w64 (((p + 1 : Nat) : Int) - 1) = (p : Int) := by rw [w64_id (by omega) (by omega)]; omega
        have k3 : decide (((p + 1 : Nat) : Int) < (B.length : Int)) = true := decide_eq_true (by omega)
        have k4 : decide (p + 1 < B.length) = true := decide_eq_true (by omega)
        have k5 : decide (p < B.length) = true := decide_eq_true (by omega)
        simp only [go_sem, Int.cast_ofNat_Int, Int.reduceToNat, Bool.true_xor, Bool.false_xor, Bool.xor_true, Bool.xor_false, Nat.reduceAdd, Nat.reduceBEq, Nat.reduceLeDiff, Nat.reduceLT, Nat.reduceMul, Nat.reduceSub, Int.reduceEq, Int.reduceLT, Int.reduceLE, Int.reduceNeg, k1, k2, k3, k4, k5, g1, g2, h56, cmpC_lt]
        have gd : (srt C B (i + 1)).getD p 0 = y := by simp [hy]
        cases hlt1 : lt1 C b y with
        | false =>
          have hw : w64 (((i + 1 : Nat) : Int) + 1) = ((i + 1 + 1 : Nat) : Int) := w64_suc (n := 17) (by omega) (by decide)
          have h0 : cutI C b (srt C B (i + 1)) (p + 1) = p + 1 := by simp only [cutI, gd, hlt1, cond_false]
          rw [hP, h0] at hd1
          simp only [go_sem, Int.cast_ofNat_Int, Int.reduceToNat, Bool.true_xor, Bool.false_xor, Bool.xor_true, Bool.xor_false, Nat.reduceAdd, Nat.reduceBEq, Nat.reduceLeDiff, Nat.reduceLT, Nat.reduceMul, Nat.reduceSub, Int.reduceEq, Int.reduceLT, Int.reduceLE, Int.reduceNeg, hw, hd1]
          exact ⟨by omega, rfl, trivial⟩
        | true =>
          have h0 : cutI C b (srt C B (i + 1)) (p + 1) = cutI C b (srt C B (i + 1)) p := by simp only [cutI, gd, hlt1, cond_true]
          have g3 : ((dat (srt C B (i + 1)) b (B.drop (i + 2)) (p + 1)).set (p + 1) y)[p]? = some y := by rw [List.getElem?_set_ne (by omega)]; exact g2
          have e1 : i + 1 - (q + 1) = p := by omega
          simp only [go_sem, Int.cast_ofNat_Int, Int.reduceToNat, Bool.true_xor, Bool.false_xor, Bool.xor_true, Bool.xor_false, Nat.reduceAdd, Nat.reduceBEq, Nat.reduceLeDiff, Nat.reduceLT, Nat.reduceMul, Nat.reduceSub, Int.reduceEq, Int.reduceLT, Int.reduceLE, Int.reduceNeg, k2, k3, k4, k5, g1, g2, g3, bS_set, dat_step hy, e1]
          exact ⟨by omega, rfl, by rw [hP, h0]⟩
  · have hge' : decide (((i + 1 : Nat) : Int) < (B.length : Int)) = false := decide_eq_false (by omega)
    have e1 : srt C B (i + 1) ++ B.drop (i + 1) = srt C B B.length := by
      rw [List.drop_of_length_le (by omega), List.append_nil]
      rcases Nat.lt_or_ge B.length (i + 1) with h3 | h3
      · obtain rfl : i = 0 := by omega
        cases B with
        | nil => rfl
        | cons b B => simp at h3
      · rw [show i + 1 = B.length by omega]
    simp only [go_sem, Int.cast_ofNat_Int, Int.reduceToNat, Bool.true_xor, Bool.false_xor, Bool.xor_true, Bool.xor_false, Nat.reduceAdd, Nat.reduceBEq, Nat.reduceLeDiff, Nat.reduceLT, Nat.reduceMul, Nat.reduceSub, Int.reduceEq, Int.reduceLT, Int.reduceLE, Int.reduceNeg, hge', e1]
theorem s162 (n : Nat) (x z : SBlk) (v : Nat) (r C U D f g h) (B : List Nat) (hB : ∀ b ∈ B, b < C.length) (hl : B.length ≤ 16) :
    call1 T (n + 6) (.fn 162) [.slc 2 v 0 B.length, .int .i64 B.length, .fn 109 [.ptr 1 0 0 0]] ⟨[x, .box (lrC r C U D f g h), .arr v 1 (bS B) false, z], [], 0⟩ =
    some (.tup [], ⟨[x, .box (lrC r C U D f g h), .arr v 1 (bS (srt C B B.length)) false, z], [], 0⟩) := by
  refine call_in e162 (by rfl) ?_
  have h59 := s190 n x z v r C U D f g h B hB hl
  have k1 : decide ((20 : Int) ≤ (B.length : Int)) = false := decide_eq_false (by omega)
  have k2 : decide ((20 : Int) < (B.length : Int)) = false := decide_eq_false (by omega)
  simp only [c162, go_sem, Int.cast_ofNat_Int, Int.reduceToNat, Bool.true_xor, Bool.false_xor, Bool.xor_true, Bool.xor_false, Nat.reduceAdd, Nat.reduceBEq, Nat.reduceLeDiff, Nat.reduceLT, Nat.reduceMul, Nat.reduceSub, Int.reduceEq, Int.reduceLT, Int.reduceLE, Int.reduceNeg]
  refine loop_rule (fun _ => ([(0, .slc 2 v 0 B.length), (1, .int .i64 B.length), (2, .fn 109 [.ptr 1 0 0 0]), (6, .int .i64 20), (7, .int .i64 0), (8, .int .i64 20)], ⟨[x, .box (lrC r C U D f g h), .arr v 1 (bS B) false, z], [], 0⟩)) (fun _ => True) 0 (by simp only [go_sem, Int.cast_ofNat_Int, Int.reduceToNat, Bool.true_xor, Bool.false_xor, Bool.xor_true, Bool.xor_false, Nat.reduceAdd, Nat.reduceBEq, Nat.reduceLeDiff, Nat.reduceLT, Nat.reduceMul, Nat.reduceSub, Int.reduceEq, Int.reduceLT, Int.reduceLE, Int.reduceNeg]; rfl) trivial ?_
  intro i hi _
  simp only [go_sem, Int.cast_ofNat_Int, Int.reduceToNat, Bool.true_xor, Bool.false_xor, Bool.xor_true, Bool.xor_false, Nat.reduceAdd, Nat.reduceBEq, Nat.reduceLeDiff, Nat.reduceLT, Nat.reduceMul, Nat.reduceSub, Int.reduceEq, Int.reduceLT, Int.reduceLE, Int.reduceNeg, k1, h59]
  refine loop_rule (fun _ => ([(0, .slc 2 v 0 B.length), (1, .int .i64 B.length), (2, .fn 109 [.ptr 1 0 0 0]), (6, .int .i64 20)], ⟨[x, .box (lrC r C U D f g h), .arr v 1 (bS (srt C B B.length)) false, z], [], 0⟩)) (fun _ => True) 0 (by simp only [go_sem, Int.cast_ofNat_Int, Int.reduceToNat, Bool.true_xor, Bool.false_xor, Bool.xor_true, Bool.xor_false, Nat.reduceAdd, Nat.reduceBEq, Nat.reduceLeDiff, Nat.reduceLT, Nat.reduceMul, Nat.reduceSub, Int.reduceEq, Int.reduceLT, Int.reduceLE, Int.reduceNeg]; rfl) trivial ?_
  intro i hi _
  simp only [go_sem, Int.cast_ofNat_Int, Int.reduceToNat, Bool.true_xor, Bool.false_xor, Bool.xor_true, Bool.xor_false, Nat.reduceAdd, Nat.reduceBEq, Nat.reduceLeDiff, Nat.reduceLT, Nat.reduceMul, Nat.reduceSub, Int.reduceEq, Int.reduceLT, Int.reduceLE, Int.reduceNeg, k2]
theorem s108 (n : Nat) (x z : SBlk) (v : Nat) (r C U D f g h) (B : List Nat) (hB : ∀ b ∈ B, b < C.length) (hl : B.length ≤ 16) :
    call1 T (n + 7) (.fn 108) [.slc 2 v 0 B.length, .fn 109 [.ptr 1 0 0 0]] ⟨[x, .box (lrC r C U D f g h), .arr v 1 (bS B) false, z], [], 0⟩ =
    some (.tup [], ⟨[x, .box (lrC r C U D f g h), .arr v 1 (bS (srt C B B.length)) false, z], [], 0⟩) := by
  refine call_in e108 (by rfl) ?_
  have h58 := s162 n x z v r C U D f g h B hB hl
  simp only [c108, go_sem, Int.cast_ofNat_Int, Int.reduceToNat, Bool.true_xor, Bool.false_xor, Bool.xor_true, Bool.xor_false, Nat.reduceAdd, Nat.reduceBEq, Nat.reduceLeDiff, Nat.reduceLT, Nat.reduceMul, Nat.reduceSub, Int.reduceEq, Int.reduceLT, Int.reduceLE, Int.reduceNeg, h58]
/-! ### The channels that are bad, and those that are proved -/
def uA (U : List Int) (a : Nat) : Int := U.getD a 0
theorem uA_of {U : List Int} {a : Nat} {u} (h : U[a]? = some u) : uA U a = u := by simp [uA, h]
def badI (C : List (Int × Int)) (U : List Int) (w lo : Int) (i : Nat) : Bool := decide (uA U i = 0) && !decide ((cA C i).1 < w) && decide (rtV (cA C i).1 (cA C i).2 < lo)
def prvI (C : List (Int × Int)) (U : List Int) (w lo hi : Int) (i : Nat) : Bool := decide (uA U i = 0) && !decide ((cA C i).1 < w) && !decide (rtV (cA C i).1 (cA C i).2 < lo) && decide (hi ≤ rtV (cA C i).1 (cA C i).2)
def upto (p : Nat → Bool) (i : Nat) : List Nat := (List.range i).filter p
theorem upto_yes {p : Nat → Bool} {i : Nat} (h : p i = true) : upto p (i + 1) = upto p i ++ [i] := by simp [upto, List.range_succ, List.filter_append, h]
theorem upto_no {p : Nat → Bool} {i : Nat} (h : p i = false) : upto p (i + 1) = upto p i := by simp [upto, List.range_succ, List.filter_append, h]
theorem upto_len (p : Nat → Bool) (i : Nat) : (upto p i).length ≤ i := by
  have := List.length_filter_le p (List.range i)
  simpa [upto] using this
theorem upto_mem {p : Nat → Bool} {i a : Nat} : a ∈ upto p i ↔ a < i ∧ p a = true := by simp [upto]
theorem upto_sorted (p : Nat → Bool) (i : Nat) : (upto p i).Pairwise (· < ·) := by
  unfold upto
  exact List.Pairwise.filter _ List.pairwise_lt_range
theorem room8 {n : Nat} (h : n ≤ 16) : decide ((n + 1) * 8 ≤ mostLen) = true := by
  simp only [decide_eq_true_eq]
  exact Nat.le_trans (show (n + 1) * 8 ≤ 1000 by omega) (by decide)
def srtB (C : List (Int × Int)) (U : List Int) (w lo : Int) : List Nat := srt C (upto (badI C U w lo) 16) (upto (badI C U w lo) 16).length
abbrev rul (w lo hi le : Int) : SV := .agg [.int .i64 w, .int .i64 lo, .int .i64 hi, .int .i64 le]
theorem s58 (n : Nat) (H : Heap) (w lo hi le : Int) (r C U D f g h) (hC : C.length = 16) (hU : U.length = 16) :
    call1 T (n + 8) (.fn 58) [rul w lo hi le, lr r C U D f g h] H = some (.tup [.lst 1 (bS (srtB C U w lo)) false, .lst 1 (bS (upto (prvI C U w lo hi) 16)) false], H) := by
  refine call_pure e58 (by rfl) ?_
  simp only [c58, heap0, go_sem, Int.cast_ofNat_Int, Int.reduceToNat, Bool.true_xor, Bool.false_xor, Bool.xor_true, Bool.xor_false, Nat.reduceAdd, Nat.reduceBEq, Nat.reduceLeDiff, Nat.reduceLT, Nat.reduceMul, Nat.reduceSub, Int.reduceEq, Int.reduceLT, Int.reduceLE, Int.reduceNeg, hC]
  refine loop_rule (fun i => ([(2, .ptr 0 0 0 0), (3, .ptr 1 0 0 0), (4, .slc 2 (upto (badI C U w lo) i).length 0 (upto (badI C U w lo) i).length), (5, .slc 3 (upto (prvI C U w lo hi) i).length 0 (upto (prvI C U w lo hi) i).length), (9, .lst 2 (cS C) f), (10, .int .i64 16), (11, .int .i64 i)],
    ⟨[.box [.int .i64 w, .int .i64 lo, .int .i64 hi, .int .i64 le], .box (lrC r C U D f g h), .arr (upto (badI C U w lo) i).length 1 (bS (upto (badI C U w lo) i)) false, .arr (upto (prvI C U w lo hi) i).length 1 (bS (upto (prvI C U w lo hi) i)) false], [], 0⟩)) (fun _ => True) 16 (by simp only [go_sem, Int.cast_ofNat_Int, Int.reduceToNat, Bool.true_xor, Bool.false_xor, Bool.xor_true, Bool.xor_false, Nat.reduceAdd, Nat.reduceBEq, Nat.reduceLeDiff, Nat.reduceLT, Nat.reduceMul, Nat.reduceSub, Int.reduceEq, Int.reduceLT, Int.reduceLE, Int.reduceNeg]; rfl) trivial ?_
  intro i hi' _
  rcases Nat.lt_or_ge i 16 with hlt | hge
  · obtain ⟨c, hc⟩ := getS (l := C) (i := i) (by omega)
    obtain ⟨u, hu⟩ := getS (l := U) (i := i) (by omega)
    have hlt' : decide ((i : Int) < 16) = true := decide_eq_true (by omega)
    have hlC : i < C.length := by omega
    have hlU : i < U.length := by omega
    have hw : w64 ((i : Int) + 1) = ((i + 1 : Nat) : Int) := w64_suc (n := 16) hlt ln16
    have hb : badI C U w lo i = (decide (u = 0) && !decide (c.1 < w) && decide (rtV c.1 c.2 < lo)) := by simp only [badI, uA_of hu, cA_of hc]
    have hp : prvI C U w lo hi i = (decide (u = 0) && !decide (c.1 < w) && !decide (rtV c.1 c.2 < lo) && decide (hi ≤ rtV c.1 c.2)) := by simp only [prvI, uA_of hu, cA_of hc]
    have rb := room8 (n := (upto (badI C U w lo) i).length) (Nat.le_trans (upto_len _ _) (by omega))
    have rp := room8 (n := (upto (prvI C U w lo hi) i).length) (Nat.le_trans (upto_len _ _) (by omega))
    have gb := fun H => apB_grow 1 H 2 (upto (badI C U w lo) i).length (upto (badI C U w lo) i).length [[.int .i64 (i : Int)]] (bS (upto (badI C U w lo) i)) (bS_len _)
    have gp := fun H => apB_grow 1 H 3 (upto (prvI C U w lo hi) i).length (upto (prvI C U w lo hi) i).length [[.int .i64 (i : Int)]] (bS (upto (prvI C U w lo hi) i)) (bS_len _)
    have h43 := fun H => s107 (n + 6) H c.1 c.2
    cases k1 : decide (u = 0) with
    | false =>
      have e1 := upto_no (p := badI C U w lo) (i := i) (by rw [hb, k1]; rfl)
      have e2 := upto_no (p := prvI C U w lo hi) (i := i) (by rw [hp, k1]; rfl)
      simp only [go_sem, Int.cast_ofNat_Int, Int.reduceToNat, Bool.true_xor, Bool.false_xor, Bool.xor_true, Bool.xor_false, Nat.reduceAdd, Nat.reduceBEq, Nat.reduceLeDiff, Nat.reduceLT, Nat.reduceMul, Nat.reduceSub, Int.reduceEq, Int.reduceLT, Int.reduceLE, Int.reduceNeg, hlt, hlt', hlC, hlU, hc, hu, k1, hw, e1, e2]
      exact ⟨by first | trivial | omega, by first | trivial | rfl, trivial⟩
    | true =>
      cases k2 : decide (c.1 < w) with
      | true =>
        have e1 := upto_no (p := badI C U w lo) (i := i) (by rw [hb, k1, k2]; rfl)
        have e2 := upto_no (p := prvI C U w lo hi) (i := i) (by rw [hp, k1, k2]; rfl)
        simp only [go_sem, Int.cast_ofNat_Int, Int.reduceToNat, Bool.true_xor, Bool.false_xor, Bool.xor_true, Bool.xor_false, Nat.reduceAdd, Nat.reduceBEq, Nat.reduceLeDiff, Nat.reduceLT, Nat.reduceMul, Nat.reduceSub, Int.reduceEq, Int.reduceLT, Int.reduceLE, Int.reduceNeg, hlt, hlt', hlC, hlU, hc, hu, k1, k2, hw, e1, e2]
        exact ⟨by first | trivial | omega, by first | trivial | rfl, trivial⟩
      | false =>
        cases k3 : decide (rtV c.1 c.2 < lo) with
        | true =>
          have e1 := upto_yes (p := badI C U w lo) (i := i) (by rw [hb, k1, k2, k3]; rfl)
          have e2 := upto_no (p := prvI C U w lo hi) (i := i) (by rw [hp, k1, k2, k3]; rfl)
          simp only [go_sem, Int.cast_ofNat_Int, Int.reduceToNat, Bool.true_xor, Bool.false_xor, Bool.xor_true, Bool.xor_false, Nat.reduceAdd, Nat.reduceBEq, Nat.reduceLeDiff, Nat.reduceLT, Nat.reduceMul, Nat.reduceSub, Int.reduceEq, Int.reduceLT, Int.reduceLE, Int.reduceNeg, hlt, hlt', hlC, hlU, hc, hu, k1, k2, k3, h43, rb, gb, bS_snoc, hw, e1, e2, List.length_append]
          exact ⟨by first | trivial | omega, by first | trivial | rfl, trivial⟩
        | false =>
          have e1 := upto_no (p := badI C U w lo) (i := i) (by rw [hb, k1, k2, k3]; rfl)
          cases k4 : decide (hi ≤ rtV c.1 c.2) with
          | true =>
            have e2 := upto_yes (p := prvI C U w lo hi) (i := i) (by rw [hp, k1, k2, k3, k4]; rfl)
            simp only [go_sem, Int.cast_ofNat_Int, Int.reduceToNat, Bool.true_xor, Bool.false_xor, Bool.xor_true, Bool.xor_false, Nat.reduceAdd, Nat.reduceBEq, Nat.reduceLeDiff, Nat.reduceLT, Nat.reduceMul, Nat.reduceSub, Int.reduceEq, Int.reduceLT, Int.reduceLE, Int.reduceNeg, hlt, hlt', hlC, hlU, hc, hu, k1, k2, k3, k4, h43, rp, gp, bS_snoc, hw, e1, e2, List.length_append]
            exact ⟨by first | trivial | omega, by first | trivial | rfl, trivial⟩
          | false =>
            have e2 := upto_no (p := prvI C U w lo hi) (i := i) (by rw [hp, k1, k2, k3, k4]; rfl)
            simp only [go_sem, Int.cast_ofNat_Int, Int.reduceToNat, Bool.true_xor, Bool.false_xor, Bool.xor_true, Bool.xor_false, Nat.reduceAdd, Nat.reduceBEq, Nat.reduceLeDiff, Nat.reduceLT, Nat.reduceMul, Nat.reduceSub, Int.reduceEq, Int.reduceLT, Int.reduceLE, Int.reduceNeg, hlt, hlt', hlC, hlU, hc, hu, k1, k2, k3, k4, h43, hw, e1, e2]
            exact ⟨by first | trivial | omega, by first | trivial | rfl, trivial⟩
  · obtain rfl : i = 16 := by omega
    have h55 := fun x z => s108 n x z (upto (badI C U w lo) 16).length r C U D f g h (upto (badI C U w lo) 16) (fun b hb => by have := (upto_mem.1 hb).1; omega) (upto_len _ _)
    have hz : (upto (badI C U w lo) 16).length = (srtB C U w lo).length := (srt_len C _ _ (Nat.le_refl _)).symm
    have fz := fun N H d v e => fz_bS N H d v (srtB C U w lo) e
    rw [← hz] at fz
    have hsr : srt C (upto (badI C U w lo) 16) (upto (badI C U w lo) 16).length = srtB C U w lo := rfl
    rw [hsr] at h55
    simp only [go_sem, Int.cast_ofNat_Int, Int.reduceToNat, Bool.true_xor, Bool.false_xor, Bool.xor_true, Bool.xor_false, Nat.reduceAdd, Nat.reduceBEq, Nat.reduceLeDiff, Nat.reduceLT, Nat.reduceMul, Nat.reduceSub, Int.reduceEq, Int.reduceLT, Int.reduceLE, Int.reduceNeg, show decide (((16 : Nat) : Int) < 16) = false from by decide, h55, fz]
def nh (d : Int) : Int := min (max (w64 (2 * d)) 1) 64
def updU (r : Int) (U D : List Int) (i : Nat) : List Int := U.set i (w64 (w64 (r + 1) + nh (uA D i)))
def updD (D : List Int) (i : Nat) : List Int := D.set i (nh (uA D i))
def pk (r : Int) (U D : List Int) (S : List Nat) : Nat → List Int × List Int
  | 0 => (U, D)
  | m + 1 => match S[m]? with
    | some i => (updU r (pk r U D S m).1 (pk r U D S m).2 i, updD (pk r U D S m).2 i)
    | none => pk r U D S m
theorem pk_suc {r U D S m i} (h : S[m]? = some i) : pk r U D S (m + 1) = (updU r (pk r U D S m).1 (pk r U D S m).2 i, updD (pk r U D S m).2 i) := by simp only [pk, h]
theorem pk_len1 (r U D S) : ∀ m, (pk r U D S m).1.length = U.length
  | 0 => rfl
  | m + 1 => by
    have ih := pk_len1 r U D S m
    simp only [pk]
    cases S[m]? with
    | none => exact ih
    | some i => simp [updU, ih]
theorem pk_len2 (r U D S) : ∀ m, (pk r U D S m).2.length = D.length
  | 0 => rfl
  | m + 1 => by
    have ih := pk_len2 r U D S m
    simp only [pk]
    cases S[m]? with
    | none => exact ih
    | some i => simp [updD, ih]
/-- Those for which p holds are put to 0. -/
def zD (p : Nat → Bool) (D : List Int) : List Int := (List.range D.length).map fun j => bif p j then 0 else uA D j
theorem zD_len (p D) : (zD p D).length = D.length := by simp [zD]
theorem zD_get {p : Nat → Bool} {D : List Int} {j : Nat} {d} (h : D[j]? = some d) : (zD p D)[j]? = some (bif p j then 0 else d) := by
  have := (List.getElem?_eq_some_iff.1 h).1
  simp [zD, this, uA_of h]
def zrs (D : List Int) (P : List Nat) : Nat → List Int
  | 0 => D
  | m + 1 => match P[m]? with
    | some i => (zrs D P m).set i 0
    | none => zrs D P m
theorem zrs_suc {D P m i} (h : P[m]? = some i) : zrs D P (m + 1) = (zrs D P m).set i 0 := by simp only [zrs, h]
theorem zrs_len (D P) : ∀ m, (zrs D P m).length = D.length
  | 0 => rfl
  | m + 1 => by
    have ih := zrs_len D P m
    simp only [zrs]
    cases P[m]? with
    | none => exact ih
    | some i => simp [ih]
theorem zrs_get (D P) : ∀ m j, (zrs D P m)[j]? = if j ∈ P.take m then (D[j]?).map (fun _ => 0) else D[j]?
  | 0, j => by simp [zrs]
  | m + 1, j => by
    have ih := zrs_get D P m j
    simp only [zrs]
    cases h : P[m]? with
    | none => rw [List.take_add_one, h]; simpa using ih
    | some i =>
      simp only
      rw [take_snoc h, List.getElem?_set, ih, zrs_len]
      by_cases h1 : i = j
      · subst h1
        simp only [if_true, List.mem_append, List.mem_singleton, or_true]
        split
        · rename_i h2; rw [List.getElem?_eq_getElem h2]; rfl
        · rename_i h2; rw [List.getElem?_eq_none (by omega)]; rfl
      · simp only [if_neg h1, List.mem_append, List.mem_singleton]
        have : (j = i) = False := by simp; omega
        simp only [this, or_false]
theorem zrs_end (D : List Int) (p : Nat → Bool) (h : D.length = 16) : zrs D (upto p 16) (upto p 16).length = zD p D := by
  apply List.ext_getElem?
  intro j
  rw [zrs_get, List.take_length]
  rcases Nat.lt_or_ge j 16 with h3 | h3
  · obtain ⟨d, hd⟩ := getS (l := D) (i := j) (by omega)
    rw [zD_get hd, hd]
    cases hp : p j with
    | true => rw [if_pos (upto_mem.2 ⟨h3, hp⟩)]; rfl
    | false => rw [if_neg (fun h => by rw [(upto_mem.1 h).2] at hp; cases hp)]; rfl
  · rw [if_neg (fun h => by have := (upto_mem.1 h).1; omega), List.getElem?_eq_none (by omega), List.getElem?_eq_none (by rw [zD_len]; omega)]
def fU (r1 u : Int) : Int := bif decide (u ≤ r1) then 0 else u
def fr (U : List Int) : Int := (U.count 0 : Nat)
def kI (S : List Nat) (U : List Int) (le : Int) : Nat := (max 0 (min (S.length : Int) (w64 (fr U - le)))).toNat
def rightB (w lo hi le : Int) : Bool := decide (1 ≤ w) && decide (w ≤ 1000) && decide (0 ≤ lo) && decide (lo ≤ hi) && decide (hi ≤ 1000) && decide (1 ≤ le) && decide (le ≤ 16)
/-- What is left behind a round: Until, Hold. -/
def clU (r : Int) (C : List (Int × Int)) (U D : List Int) (w lo le : Int) : List Int := (pk r U D (srtB C U w lo) (kI (srtB C U w lo) U le)).1.map (fU (w64 (r + 1)))
def clD (r : Int) (C : List (Int × Int)) (U D : List Int) (w lo hi le : Int) : List Int := zD (prvI C U w lo hi) (pk r U D (srtB C U w lo) (kI (srtB C U w lo) U le)).2
def clV (fl : Bool) (r : Int) (C : List (Int × Int)) (U D : List Int) (w lo hi le : Int) : SV :=
  bif vB r C U D then bif rightB w lo hi le then bif decide (r = 1073741824) then .tup [lz, .int .i64 13]
      else .tup [lr (w64 (r + 1)) C0 (clU r C U D w lo le) (clD r C U D w lo hi le) fl fl fl, .int .i64 0]
    else .tup [lz, .int .i64 2]
  else .tup [lz, .int .i64 1]
theorem s57 (n : Nat) (H : Heap) (w lo hi le : Int) : call1 T (n + 1) (.fn 57) [rul w lo hi le] H = some (.bool (rightB w lo hi le), H) := by
  refine call_pure e57 (by rfl) ?_
  unfold rightB
  cases h1 : decide (1 ≤ w) with
  | false => simp only [c57, heap0, go_sem, Int.cast_ofNat_Int, Int.reduceToNat, Bool.true_xor, Bool.false_xor, Bool.xor_true, Bool.xor_false, Nat.reduceAdd, Nat.reduceBEq, Nat.reduceLeDiff, Nat.reduceLT, Nat.reduceMul, Nat.reduceSub, Int.reduceEq, Int.reduceLT, Int.reduceLE, Int.reduceNeg, h1]
  | true =>
  cases h2 : decide (w ≤ 1000) with
  | false => simp only [c57, heap0, go_sem, Int.cast_ofNat_Int, Int.reduceToNat, Bool.true_xor, Bool.false_xor, Bool.xor_true, Bool.xor_false, Nat.reduceAdd, Nat.reduceBEq, Nat.reduceLeDiff, Nat.reduceLT, Nat.reduceMul, Nat.reduceSub, Int.reduceEq, Int.reduceLT, Int.reduceLE, Int.reduceNeg, h1, h2]
  | true =>
  cases h3 : decide (0 ≤ lo) with
  | false => simp only [c57, heap0, go_sem, Int.cast_ofNat_Int, Int.reduceToNat, Bool.true_xor, Bool.false_xor, Bool.xor_true, Bool.xor_false, Nat.reduceAdd, Nat.reduceBEq, Nat.reduceLeDiff, Nat.reduceLT, Nat.reduceMul, Nat.reduceSub, Int.reduceEq, Int.reduceLT, Int.reduceLE, Int.reduceNeg, h1, h2, h3]
  | true =>
  cases h4 : decide (lo ≤ hi) with
  | false => simp only [c57, heap0, go_sem, Int.cast_ofNat_Int, Int.reduceToNat, Bool.true_xor, Bool.false_xor, Bool.xor_true, Bool.xor_false, Nat.reduceAdd, Nat.reduceBEq, Nat.reduceLeDiff, Nat.reduceLT, Nat.reduceMul, Nat.reduceSub, Int.reduceEq, Int.reduceLT, Int.reduceLE, Int.reduceNeg, h1, h2, h3, h4]
  | true =>
  cases h5 : decide (hi ≤ 1000) with
  | false => simp only [c57, heap0, go_sem, Int.cast_ofNat_Int, Int.reduceToNat, Bool.true_xor, Bool.false_xor, Bool.xor_true, Bool.xor_false, Nat.reduceAdd, Nat.reduceBEq, Nat.reduceLeDiff, Nat.reduceLT, Nat.reduceMul, Nat.reduceSub, Int.reduceEq, Int.reduceLT, Int.reduceLE, Int.reduceNeg, h1, h2, h3, h4, h5]
  | true =>
  cases h6 : decide (1 ≤ le) with
  | false => simp only [c57, heap0, go_sem, Int.cast_ofNat_Int, Int.reduceToNat, Bool.true_xor, Bool.false_xor, Bool.xor_true, Bool.xor_false, Nat.reduceAdd, Nat.reduceBEq, Nat.reduceLeDiff, Nat.reduceLT, Nat.reduceMul, Nat.reduceSub, Int.reduceEq, Int.reduceLT, Int.reduceLE, Int.reduceNeg, h1, h2, h3, h4, h5, h6]
  | true => simp only [c57, heap0, go_sem, Int.cast_ofNat_Int, Int.reduceToNat, Bool.true_xor, Bool.false_xor, Bool.xor_true, Bool.xor_false, Nat.reduceAdd, Nat.reduceBEq, Nat.reduceLeDiff, Nat.reduceLT, Nat.reduceMul, Nat.reduceSub, Int.reduceEq, Int.reduceLT, Int.reduceLE, Int.reduceNeg, h1, h2, h3, h4, h5, h6]
theorem bS_take (L : List Nat) (n : Nat) : (bS L).take n = bS (L.take n) := by simp [bS]
theorem srtB_mem {C U w lo a} (h : a ∈ srtB C U w lo) : a < 16 := by
  have := (srt_perm C (upto (badI C U w lo) 16) (upto (badI C U w lo) 16).length).mem_iff.1 h
  rw [List.take_length] at this
  exact (upto_mem.1 this).1
theorem srtB_len (C U w lo) : (srtB C U w lo).length ≤ 16 := by
  unfold srtB
  rw [srt_len _ _ _ (Nat.le_refl _)]
  exact upto_len _ _
theorem count_take {U : List Int} {i : Nat} {u : Int} (h : U[i]? = some u) : (((U.take (i + 1)).count 0 : Nat) : Int) = ((U.take i).count 0 : Nat) + bif decide (u = 0) then 1 else 0 := by
  rw [take_snoc h, List.count_append]
  by_cases hu : u = 0
  · subst hu; simp
  · simp [hu]
abbrev hpC (r : Int) (C : List (Int × Int)) (U D : List Int) (f g h : Bool) (w lo hi le R : Int) (Cc : List (Int × Int)) (Uu Dd : List Int) : List SBlk :=
  [.box (lrC r C U D f g h), .box [.int .i64 0, .lst 0 [] true, .lst 0 [] true, .lst 0 [] true], .box [.int .i64 w, .int .i64 lo, .int .i64 hi, .int .i64 le], .box (lrC r C U D f g h),
    .box (lsC r 6 16 16 16), .box (lsC 0 6 16 16 16), .arr 0 2 (cS Cc) true, .arr 0 1 (iS Uu) true, .arr 0 1 (iS Dd) true, .box (lsC r 6 16 16 16), .box (lsC R 6 16 16 16)]
theorem s18 (n : Nat) (H : Heap) (r C U D f g h w lo hi le) : call1 T (n + 9) (.fn 18) [lr r C U D f g h, .int .i64 w, .int .i64 lo, .int .i64 hi, .int .i64 le] H = some (clV true r C U D w lo hi le, H) := by
  refine call_pure e18 (by rfl) ?_
  have h12 := fun H => s54 (n + 6) H r C U D f g h
  have h52 := fun H => s57 (n + 7) H w lo hi le
  cases hv : vB r C U D with
  | false => simp only [c18, heap0, go_sem, Int.cast_ofNat_Int, Int.reduceToNat, Bool.true_xor, Bool.false_xor, Bool.xor_true, Bool.xor_false, Nat.reduceAdd, Nat.reduceBEq, Nat.reduceLeDiff, Nat.reduceLT, Nat.reduceMul, Nat.reduceSub, Int.reduceEq, Int.reduceLT, Int.reduceLE, Int.reduceNeg, h12, hv, clV]
  | true =>
    cases hr : rightB w lo hi le with
    | false => simp only [c18, heap0, go_sem, Int.cast_ofNat_Int, Int.reduceToNat, Bool.true_xor, Bool.false_xor, Bool.xor_true, Bool.xor_false, Nat.reduceAdd, Nat.reduceBEq, Nat.reduceLeDiff, Nat.reduceLT, Nat.reduceMul, Nat.reduceSub, Int.reduceEq, Int.reduceLT, Int.reduceLE, Int.reduceNeg, h12, h52, hv, hr, clV]
    | true =>
      cases h1 : decide (r = 1073741824) with
      | true => simp only [c18, heap0, go_sem, Int.cast_ofNat_Int, Int.reduceToNat, Bool.true_xor, Bool.false_xor, Bool.xor_true, Bool.xor_false, Nat.reduceAdd, Nat.reduceBEq, Nat.reduceLeDiff, Nat.reduceLT, Nat.reduceMul, Nat.reduceSub, Int.reduceEq, Int.reduceLT, Int.reduceLE, Int.reduceNeg, h12, h52, hv, hr, h1, clV]
      | false =>
        obtain ⟨⟨r0, r1, hC, hU, hD⟩, _⟩ := vB_iff.1 hv
        have hrr := hr
        simp only [rightB, Bool.and_eq_true, decide_eq_true_eq] at hrr
        have h47 := fun x y z es => s47k (n + 6) x y z es r C U D f g h hC hU hD
        simp only [c18, heap0, go_sem, Int.cast_ofNat_Int, Int.reduceToNat, Bool.true_xor, Bool.false_xor, Bool.xor_true, Bool.xor_false, Nat.reduceAdd, Nat.reduceBEq, Nat.reduceLeDiff, Nat.reduceLT, Nat.reduceMul, Nat.reduceSub, Int.reduceEq, Int.reduceLT, Int.reduceLE, Int.reduceNeg, h12, h52, hv, hr, h1, h47, clV, hU]
        refine loop_rule (fun i => ([(4, .int .i64 le), (5, .ptr 0 0 0 0), (10, .ptr 1 0 0 0), (12, .ptr 2 0 0 0), (13, .ptr 10 0 0 0), (14, .int .i64 ((U.take i).count 0 : Nat)), (48, .lst 1 (iS U) g), (49, .int .i64 16), (50, .int .i64 i)],
          ⟨hpC r C U D f g h w lo hi le r C U D, [], 0⟩)) (fun _ => True) 16 (by simp only [go_sem, Int.cast_ofNat_Int, Int.reduceToNat, Bool.true_xor, Bool.false_xor, Bool.xor_true, Bool.xor_false, Nat.reduceAdd, Nat.reduceBEq, Nat.reduceLeDiff, Nat.reduceLT, Nat.reduceMul, Nat.reduceSub, Int.reduceEq, Int.reduceLT, Int.reduceLE, Int.reduceNeg]; rfl) trivial ?_
        intro i hi' _
        rcases Nat.lt_or_ge i 16 with hlt | hge
        · obtain ⟨u, hu⟩ := getS (l := U) (i := i) (by omega)
          have hlt' : decide ((i : Int) < 16) = true := decide_eq_true (by omega)
          have hlU : i < U.length := by omega
          have hw : w64 ((i : Int) + 1) = ((i + 1 : Nat) : Int) := w64_suc (n := 16) hlt ln16
          have hct := count_take hu
          have hcl : (U.take i).count 0 ≤ i := Nat.le_trans (List.count_le_length) (by simp; omega)
          have hw2 : w64 (((U.take i).count 0 : Nat) + 1 : Int) = ((U.take i).count 0 : Nat) + 1 := w64_id (by omega) (by omega)
          cases k1 : decide (u = 0) with
          | true =>
            rw [k1] at hct
            simp only [go_sem, Int.cast_ofNat_Int, Int.reduceToNat, Bool.true_xor, Bool.false_xor, Bool.xor_true, Bool.xor_false, Nat.reduceAdd, Nat.reduceBEq, Nat.reduceLeDiff, Nat.reduceLT, Nat.reduceMul, Nat.reduceSub, Int.reduceEq, Int.reduceLT, Int.reduceLE, Int.reduceNeg, hlt, hlt', hlU, hu, k1, hw, hw2, hct]
            exact ⟨by first | trivial | omega, by first | trivial | rfl, trivial⟩
          | false =>
            rw [k1] at hct
            simp only [go_sem, Int.cast_ofNat_Int, Int.reduceToNat, Bool.true_xor, Bool.false_xor, Bool.xor_true, Bool.xor_false, Nat.reduceAdd, Nat.reduceBEq, Nat.reduceLeDiff, Nat.reduceLT, Nat.reduceMul, Nat.reduceSub, Int.reduceEq, Int.reduceLT, Int.reduceLE, Int.reduceNeg, hlt, hlt', hlU, hu, k1, hw, hct]
            exact ⟨by first | trivial | omega, by first | trivial | rfl, trivial⟩
        obtain rfl : i = 16 := by omega
        have htk : U.take 16 = U := List.take_of_length_le (by omega)
        have h53 := fun H => s58 n H w lo hi le r C U D f g h hC hU
        have hfr : (U.count 0 : Nat) ≤ 16 := hU ▸ List.count_le_length
        have hS := srtB_len C U w lo
        have hK0 : decide (0 ≤ max 0 (min ((srtB C U w lo).length : Int) (w64 (((U.count 0 : Nat) : Int) - le)))) = true := decide_eq_true (by omega)
        have hK1 : decide (max 0 (min ((srtB C U w lo).length : Int) (w64 (((U.count 0 : Nat) : Int) - le))) ≤ ((srtB C U w lo).length : Int)) = true := decide_eq_true (by omega)
        have hKe : (max 0 (min ((srtB C U w lo).length : Int) (w64 (((U.count 0 : Nat) : Int) - le)))).toNat = kI (srtB C U w lo) U le := rfl
        have hKl : kI (srtB C U w lo) U le ≤ (srtB C U w lo).length := by unfold kI; omega
        have hTl : ((srtB C U w lo).take (kI (srtB C U w lo) U le)).length = kI (srtB C U w lo) U le := by simp; omega
        simp only [go_sem, Int.cast_ofNat_Int, Int.reduceToNat, Bool.true_xor, Bool.false_xor, Bool.xor_true, Bool.xor_false, Nat.reduceAdd, Nat.reduceBEq, Nat.reduceLeDiff, Nat.reduceLT, Nat.reduceMul, Nat.reduceSub, Int.reduceEq, Int.reduceLT, Int.reduceLE, Int.reduceNeg, show decide (((16 : Nat) : Int) < 16) = false from by decide, h53, htk, hK0, hK1, hKe, bS_take, hTl]
        have hSm : ∀ a ∈ srtB C U w lo, a < 16 := fun a ha => srtB_mem ha
        have hcu : clU r C U D w lo le = (pk r U D (srtB C U w lo) (kI (srtB C U w lo) U le)).1.map (fU (w64 (r + 1))) := rfl
        have hcd : clD r C U D w lo hi le = zD (prvI C U w lo hi) (pk r U D (srtB C U w lo) (kI (srtB C U w lo) U le)).2 := rfl
        rw [hcu, hcd]
        clear hcu hcd hK0 hK1 hKe h53 h47 h12 h52
        generalize kI (srtB C U w lo) U le = K at *
        generalize srtB C U w lo = S at *
        refine loop_rule (fun m => ([(10, .ptr 1 0 0 0), (13, .ptr 10 0 0 0), (18, .lst 1 (bS (upto (prvI C U w lo hi) 16)) false), (73, .lst 1 (bS (S.take K)) false), (74, .int .i64 K), (75, .int .i64 m)],
          ⟨hpC r C U D f g h w lo hi le r C (pk r U D S m).1 (pk r U D S m).2, [], 0⟩)) (fun _ => True) K (by simp only [go_sem, Int.cast_ofNat_Int, Int.reduceToNat, Bool.true_xor, Bool.false_xor, Bool.xor_true, Bool.xor_false, Nat.reduceAdd, Nat.reduceBEq, Nat.reduceLeDiff, Nat.reduceLT, Nat.reduceMul, Nat.reduceSub, Int.reduceEq, Int.reduceLT, Int.reduceLE, Int.reduceNeg]; rfl) trivial ?_
        clear hi' hge
        intro m hm _
        have l1 := pk_len1 r U D S m
        have l2 := pk_len2 r U D S m
        rcases Nat.lt_or_ge m K with hlt | hge
        · obtain ⟨i, hi⟩ := getS (l := S) (i := m) (by omega)
          have hi16 := hSm i (List.mem_of_getElem? hi)
          have hti : (S.take K)[m]? = some i := by rw [List.getElem?_take, if_pos hlt, hi]
          obtain ⟨u, hu⟩ := getS (l := (pk r U D S m).1) (i := i) (by omega)
          obtain ⟨d, hd⟩ := getS (l := (pk r U D S m).2) (i := i) (by omega)
          have hlt' : decide ((m : Int) < (K : Int)) = true := decide_eq_true (by omega)
          have hi' : decide ((i : Int) < 16) = true := decide_eq_true (by omega)
          have hi16' : decide (i < 16) = true := decide_eq_true (by omega)
          have hw : w64 ((m : Int) + 1) = ((m + 1 : Nat) : Int) := w64_suc (n := 16) (by omega) ln16
          have hD1 : ((pk r U D S m).2.set i (nh d))[i]? = some (nh d) := List.getElem?_set_self (by omega)
          have hU' : w64 (w64 (r + 1) + nh d) = w64 (w64 (r + 1) + nh (uA (pk r U D S m).2 i)) := by rw [uA_of hd]
          have hpk := pk_suc (r := r) (U := U) (D := D) hi
          rw [updU, updD, uA_of hd] at hpk
          have hnh : min (max (w64 (2 * d)) 1) 64 = nh d := rfl
          simp only [go_sem, Int.cast_ofNat_Int, Int.reduceToNat, Bool.true_xor, Bool.false_xor, Bool.xor_true, Bool.xor_false, Nat.reduceAdd, Nat.reduceBEq, Nat.reduceLeDiff, Nat.reduceLT, Nat.reduceMul, Nat.reduceSub, Int.reduceEq, Int.reduceLT, Int.reduceLE, Int.reduceNeg, hlt, hlt', hTl, hti, hi', hi16', hu, hd, hnh, iS_set, hD1, hw, hpk]
          exact ⟨by first | trivial | omega, by first | trivial | rfl, trivial⟩
        obtain rfl : m = K := by omega
        simp only [go_sem, Int.cast_ofNat_Int, Int.reduceToNat, Bool.true_xor, Bool.false_xor, Bool.xor_true, Bool.xor_false, Nat.reduceAdd, Nat.reduceBEq, Nat.reduceLeDiff, Nat.reduceLT, Nat.reduceMul, Nat.reduceSub, Int.reduceEq, Int.reduceLT, Int.reduceLE, Int.reduceNeg, show decide ((m : Int) < (m : Int)) = false from decide_eq_false (by omega)]
        generalize (pk r U D S m).1 = U1 at *
        generalize (pk r U D S m).2 = D1 at *
        rw [hU] at l1
        rw [hD] at l2
        have hze := zrs_end D1 (prvI C U w lo hi) l2
        have hPm : ∀ a ∈ upto (prvI C U w lo hi) 16, a < 16 := fun a ha => (upto_mem.1 ha).1
        have hPl := upto_len (prvI C U w lo hi) 16
        rw [← hze]
        clear hze
        generalize upto (prvI C U w lo hi) 16 = P at *
        clear hge hm
        refine loop_rule (fun q => ([(10, .ptr 1 0 0 0), (13, .ptr 10 0 0 0), (105, .lst 1 (bS P) false), (106, .int .i64 P.length), (107, .int .i64 q)],
          ⟨hpC r C U D f g h w lo hi le r C U1 (zrs D1 P q), [], 0⟩)) (fun _ => True) P.length (by simp only [go_sem, Int.cast_ofNat_Int, Int.reduceToNat, Bool.true_xor, Bool.false_xor, Bool.xor_true, Bool.xor_false, Nat.reduceAdd, Nat.reduceBEq, Nat.reduceLeDiff, Nat.reduceLT, Nat.reduceMul, Nat.reduceSub, Int.reduceEq, Int.reduceLT, Int.reduceLE, Int.reduceNeg]; rfl) trivial ?_
        intro q hq _
        have l3 := zrs_len D1 P q
        rcases Nat.lt_or_ge q P.length with hlt | hge
        · obtain ⟨i, hi⟩ := getS hlt
          have hi16 := hPm i (List.mem_of_getElem? hi)
          obtain ⟨d, hd⟩ := getS (l := zrs D1 P q) (i := i) (by omega)
          have hi' : decide ((i : Int) < 16) = true := decide_eq_true (by omega)
          have hi16' : decide (i < 16) = true := decide_eq_true (by omega)
          have hw : w64 ((q : Int) + 1) = ((q + 1 : Nat) : Int) := w64_suc (n := 16) (by omega) ln16
          simp only [go_sem, Int.cast_ofNat_Int, Int.reduceToNat, Bool.true_xor, Bool.false_xor, Bool.xor_true, Bool.xor_false, Nat.reduceAdd, Nat.reduceBEq, Nat.reduceLeDiff, Nat.reduceLT, Nat.reduceMul, Nat.reduceSub, Int.reduceEq, Int.reduceLT, Int.reduceLE, Int.reduceNeg, hlt, hi, hi', hi16', hd, iS_set, hw, zrs_suc hi]
          exact ⟨by first | trivial | omega, by first | trivial | rfl, trivial⟩
        obtain rfl : q = P.length := by omega
        simp only [go_sem, Int.cast_ofNat_Int, Int.reduceToNat, Bool.true_xor, Bool.false_xor, Bool.xor_true, Bool.xor_false, Nat.reduceAdd, Nat.reduceBEq, Nat.reduceLeDiff, Nat.reduceLT, Nat.reduceMul, Nat.reduceSub, Int.reduceEq, Int.reduceLT, Int.reduceLE, Int.reduceNeg, show decide ((P.length : Int) < (P.length : Int)) = false from decide_eq_false (by omega)]
        generalize zrs D1 P P.length = D2 at *
        clear hge hq
        refine loop_rule (fun i => ([(10, .ptr 1 0 0 0), (13, .ptr 10 0 0 0), (121, .slc 7 0 0 16), (122, .int .i64 16), (123, .int .i64 i)],
          ⟨hpC r C U D f g h w lo hi le (w64 (r + 1)) (C0.take i ++ C.drop i) ((U1.map (fU (w64 (r + 1)))).take i ++ U1.drop i) D2, [], 0⟩)) (fun _ => True) 16 (by simp only [go_sem, Int.cast_ofNat_Int, Int.reduceToNat, Bool.true_xor, Bool.false_xor, Bool.xor_true, Bool.xor_false, Nat.reduceAdd, Nat.reduceBEq, Nat.reduceLeDiff, Nat.reduceLT, Nat.reduceMul, Nat.reduceSub, Int.reduceEq, Int.reduceLT, Int.reduceLE, Int.reduceNeg]; rfl) trivial ?_
        intro i hi' _
        have hlm : (U1.map (fU (w64 (r + 1)))).length = U1.length := by simp
        have hC0 : C0.length = C.length := by rw [C0_len, hC]
        rcases Nat.lt_or_ge i 16 with hlt | hge
        · obtain ⟨u, hu⟩ := getS (l := U1) (i := i) (by omega)
          obtain ⟨c, hc⟩ := getS (l := C) (i := i) (by omega)
          have hlt' : decide ((i : Int) < 16) = true := decide_eq_true (by omega)
          have hlt2 : decide (i < 16) = true := decide_eq_true hlt
          have hw : w64 ((i : Int) + 1) = ((i + 1 : Nat) : Int) := w64_suc (n := 16) hlt ln16
          have gu : ((U1.map (fU (w64 (r + 1)))).take i ++ U1.drop i)[i]? = some u := by rw [mid_get (by omega), hu]
          have gc : (C0.take i ++ C.drop i)[i]? = some c := by rw [mid_get (by omega), hc]
          have su : ((U1.map (fU (w64 (r + 1)))).take i ++ U1.drop i).set i (fU (w64 (r + 1)) u) = (U1.map (fU (w64 (r + 1)))).take (i + 1) ++ U1.drop (i + 1) := mid_set (by simp [hu]) hlm
          have sc : (C0.take i ++ C.drop i).set i (0, 0) = C0.take (i + 1) ++ C.drop (i + 1) := mid_set (by rw [C0, List.getElem?_replicate, if_pos hlt]) hC0
          cases k1 : decide (u ≤ w64 (r + 1)) with
          | true =>
            have hf : fU (w64 (r + 1)) u = 0 := by simp only [fU, k1, cond_true]
            rw [hf] at su
            simp only [go_sem, Int.cast_ofNat_Int, Int.reduceToNat, Bool.true_xor, Bool.false_xor, Bool.xor_true, Bool.xor_false, Nat.reduceAdd, Nat.reduceBEq, Nat.reduceLeDiff, Nat.reduceLT, Nat.reduceMul, Nat.reduceSub, Int.reduceEq, Int.reduceLT, Int.reduceLE, Int.reduceNeg, hlt, hlt', hlt2, gu, gc, k1, iS_set, cS_set2, su, sc, hw]
            exact ⟨by first | trivial | omega, by first | trivial | rfl, trivial⟩
          | false =>
            have hf : fU (w64 (r + 1)) u = u := by simp only [fU, k1, cond_false]
            rw [hf] at su
            have hid : ((U1.map (fU (w64 (r + 1)))).take i ++ U1.drop i).set i u = (U1.map (fU (w64 (r + 1)))).take i ++ U1.drop i := by
              apply List.ext_getElem?
              intro j
              rw [List.getElem?_set]
              by_cases hj : i = j
              · subst hj; rw [if_pos rfl, gu, if_pos (by rw [mid_len hlm]; omega)]
              · rw [if_neg hj]
            rw [hid] at su
            simp only [go_sem, Int.cast_ofNat_Int, Int.reduceToNat, Bool.true_xor, Bool.false_xor, Bool.xor_true, Bool.xor_false, Nat.reduceAdd, Nat.reduceBEq, Nat.reduceLeDiff, Nat.reduceLT, Nat.reduceMul, Nat.reduceSub, Int.reduceEq, Int.reduceLT, Int.reduceLE, Int.reduceNeg, hlt, hlt', hlt2, gu, gc, k1, iS_set, cS_set2, ← su, sc, hw]
            exact ⟨by first | trivial | omega, by first | trivial | rfl, trivial⟩
        · obtain rfl : i = 16 := by omega
          have e1 : (U1.map (fU (w64 (r + 1)))).take 16 ++ U1.drop 16 = U1.map (fU (w64 (r + 1))) := mid_end (by omega) hlm
          have e2 : C0.take 16 ++ C.drop 16 = C0 := mid_end (by omega) hC0
          have e3 : (U1.map (fU (w64 (r + 1)))).length = 16 := by omega
          have e4 : D2.length = 16 := by omega
          simp only [go_sem, Int.cast_ofNat_Int, Int.reduceToNat, Bool.true_xor, Bool.false_xor, Bool.xor_true, Bool.xor_false, Nat.reduceAdd, Nat.reduceBEq, Nat.reduceLeDiff, Nat.reduceLT, Nat.reduceMul, Nat.reduceSub, Int.reduceEq, Int.reduceLT, Int.reduceLE, Int.reduceNeg, show decide (((16 : Nat) : Int) < 16) = false from by decide, e1, e2, fz_cS16 _ _ _ _ _ _ C0_len, fz_iS16 _ _ _ _ _ _ e3, fz_iS16 _ _ _ _ _ _ e4]



/-- A call that reads, and hands back no reference; what it makes is let go. -/
theorem call_rox {T : FuncId → Option Fun1} {f : FuncId} {F : Fun1} {xs : List SV} {n : Nat} {H : Heap} {v : SV} (hT : T f = some F) (hk : F.keep = false) (hs : scal1 v = true)
    (h : ∀ (R : Type) (k : SV → Heap → Option R) (bl : List SBlk) (ro : Nat), (bl = [] ∧ SV.refs.refsL xs = 0 ∨ bl = H.bl) → ∃ ext, runK (call1 T n) (fin1 F.res k) F.body [] (env0 xs) ⟨bl, [], ro⟩ () = k v ⟨bl ++ ext, [], ro⟩) :
    call1 T (n + 1) (.fn f) xs H = some (v, H) := by
  have hfz : ∀ N H', frz N H' depth1 v = some v := fun N H' => by
    cases v <;> simp only [scal1, Bool.false_eq_true] at hs <;> simp [depth1, frz, SV.refs]
  cases hp : pure0 F xs with
  | true =>
    refine call_pure hT hp ?_
    have hr : SV.refs.refsL xs = 0 := by
      unfold pure0 at hp
      simp only [Bool.and_eq_true, beq_iff_eq] at hp
      exact hp.1
    obtain ⟨ext, he⟩ := h SV (fun v H' => frz 0 H' depth1 v) [] 0 (.inl ⟨rfl, hr⟩)
    exact he.trans (hfz _ _)
  | false =>
    refine call_in hT hp ?_
    obtain ⟨ext, he⟩ := h _ (fun v H' => leave1 F.keep H v H') H.bl (min H.ro H.bl.length) (.inr rfl)
    refine he.trans ?_
    rw [hk, leave_not, hfz]
    obtain ⟨bl, es, ro⟩ := H
    simp [Sh.trunc]
def wstI (C : List (Int × Int)) (U : List Int) (w lo : Int) : Nat → Int
  | 0 => -1
  | i + 1 => bif badI C U w lo i && (decide (wstI C U w lo i < 0) || lt1 C i (wstI C U w lo i).toNat) then (i : Int) else wstI C U w lo i
theorem wst_lt (C U w lo) : ∀ i, wstI C U w lo i < i ∧ (-1 : Int) ≤ wstI C U w lo i
  | 0 => by simp [wstI]
  | i + 1 => by
    have ih := wst_lt C U w lo i
    simp only [wstI]
    cases badI C U w lo i && (decide (wstI C U w lo i < 0) || lt1 C i (wstI C U w lo i).toNat)
    · simp only [cond_false]; omega
    · simp only [cond_true]; omega
theorem wst_spec {C : List (Int × Int)} (h : AllC C) (U : List Int) (w lo : Int) : ∀ i, (wstI C U w lo i = -1 ∧ ∀ j, j < i → badI C U w lo j = false) ∨ (∃ b : Nat, b < i ∧ wstI C U w lo i = b ∧ badI C U w lo b = true ∧ ∀ j, j < i → badI C U w lo j = true → j = b ∨ tl C b j)
  | 0 => .inl ⟨rfl, fun j hj => by omega⟩
  | i + 1 => by
    have ih := wst_spec h U w lo i
    cases hb : badI C U w lo i with
    | false =>
      have e : wstI C U w lo (i + 1) = wstI C U w lo i := by simp only [wstI, hb, Bool.false_and, cond_false]
      rw [e]
      rcases ih with ⟨h1, h2⟩ | ⟨b, h1, h2, h3, h4⟩
      · refine .inl ⟨h1, fun j hj => ?_⟩
        rcases Nat.lt_or_ge j i with h5 | h5
        · exact h2 j h5
        · obtain rfl : j = i := by omega
          exact hb
      · refine .inr ⟨b, by omega, h2, h3, fun j hj hbj => ?_⟩
        rcases Nat.lt_or_ge j i with h5 | h5
        · exact h4 j h5 hbj
        · obtain rfl : j = i := by omega
          rw [hb] at hbj; cases hbj
    | true =>
      rcases ih with ⟨h1, h2⟩ | ⟨b, h1, h2, h3, h4⟩
      · have e : wstI C U w lo (i + 1) = i := by simp only [wstI, hb, h1]; rfl
        refine .inr ⟨i, by omega, e, hb, fun j hj hbj => ?_⟩
        rcases Nat.lt_or_ge j i with h5 | h5
        · rw [h2 j h5] at hbj; cases hbj
        · exact .inl (by omega)
      · have hn : decide ((b : Int) < 0) = false := decide_eq_false (by omega)
        cases hl : lt1 C i b with
        | true =>
          have e : wstI C U w lo (i + 1) = i := by simp only [wstI, hb, h2, hn, Int.toNat_natCast, hl]; rfl
          refine .inr ⟨i, by omega, e, hb, fun j hj hbj => ?_⟩
          rcases Nat.lt_or_ge j i with h5 | h5
          · refine .inr (.inl ?_)
            rcases h4 j h5 hbj with rfl | h6
            · exact hl
            · have h7 := tl_le h h6
              cases hq : lt1 C i j with
              | true => rfl
              | false => have := lt1_weak h h7 hq; rw [hl] at this; cases this
          · exact .inl (by omega)
        | false =>
          have e : wstI C U w lo (i + 1) = b := by simp only [wstI, hb, h2, hn, Int.toNat_natCast, hl]; rfl
          refine .inr ⟨b, by omega, e, h3, fun j hj hbj => ?_⟩
          rcases Nat.lt_or_ge j i with h5 | h5
          · exact h4 j h5 hbj
          · obtain rfl : j = i := by omega
            exact .inr (.inr ⟨hl, h1⟩)
theorem nh_bd (d : Int) : 1 ≤ nh d ∧ nh d ≤ 64 := by unfold nh; omega
theorem until_pos {r : Int} (h0 : 0 ≤ r) (h1 : r ≤ 1073741824) (d : Int) : w64 (w64 (r + 1) + nh d) = r + 1 + nh d ∧ r + 1 < w64 (w64 (r + 1) + nh d) := by
  have := nh_bd d
  rw [w64_id (n := r + 1) (by omega) (by omega), w64_id (by omega) (by omega)]
  omega
theorem uA_set {U : List Int} {i j : Nat} {x : Int} (hi : i < U.length) : uA (U.set i x) j = if i = j then x else uA U j := by
  simp only [uA, List.getD_eq_getElem?_getD, List.getElem?_set]
  split
  · rename_i h; first | rfl | (rw [if_pos (by omega)]; rfl)
  · rfl
section
variable {r : Int} {C : List (Int × Int)} {U D : List Int} {S : List Nat} (h0 : 0 ≤ r) (h1 : r ≤ 1073741824) (hU : U.length = 16) (hS : ∀ a ∈ S, a < 16)
include h0 h1 hU hS
/-- Those that were picked have another Until, and no other has. -/
theorem pk_at : ∀ m j, (j ∉ S.take m → uA (pk r U D S m).1 j = uA U j) ∧ (j ∈ S.take m → ∃ d, uA (pk r U D S m).1 j = w64 (w64 (r + 1) + nh d))
  | 0, j => by simp [pk]
  | m + 1, j => by
    have ih := pk_at m j
    have hl := pk_len1 r U D S m
    simp only [pk]
    cases h : S[m]? with
    | none => rw [List.take_add_one, h]; simpa using ih
    | some i =>
      have hi := hS i (List.mem_of_getElem? h)
      rw [take_snoc h]
      simp only [updU, List.mem_append, List.mem_singleton]
      rw [uA_set (by omega)]
      by_cases hij : i = j
      · subst hij
        simp only [if_true, or_true, not_true, false_implies, true_and, true_implies]
        exact ⟨_, rfl⟩
      · simp only [if_neg hij]
        have hji : ¬ j = i := fun h => hij h.symm
        simp only [hji, or_false]
        exact ih
theorem pk_zero (m j : Nat) : uA (pk r U D S m).1 j = 0 ↔ uA U j = 0 ∧ j ∉ S.take m := by
  have h := pk_at h0 h1 hU hS (D := D) m j
  by_cases hm : j ∈ S.take m
  · obtain ⟨d, hd⟩ := h.2 hm
    have := until_pos h0 h1 d
    constructor
    · intro hz; rw [hd] at hz; omega
    · intro hz; exact absurd hm hz.2
  · rw [h.1 hm]
    exact ⟨fun hz => ⟨hz, hm⟩, fun hz => hz.1⟩
theorem pk_fr (hz : ∀ a ∈ S, uA U a = 0) (hn : S.Nodup) : ∀ m, m ≤ S.length → fr (pk r U D S m).1 = fr U - m
  | 0, _ => by simp [pk]
  | m + 1, hm => by
    have ih := pk_fr hz hn m (by omega)
    obtain ⟨i, hi⟩ := getS (l := S) (i := m) (by omega)
    have hl := pk_len1 r U D S m
    have hi16 := hS i (List.mem_of_getElem? hi)
    have hnm : i ∉ S.take m := by
      intro hmem
      obtain ⟨q, hq⟩ := List.getElem?_of_mem hmem
      have hqm : q < m := by have := (List.getElem?_eq_some_iff.1 hq).1; simp at this; omega
      rw [List.getElem?_take, if_pos hqm] at hq
      have := (List.getElem?_inj (List.getElem?_eq_some_iff.1 hq).1 hn).1 (hq.trans hi.symm)
      omega
    have hzi := (pk_zero h0 h1 hU hS (D := D) m i).2 ⟨hz i (List.mem_of_getElem? hi), hnm⟩
    have hpos := until_pos h0 h1 (uA (pk r U D S m).2 i)
    rw [pk_suc hi]
    simp only [updU]
    generalize (pk r U D S m).1 = V at *
    have hiV : i < V.length := by omega
    have hv : V[i] = 0 := by
      have : V[i]? = some V[i] := List.getElem?_eq_getElem hiV
      rw [uA_of this] at hzi; exact hzi
    unfold fr at ih ⊢
    rw [List.count_set hiV, hv]
    have h1c : 1 ≤ V.count 0 := List.one_le_count_iff.2 (by rw [← hv]; exact List.getElem_mem hiV)
    have hne : (w64 (w64 (r + 1) + nh (uA (pk r U D S m).2 i)) == 0) = false := by simp; omega
    rw [hne]
    simp
    omega
end
theorem bad_pk {r C U D S w lo} (h0 : 0 ≤ r) (h1 : r ≤ 1073741824) (hU : U.length = 16) (hS : ∀ a ∈ S, a < 16) (m j : Nat) : badI C (pk r U D S m).1 w lo j = true ↔ badI C U w lo j = true ∧ j ∉ S.take m := by
  have := pk_zero h0 h1 hU hS (D := D) m j
  simp only [badI, Bool.and_eq_true, decide_eq_true_eq, this]
  constructor
  · rintro ⟨⟨⟨a, b⟩, c⟩, d⟩; exact ⟨⟨⟨a, c⟩, d⟩, b⟩
  · rintro ⟨⟨⟨a, c⟩, d⟩, b⟩; exact ⟨⟨⟨a, b⟩, c⟩, d⟩
theorem srtB_iff {C U w lo a} : a ∈ srtB C U w lo ↔ a < 16 ∧ badI C U w lo a = true := by
  have := (srt_perm C (upto (badI C U w lo) 16) (upto (badI C U w lo) 16).length).mem_iff (a := a)
  rw [List.take_length] at this
  rw [← upto_mem]
  exact this
theorem srtB_nodup (C U w lo) : (srtB C U w lo).Nodup := by
  have := srt_perm C (upto (badI C U w lo) 16) (upto (badI C U w lo) 16).length
  rw [List.take_length] at this
  refine this.nodup_iff.2 ?_
  exact (upto_sorted _ _).imp (fun h => by omega)
theorem srtB_sorted {C} (h : AllC C) (U w lo) : (srtB C U w lo).Pairwise (tl C) := srt_sorted h (upto_sorted _ _) _
theorem AllC_of {r C U D} (h : vB r C U D = true) : AllC C := fun c hc => by
  obtain ⟨j, hj⟩ := List.getElem?_of_mem hc
  exact vB_cB h hj
/-- What the reference picks. -/
theorem wst_pk {r C U D w lo} (hv : vB r C U D = true) (m : Nat) : wstI C (pk r U D (srtB C U w lo) m).1 w lo 16 = match (srtB C U w lo)[m]? with | some i => (i : Int) | none => -1 := by
  obtain ⟨⟨h0, h1, hC, hU, hD⟩, _⟩ := vB_iff.1 hv
  have hA := AllC_of hv
  have hbp := fun j => bad_pk (C := C) (D := D) (w := w) (lo := lo) h0 h1 hU (S := srtB C U w lo) (fun a ha => srtB_mem ha) m j
  have hs := wst_spec hA (pk r U D (srtB C U w lo) m).1 w lo 16
  cases h : (srtB C U w lo)[m]? with
  | none =>
    rcases hs with ⟨e, _⟩ | ⟨b, b1, e, b2, _⟩
    · exact e
    · obtain ⟨c1, c2⟩ := (hbp b).1 b2
      rw [List.take_of_length_le (by rw [List.getElem?_eq_none_iff] at h; omega)] at c2
      exact absurd (srtB_iff.2 ⟨b1, c1⟩) c2
  | some s =>
    have hsm := List.mem_of_getElem? h
    have hs16 := srtB_iff.1 hsm
    have hml := (List.getElem?_eq_some_iff.1 h).1
    have hn := srtB_nodup C U w lo
    have hsn : s ∉ (srtB C U w lo).take m := by
      intro hmem
      obtain ⟨q, hq⟩ := List.getElem?_of_mem hmem
      have hqm : q < m := by have := (List.getElem?_eq_some_iff.1 hq).1; simp at this; omega
      rw [List.getElem?_take, if_pos hqm] at hq
      have := (List.getElem?_inj (List.getElem?_eq_some_iff.1 hq).1 hn).1 (hq.trans h.symm)
      omega
    have hsb := (hbp s).2 ⟨hs16.2, hsn⟩
    rcases hs with ⟨_, e⟩ | ⟨b, b1, e, b2, b3⟩
    · rw [e s hs16.1] at hsb; cases hsb
    · rw [e]
      have : s = b := by
        rcases b3 s hs16.1 hsb with h5 | h5
        · exact h5
        · obtain ⟨c1, c2⟩ := (hbp b).1 b2
          obtain ⟨q, hq⟩ := List.getElem?_of_mem (srtB_iff.2 ⟨b1, c1⟩)
          have hql := (List.getElem?_eq_some_iff.1 hq).1
          rcases Nat.lt_or_ge q m with h6 | h6
          · exact absurd (List.mem_of_getElem? (by rw [List.getElem?_take, if_pos h6]; exact hq)) c2
          · rcases Nat.lt_or_ge m q with h7 | h7
            · have := List.pairwise_iff_getElem.1 (srtB_sorted hA U w lo) m q hml hql h7
              rw [(List.getElem?_eq_some_iff.1 h).2, (List.getElem?_eq_some_iff.1 hq).2] at this
              exact (tl_irr hA h5 this).elim
            · obtain rfl : q = m := by omega
              rw [h] at hq; cases hq; rfl
      rw [this]
abbrev hpR (r : Int) (C : List (Int × Int)) (U D : List Int) (f g h : Bool) (R : Int) (Cc : List (Int × Int)) (Uu Dd : List Int) : List SBlk :=
  [.box (lrC r C U D f g h), .box [.int .i64 0, .lst 0 [] true, .lst 0 [] true, .lst 0 [] true], .box (lrC r C U D f g h), .box (lsC r 4 16 16 16), .arr 0 2 (cS Cc) false, .arr 0 1 (iS Uu) false, .arr 0 1 (iS Dd) false, .box (lsC R 4 16 16 16)]
theorem ref_right (w lo hi le : Int) : (decide (w < 1) || decide (1000 < w) || decide (lo < 0) || decide (hi < lo) || decide (1000 < hi) || decide (le < 1) || decide (16 < le)) = !rightB w lo hi le := by
  rw [Bool.eq_iff_iff]; simp [rightB, or_assoc, Int.not_le]
theorem kI_le (S U le) : kI S U le ≤ S.length := by unfold kI; omega
def blk (U : List Int) : List Nat := upto (fun i => !decide (uA U i = 0)) 16
def blV (r : Int) (C : List (Int × Int)) (U D : List Int) : SV := bif vB r C U D then .tup [.lst 1 (bS (blk U)) false, .int .i64 0] else .tup [.lst 0 [] true, .int .i64 1]
theorem s19 (n : Nat) (H : Heap) (r C U D f g h) : call1 T (n + 3) (.fn 19) [lr r C U D f g h] H = some (blV r C U D, H) := by
  refine call_pure e19 (by rfl) ?_
  have h12 := fun H => s54 n H r C U D f g h
  cases hv : vB r C U D with
  | false => simp only [c19, heap0, go_sem, Int.cast_ofNat_Int, Int.reduceToNat, Bool.true_xor, Bool.false_xor, Bool.xor_true, Bool.xor_false, Nat.reduceAdd, Nat.reduceBEq, Nat.reduceLeDiff, Nat.reduceLT, Nat.reduceMul, Nat.reduceSub, Int.reduceEq, Int.reduceLT, Int.reduceLE, Int.reduceNeg, h12, hv, blV, vI_no hv]
  | true =>
    obtain ⟨⟨r0, r1, hC, hU, hD⟩, _⟩ := vB_iff.1 hv
    simp only [c19, heap0, go_sem, Int.cast_ofNat_Int, Int.reduceToNat, Bool.true_xor, Bool.false_xor, Bool.xor_true, Bool.xor_false, Nat.reduceAdd, Nat.reduceBEq, Nat.reduceLeDiff, Nat.reduceLT, Nat.reduceMul, Nat.reduceSub, Int.reduceEq, Int.reduceLT, Int.reduceLE, Int.reduceNeg, h12, hv, blV, vI_yes hv, hU]
    refine loop_rule (fun i => ([(5, .slc 1 (upto (fun i => !decide (uA U i = 0)) i).length 0 (upto (fun i => !decide (uA U i = 0)) i).length), (14, .lst 1 (iS U) g), (15, .int .i64 16), (16, .int .i64 i)],
      ⟨[.box (lrC r C U D f g h), .arr (upto (fun i => !decide (uA U i = 0)) i).length 1 (bS (upto (fun i => !decide (uA U i = 0)) i)) false], [], 0⟩)) (fun _ => True) 16 (by simp only [go_sem, Int.cast_ofNat_Int, Int.reduceToNat, Bool.true_xor, Bool.false_xor, Bool.xor_true, Bool.xor_false, Nat.reduceAdd, Nat.reduceBEq, Nat.reduceLeDiff, Nat.reduceLT, Nat.reduceMul, Nat.reduceSub, Int.reduceEq, Int.reduceLT, Int.reduceLE, Int.reduceNeg]; rfl) trivial ?_
    intro i hi' _
    rcases Nat.lt_or_ge i 16 with hlt | hge
    · obtain ⟨u, hu⟩ := getS (l := U) (i := i) (by omega)
      have hlt' : decide ((i : Int) < 16) = true := decide_eq_true (by omega)
      have hlU : i < U.length := by omega
      have hw : w64 ((i : Int) + 1) = ((i + 1 : Nat) : Int) := w64_suc (n := 16) hlt ln16
      have rb := room8 (n := (upto (fun i => !decide (uA U i = 0)) i).length) (Nat.le_trans (upto_len _ _) (by omega))
      have gb := fun H => apB_grow 1 H 1 (upto (fun i => !decide (uA U i = 0)) i).length (upto (fun i => !decide (uA U i = 0)) i).length [[.int .i64 (i : Int)]] (bS (upto (fun i => !decide (uA U i = 0)) i)) (bS_len _)
      cases k1 : decide (u = 0) with
      | true =>
        have e1 := upto_no (p := fun i => !decide (uA U i = 0)) (i := i) (by simp only [uA_of hu, k1]; rfl)
        simp only [go_sem, Int.cast_ofNat_Int, Int.reduceToNat, Bool.true_xor, Bool.false_xor, Bool.xor_true, Bool.xor_false, Nat.reduceAdd, Nat.reduceBEq, Nat.reduceLeDiff, Nat.reduceLT, Nat.reduceMul, Nat.reduceSub, Int.reduceEq, Int.reduceLT, Int.reduceLE, Int.reduceNeg, hlt, hlt', hlU, hu, k1, hw, e1]
        exact ⟨by first | trivial | omega, by first | trivial | rfl, trivial⟩
      | false =>
        have e1 := upto_yes (p := fun i => !decide (uA U i = 0)) (i := i) (by simp only [uA_of hu, k1]; rfl)
        simp only [go_sem, Int.cast_ofNat_Int, Int.reduceToNat, Bool.true_xor, Bool.false_xor, Bool.xor_true, Bool.xor_false, Nat.reduceAdd, Nat.reduceBEq, Nat.reduceLeDiff, Nat.reduceLT, Nat.reduceMul, Nat.reduceSub, Int.reduceEq, Int.reduceLT, Int.reduceLE, Int.reduceNeg, hlt, hlt', hlU, hu, k1, rb, gb, bS_snoc, hw, e1, List.length_append]
        exact ⟨by first | trivial | omega, by first | trivial | rfl, trivial⟩
    · obtain rfl : i = 16 := by omega
      simp only [go_sem, Int.cast_ofNat_Int, Int.reduceToNat, Bool.true_xor, Bool.false_xor, Bool.xor_true, Bool.xor_false, Nat.reduceAdd, Nat.reduceBEq, Nat.reduceLeDiff, Nat.reduceLT, Nat.reduceMul, Nat.reduceSub, Int.reduceEq, Int.reduceLT, Int.reduceLE, Int.reduceNeg, show decide (((16 : Nat) : Int) < 16) = false from by decide]
      rfl
theorem nt_eq (r C U D x a) : (∃ e, ∀ fl, ntV fl r C U D x a = .tup [lz, .int .i64 e]) ∨ ∃ C' e, C'.length ≤ maxLen ∧ U.length ≤ maxLen ∧ D.length ≤ maxLen ∧ ∀ fl, ntV fl r C U D x a = .tup [lr r C' U D fl fl fl, .int .i64 e] := by
  unfold ntV
  cases h : vB r C U D with
  | false => exact .inl ⟨1, fun _ => rfl⟩
  | true =>
    obtain ⟨⟨_, _, hC, hU, hD⟩, _⟩ := vB_iff.1 h
    cases decide (x < 0) || decide (16 ≤ x) with
    | true => exact .inl ⟨2, fun _ => rfl⟩
    | false =>
      cases decide ((C.getD x.toNat (0, 0)).1 = 1073741824) with
      | true => exact .inl ⟨13, fun _ => rfl⟩
      | false => exact .inr ⟨_, 0, by simp [hC]; exact ln16, by rw [hU]; exact ln16, by rw [hD]; exact ln16, fun _ => rfl⟩
theorem clU_len {r C U D w lo le} (hU : U.length = 16) : (clU r C U D w lo le).length = 16 := by simp [clU, pk_len1, hU]
theorem clD_len {r C U D w lo hi le} (hD : D.length = 16) : (clD r C U D w lo hi le).length = 16 := by simp [clD, zD_len, pk_len2, hD]
theorem cl_eq (r C U D w lo hi le) : (∃ e, ∀ fl, clV fl r C U D w lo hi le = .tup [lz, .int .i64 e]) ∨ ∃ r' C' U' D' e, C'.length ≤ maxLen ∧ U'.length ≤ maxLen ∧ D'.length ≤ maxLen ∧ ∀ fl, clV fl r C U D w lo hi le = .tup [lr r' C' U' D' fl fl fl, .int .i64 e] := by
  unfold clV
  cases h : vB r C U D with
  | false => exact .inl ⟨1, fun _ => rfl⟩
  | true =>
    obtain ⟨⟨_, _, hC, hU, hD⟩, _⟩ := vB_iff.1 h
    cases rightB w lo hi le with
    | false => exact .inl ⟨2, fun _ => rfl⟩
    | true =>
      cases decide (r = 1073741824) with
      | true => exact .inl ⟨13, fun _ => rfl⟩
      | false => exact .inr ⟨_, _, _, _, 0, by rw [C0_len]; exact ln16, by rw [clU_len hU]; exact ln16, by rw [clD_len hD]; exact ln16, fun _ => rfl⟩



/-! ### What closing a round leaves -/
theorem take_not {A : Type} {S : List A} (hn : S.Nodup) {m : Nat} {i : A} (h : S[m]? = some i) : i ∉ S.take m := by
  intro hmem
  obtain ⟨q, hq⟩ := List.getElem?_of_mem hmem
  have hqm : q < m := by have := (List.getElem?_eq_some_iff.1 hq).1; simp at this; omega
  rw [List.getElem?_take, if_pos hqm] at hq
  have := (List.getElem?_inj (List.getElem?_eq_some_iff.1 hq).1 hn).1 (hq.trans h.symm)
  omega
theorem pk_at2 {r : Int} {U D : List Int} {S : List Nat} (hU : U.length = 16) (hD : D.length = 16) (hS : ∀ a ∈ S, a < 16) (hn : S.Nodup) : ∀ m j,
    (j ∉ S.take m → uA (pk r U D S m).1 j = uA U j ∧ uA (pk r U D S m).2 j = uA D j) ∧ (j ∈ S.take m → uA (pk r U D S m).1 j = w64 (w64 (r + 1) + nh (uA D j)) ∧ uA (pk r U D S m).2 j = nh (uA D j))
  | 0, j => by simp [pk]
  | m + 1, j => by
    have ih := fun j => pk_at2 (r := r) hU hD hS hn m j
    have hl := pk_len1 r U D S m
    have hl2 := pk_len2 r U D S m
    simp only [pk]
    cases h : S[m]? with
    | none => rw [List.take_add_one, h]; simpa using ih j
    | some i =>
      have hi := hS i (List.mem_of_getElem? h)
      have hni := ((ih i).1 (take_not hn h)).2
      rw [take_snoc h]
      simp only [updU, updD, List.mem_append, List.mem_singleton]
      rw [uA_set (by omega), uA_set (by omega), hni]
      by_cases hij : i = j
      · subst hij
        simp
      · simp only [if_neg hij]
        have hji : ¬ j = i := fun h => hij h.symm
        simp only [hji, or_false]
        exact ih j
theorem hB_nh {d : Int} (h : hB d = true) : hB (nh d) = true := by
  simp only [hB, Bool.or_eq_true, decide_eq_true_eq] at h
  rcases h with ((((((h | h) | h) | h) | h) | h) | h) | h <;> subst h <;> decide +kernel
theorem fr_blk (U : List Int) (h : U.length = 16) : ((blk U).length : Int) = 16 - fr U := by
  have key : ∀ i, i ≤ 16 → (upto (fun i => !decide (uA U i = 0)) i).length + (U.take i).count 0 = i := by
    intro i
    induction i with
    | zero => intro _; simp [upto]
    | succ i ih =>
      intro hi
      have ih := ih (by omega)
      obtain ⟨u, hu⟩ := getS (l := U) (i := i) (by omega)
      have hc := count_take hu
      cases hz : decide (u = 0) with
      | true =>
        rw [upto_no (by simp only [uA_of hu, hz]; rfl)]
        rw [hz, cond_true] at hc
        omega
      | false =>
        rw [upto_yes (by simp only [uA_of hu, hz]; rfl), List.length_append]
        rw [hz, cond_false] at hc
        simp only [List.length_cons, List.length_nil]
        omega
  have := key 16 (by omega)
  rw [List.take_of_length_le (by omega)] at this
  unfold blk fr
  omega
structure Closed (r : Int) (C : List (Int × Int)) (U D : List Int) (w lo hi le : Int) (U' D' : List Int) : Prop where
  valid : vB (r + 1) C0 U' D' = true
  keep : ∀ j, j < 16 → uA U' j ≠ 0 → uA U j ≠ 0 ∨ (badI C U w lo j = true ∧ uA U' j = r + 1 + uA D' j)
  enough : le ≤ fr U → le ≤ fr U'
  rest : ∀ j, j < 16 → badI C U w lo j = false → uA U' j = (if uA U j ≤ r + 1 then 0 else uA U j)
theorem okI_uA {r C U D} {i : Nat} (hC : C.length = 16) (hU : U.length = 16) (hD : D.length = 16) (hi : i < 16) : okI r C U D i = okAt r (cA C i) (uA U i) (uA D i) := by
  obtain ⟨c, hc⟩ := getS (l := C) (i := i) (by omega)
  obtain ⟨u, hu⟩ := getS (l := U) (i := i) (by omega)
  obtain ⟨d, hd⟩ := getS (l := D) (i := i) (by omega)
  simp only [okI, hc, hu, hd, cA_of hc, uA_of hu, uA_of hd]
theorem okAt_iff {r : Int} {c : Int × Int} {u d : Int} (h0 : 0 ≤ r) (h1 : r ≤ 1073741824) : okAt r c u d = true ↔ cB c.1 c.2 = true ∧ hB d = true ∧ (u = 0 ∨ r < u ∧ u ≤ r + 64 ∧ d ≠ 0) := by
  have : w64 (r + 64) = r + 64 := w64_id (by omega) (by omega)
  simp only [okAt, this, Bool.and_eq_true, Bool.not_eq_true', Bool.and_eq_false_iff, Bool.not_eq_false', Bool.or_eq_false_iff, decide_eq_true_eq, decide_eq_false_iff_not, and_assoc]
  constructor
  · rintro ⟨a, b, c | ⟨c, d, e⟩⟩
    · exact ⟨a, b, .inl c⟩
    · exact ⟨a, b, .inr ⟨by omega, by omega, e⟩⟩
  · rintro ⟨a, b, c | ⟨c, d, e⟩⟩
    · exact ⟨a, b, .inl c⟩
    · exact ⟨a, b, .inr ⟨by omega, by omega, e⟩⟩
theorem uA_map {f : Int → Int} {U : List Int} {j : Nat} (h : j < U.length) : uA (U.map f) j = f (uA U j) := by
  obtain ⟨u, hu⟩ := getS h
  rw [uA_of hu, uA_of (u := f u) (by simp [hu])]
theorem closed_ok {r C U D w lo hi le} (hv : vB r C U D = true) (hr : rightB w lo hi le = true) (h1 : decide (r = 1073741824) = false) : Closed r C U D w lo hi le (clU r C U D w lo le) (clD r C U D w lo hi le) := by
  obtain ⟨⟨r0, r1, hC, hU, hD⟩, hok⟩ := vB_iff.1 hv
  have h1' := of_decide_eq_false h1
  simp only [rightB, Bool.and_eq_true, decide_eq_true_eq] at hr
  have hw1 : w64 (r + 1) = r + 1 := w64_id (by omega) (by omega)
  have hlU := clU_len (r := r) (C := C) (D := D) (w := w) (lo := lo) (le := le) hU
  have hlD := clD_len (r := r) (C := C) (U := U) (w := w) (lo := lo) (hi := hi) (le := le) hD
  have hat := fun j => pk_at2 (r := r) hU hD (S := srtB C U w lo) (fun a ha => srtB_mem ha) (srtB_nodup C U w lo) (kI (srtB C U w lo) U le) j
  have hfr := pk_fr (D := D) r0 r1 hU (S := srtB C U w lo) (fun a ha => srtB_mem ha) (fun a ha => by
          have := (srtB_iff.1 ha).2
          simp only [badI, Bool.and_eq_true, decide_eq_true_eq] at this
          exact this.1.1) (srtB_nodup C U w lo) (kI (srtB C U w lo) U le) (kI_le _ _ _)
  have eU : ∀ j, j < 16 → uA (clU r C U D w lo le) j = fU (r + 1) (uA (pk r U D (srtB C U w lo) (kI (srtB C U w lo) U le)).1 j) := fun j hj => by
    unfold clU; rw [uA_map (by rw [pk_len1]; omega), hw1]
  have eD : ∀ j, j < 16 → uA (clD r C U D w lo hi le) j = bif prvI C U w lo hi j then 0 else uA (pk r U D (srtB C U w lo) (kI (srtB C U w lo) U le)).2 j := fun j hj => by
    obtain ⟨d, hd⟩ := getS (l := (pk r U D (srtB C U w lo) (kI (srtB C U w lo) U le)).2) (i := j) (by rw [pk_len2]; omega)
    unfold clD; rw [uA_of (zD_get hd), uA_of hd]
  have hold : ∀ j, j < 16 → hB (uA D j) = true ∧ (uA U j = 0 ∨ r < uA U j ∧ uA U j ≤ r + 64 ∧ uA D j ≠ 0) := fun j hj => by
    have := hok j hj
    rw [okI_uA hC hU hD hj, okAt_iff r0 r1] at this
    exact this.2
  have hpb : ∀ j, badI C U w lo j = true → prvI C U w lo hi j = false := fun j hb => by
    simp only [badI, Bool.and_eq_true, decide_eq_true_eq] at hb
    simp only [prvI, hb.2, decide_true, Bool.not_true, Bool.and_false, Bool.false_and]
  have hpu : ∀ j, prvI C U w lo hi j = true → uA U j = 0 := fun j hb => by
    simp only [prvI, Bool.and_eq_true, decide_eq_true_eq] at hb
    exact hb.1.1.1
  -- the two cases of a channel
  have pick : ∀ j, j < 16 → j ∈ (srtB C U w lo).take (kI (srtB C U w lo) U le) → badI C U w lo j = true ∧ uA (clU r C U D w lo le) j = r + 1 + nh (uA D j) ∧ uA (clD r C U D w lo hi le) j = nh (uA D j) := fun j hj hm => by
    have hb := (srtB_iff.1 (List.mem_of_mem_take hm)).2
    obtain ⟨a1, a2⟩ := (hat j).2 hm
    have hp := until_pos r0 r1 (uA D j)
    refine ⟨hb, ?_, ?_⟩
    · rw [eU j hj, a1, hp.1]
      have := nh_bd (uA D j)
      simp only [fU]
      rw [decide_eq_false (by omega), cond_false]
    · rw [eD j hj, hpb j hb, a2, cond_false]
  have stay : ∀ j, j < 16 → j ∉ (srtB C U w lo).take (kI (srtB C U w lo) U le) → uA (clU r C U D w lo le) j = fU (r + 1) (uA U j) ∧ uA (clD r C U D w lo hi le) j = bif prvI C U w lo hi j then 0 else uA D j := fun j hj hm => by
    obtain ⟨a1, a2⟩ := (hat j).1 hm
    rw [eU j hj, eD j hj, a1, a2]
    exact ⟨rfl, rfl⟩
  refine ⟨vB_iff.2 ⟨⟨by omega, by omega, C0_len, hlU, hlD⟩, fun j hj => ?_⟩, fun j hj hne => ?_, fun hle => ?_, fun j hj hb => ?_⟩
  · rw [okI_uA C0_len hlU hlD hj, okAt_iff (by omega) (by omega)]
    have hc0 : cB (cA C0 j).1 (cA C0 j).2 = true := by
      have : C0[j]? = some (0, 0) := by rw [C0, List.getElem?_replicate, if_pos hj]
      rw [cA_of this]; rfl
    obtain ⟨k1, k2⟩ := hold j hj
    refine ⟨hc0, ?_⟩
    by_cases hm : j ∈ (srtB C U w lo).take (kI (srtB C U w lo) U le)
    · obtain ⟨_, q1, q2⟩ := pick j hj hm
      have := nh_bd (uA D j)
      rw [q1, q2]
      exact ⟨hB_nh k1, .inr ⟨by omega, by omega, by omega⟩⟩
    · obtain ⟨q1, q2⟩ := stay j hj hm
      rw [q1, q2]
      cases hp : prvI C U w lo hi j with
      | true =>
        have := hpu j hp
        rw [this]
        exact ⟨rfl, .inl (by simp [fU])⟩
      | false =>
        simp only [cond_false]
        refine ⟨k1, ?_⟩
        simp only [fU]
        cases hq : decide (uA U j ≤ r + 1) with
        | true => exact .inl rfl
        | false =>
          have := of_decide_eq_false hq
          rcases k2 with k2 | ⟨k2, k3, k4⟩
          · omega
          · exact .inr ⟨by simp only [cond_false]; omega, by simp only [cond_false]; omega, k4⟩
  · by_cases hm : j ∈ (srtB C U w lo).take (kI (srtB C U w lo) U le)
    · obtain ⟨q0, q1, q2⟩ := pick j hj hm
      exact .inr ⟨q0, by rw [q1, q2]⟩
    · obtain ⟨q1, q2⟩ := stay j hj hm
      left
      intro hz
      rw [q1, hz] at hne
      exact hne (by simp [fU])
  · have e1 : fr (pk r U D (srtB C U w lo) (kI (srtB C U w lo) U le)).1 ≤ fr (clU r C U D w lo le) := by
      unfold fr clU
      have := List.count_le_count_map (l := (pk r U D (srtB C U w lo) (kI (srtB C U w lo) U le)).1) (f := fU (w64 (r + 1))) (x := 0)
      have e0 : fU (w64 (r + 1)) 0 = 0 := by simp [fU]
      rw [e0] at this
      omega
    have hf16 : 0 ≤ fr U ∧ fr U ≤ 16 := by
      have : U.count 0 ≤ 16 := hU ▸ List.count_le_length
      unfold fr; omega
    have hwf : w64 (fr U - le) = fr U - le := w64_id (by omega) (by omega)
    have hK : (kI (srtB C U w lo) U le : Int) = max 0 (min ((srtB C U w lo).length : Int) (fr U - le)) := by unfold kI; rw [hwf]; omega
    omega
  · have hm : j ∉ (srtB C U w lo).take (kI (srtB C U w lo) U le) := fun hm => by
      have := (srtB_iff.1 (List.mem_of_mem_take hm)).2
      rw [hb] at this; cases this
    obtain ⟨q1, q2⟩ := stay j hj hm
    rw [q1]
    unfold fU
    cases hq : decide (uA U j ≤ r + 1) with
    | true => rw [if_pos (of_decide_eq_true hq)]; rfl
    | false => rw [if_neg (of_decide_eq_false hq)]; rfl



/-! ### A blacklisted channel returns -/
def stt (r : Int) (U D : List Int) (w lo hi le : Int) : Nat → List Int × List Int
  | 0 => (U, D)
  | k + 1 => (clU (r + k) C0 (stt r U D w lo hi le k).1 (stt r U D w lo hi le k).2 w lo le, clD (r + k) C0 (stt r U D w lo hi le k).1 (stt r U D w lo hi le k).2 w lo hi le)
theorem bad_C0 {U : List Int} {w lo : Int} (hw : 1 ≤ w) (j : Nat) : badI C0 U w lo j = false := by
  have : (cA C0 j).1 = 0 := by
    unfold cA
    rw [List.getD_eq_getElem?_getD]
    cases hq : C0[j]? with
    | none => rfl
    | some c =>
      have := List.mem_of_getElem? hq
      rw [C0, List.mem_replicate] at this
      rw [this.2]; rfl
  simp only [badI, this]
  rw [decide_eq_true (show (0 : Int) < w by omega)]
  simp
theorem vB_C0 {r C U D} (h : vB r C U D = true) : vB r C0 U D = true := by
  obtain ⟨⟨r0, r1, hC, hU, hD⟩, hok⟩ := vB_iff.1 h
  refine vB_iff.2 ⟨⟨r0, r1, C0_len, hU, hD⟩, fun j hj => ?_⟩
  have := hok j hj
  rw [okI_uA hC hU hD hj, okAt_iff r0 r1] at this
  rw [okI_uA C0_len hU hD hj, okAt_iff r0 r1]
  have hc0 : C0[j]? = some (0, 0) := by rw [C0, List.getElem?_replicate, if_pos hj]
  rw [cA_of hc0]
  exact ⟨rfl, this.2⟩
theorem stt_ok {r : Int} {U D : List Int} {w lo hi le : Int} (hr : rightB w lo hi le = true) (h : vB r C0 U D = true) (h6 : r ≤ 1000000) : ∀ k : Nat, k ≤ 64 → vB (r + k) C0 (stt r U D w lo hi le k).1 (stt r U D w lo hi le k).2 = true ∧ ∀ j, j < 16 → uA (stt r U D w lo hi le k).1 j = if uA U j ≤ r + k then 0 else uA U j
  | 0, _ => by
    obtain ⟨⟨r0, r1, hC, hU, hD⟩, hok⟩ := vB_iff.1 h
    simp only [stt, Int.natCast_zero, Int.add_zero]
    refine ⟨h, fun j hj => ?_⟩
    have := hok j hj
    rw [okI_uA hC hU hD hj, okAt_iff r0 r1] at this
    split <;> omega
  | k + 1, hk => by
    obtain ⟨ih1, ih2⟩ := stt_ok hr h h6 k (by omega)
    have hw : 1 ≤ w := by simp only [rightB, Bool.and_eq_true, decide_eq_true_eq] at hr; omega
    have hcl := closed_ok ih1 hr (decide_eq_false (by omega))
    simp only [stt]
    have e : r + ((k + 1 : Nat) : Int) = r + k + 1 := by omega
    rw [e]
    refine ⟨hcl.valid, fun j hj => ?_⟩
    rw [hcl.rest j hj (bad_C0 hw j), ih2 j hj]
    by_cases h1 : uA U j ≤ r + k
    · rw [if_pos h1, if_pos (show uA U j ≤ r + k + 1 by omega)]
      split <;> rfl
    · rw [if_neg h1]
theorem stt_len {r : Int} {U D : List Int} {w lo hi le : Int} (hr : rightB w lo hi le = true) (h : vB r C0 U D = true) (h6 : r ≤ 1000000) (k : Nat) (hk : k ≤ 64) : (stt r U D w lo hi le k).1.length = 16 ∧ (stt r U D w lo hi le k).2.length = 16 := by
  obtain ⟨⟨_, _, _, hU, hD⟩, _⟩ := vB_iff.1 (stt_ok hr h h6 k hk).1
  exact ⟨hU, hD⟩
/-- The cells of the learner in round k: at first it lies in blocks. -/
def mb (r : Int) (U D : List Int) (w lo hi le : Int) : Nat → List SV
  | 0 => lsC r 4 16 16 16
  | k + 1 => lrC (r + (k + 1 : Nat)) C0 (stt r U D w lo hi le (k + 1)).1 (stt r U D w lo hi le (k + 1)).2 true true true
theorem mb_part (r U D w lo hi le k) : part1 true 4 (mb r U D w lo hi le k) 0 = some (.agg (mb r U D w lo hi le k)) := by
  cases k <;> rfl
theorem mb_len (r U D w lo hi le k) : decide (4 ≤ (mb r U D w lo hi le k).length) = true := by
  cases k <;> rfl
theorem mb_drop (r U D w lo hi le k) : (mb r U D w lo hi le k).drop 4 = [] := by
  cases k <;> rfl
end H12
end Go.Sh
namespace Go.Sh
set_option linter.unusedSectionVars false
set_option linter.unnecessarySimpa false
set_option linter.unusedVariables false
set_option linter.unusedSimpArgs false
set_option maxRecDepth 100000
set_option maxHeartbeats 4000000
namespace TO
open H11 (Hp okP errAt fstE caE hopOK inP ifI ifE ifH okH difB chanB nxv wl kp ct1)
open H12 (cB vB C0 Z0 ad1 blk clU clD rightB uA cA okAt)
/-! The rounds of a network that learns which channels are disturbed. -/
abbrev Rd := List Int × Bool × Int
def nt1 (C : List (Int × Int)) (k : Int) : List (Int × Int) := C.set (k.tmod 16).toNat (ad1 (C.getD (k.tmod 16).toNat (0, 0)) (decide (128 ≤ k)))
def ntN (N : List Int) (i : Nat) : List (Int × Int) := (N.take i).foldl nt1 C0
theorem nt1_len (C k) : (nt1 C k).length = C.length := by simp [nt1]
theorem ntN_len (N : List Int) (i : Nat) : (ntN N i).length = 16 := by
  unfold ntN
  have key : ∀ (L : List Int) (C : List (Int × Int)), (L.foldl nt1 C).length = C.length := by
    intro L
    induction L with
    | nil => intro C; rfl
    | cons k L ih => intro C; rw [List.foldl_cons, ih, nt1_len]
  rw [key]; rfl
theorem ntN_suc {N : List Int} {i : Nat} {k : Int} (h : N[i]? = some k) : ntN N (i + 1) = nt1 (ntN N i) k := by
  unfold ntN
  rw [List.take_add_one, h, List.foldl_append]
  rfl
theorem ntN_cnt {N : List Int} : ∀ i, i ≤ N.length → ∀ c ∈ ntN N i, 0 ≤ c.2 ∧ c.2 ≤ c.1 ∧ c.1 ≤ i
  | 0, _, c, hc => by
    have : c = (0, 0) := List.eq_of_mem_replicate (show c ∈ List.replicate 16 (0, 0) from hc)
    subst this; simp
  | i + 1, hi, c, hc => by
    obtain ⟨k, hk⟩ := getS (show i < N.length by omega)
    rw [ntN_suc hk] at hc
    have ih := ntN_cnt (N := N) i (by omega)
    rcases List.mem_or_eq_of_mem_set hc with hc | rfl
    · have := ih c hc; omega
    · have hb : 0 ≤ ((ntN N i).getD (k.tmod 16).toNat (0, 0)).2 ∧ ((ntN N i).getD (k.tmod 16).toNat (0, 0)).2 ≤ ((ntN N i).getD (k.tmod 16).toNat (0, 0)).1 ∧ ((ntN N i).getD (k.tmod 16).toNat (0, 0)).1 ≤ i := by
        rw [List.getD_eq_getElem?_getD]
        cases hq : (ntN N i)[(k.tmod 16).toNat]? with
        | none => simp
        | some c => exact ih c (List.mem_of_getElem? hq)
      unfold ad1
      cases decide (128 ≤ k) <;> simp only [cond_true, cond_false] <;> omega
theorem vB_C {r : Int} {C : List (Int × Int)} {U D : List Int} (h : vB r C0 U D = true) (hl : C.length = 16) (hc : ∀ c ∈ C, cB c.1 c.2 = true) : vB r C U D = true := by
  obtain ⟨⟨r0, r1, hC, hU, hD⟩, hok⟩ := H12.vB_iff.1 h
  refine H12.vB_iff.2 ⟨⟨r0, r1, hl, hU, hD⟩, fun j hj => ?_⟩
  have := hok j hj
  rw [H12.okI_uA hC hU hD hj, H12.okAt_iff r0 r1] at this
  rw [H12.okI_uA hl hU hD hj, H12.okAt_iff r0 r1]
  have hcj : C[j]? = some C[j] := List.getElem?_eq_getElem (by omega)
  rw [H12.cA_of hcj]
  exact ⟨hc _ (List.mem_of_getElem? hcj), this.2⟩
theorem ntN_cB {N : List Int} {i : Nat} (hi : i ≤ N.length) (h : N.length ≤ 40) : ∀ c ∈ ntN N i, cB c.1 c.2 = true := by
  intro c hc
  have := ntN_cnt i hi c hc
  unfold cB
  rw [decide_eq_true (show 0 ≤ c.2 by omega), decide_eq_true (show c.2 ≤ c.1 by omega), decide_eq_true (show c.1 ≤ 1073741824 by omega)]
  rfl
theorem ntN_vB {r : Int} {U D : List Int} {N : List Int} {i : Nat} (h : vB r C0 U D = true) (hi : i ≤ N.length) (hN : N.length ≤ 40) : vB r (ntN N i) U D = true := vB_C h (ntN_len N i) (ntN_cB hi hN)
section
variable (R : List Rd) (w : Int)
/-- Until and Hold behind i rounds. -/
def uD : Nat → List Int × List Int
  | 0 => (Z0, Z0)
  | i + 1 => match R[i]? with
    | some ρ => (clU (i : Int) (ntN ρ.1 ρ.1.length) (uD i).1 (uD i).2 w 500 1, clD (i : Int) (ntN ρ.1 ρ.1.length) (uD i).1 (uD i).2 w 500 900 1)
    | none => uD i
/-- What the rounds ahead of one have to be. -/
def Good (i : Nat) : Prop := ∀ j ρ, j < i → R[j]? = some ρ → ρ.1.length ≤ 40 ∧ 1 ≤ ρ.2.2 ∧ ρ.2.2 ≤ 1000
theorem Good.le {i j : Nat} (h : Good R i) (hj : j ≤ i) : Good R j := fun k ρ hk hρ => h k ρ (by omega) hρ
theorem vB_zero : vB 0 C0 Z0 Z0 = true := by decide
theorem uD_ok (hr : rightB w 500 900 1 = true) : ∀ i, i ≤ 8 → i ≤ R.length → Good R i → vB (i : Int) C0 (uD R w i).1 (uD R w i).2 = true
  | 0, _, _, _ => vB_zero
  | i + 1, hi, hl, hg => by
    have ih := uD_ok hr i (by omega) (by omega) (Good.le R hg (by omega))
    obtain ⟨ρ, hρ⟩ := getS (show i < R.length by omega)
    rw [uD, hρ]
    have h40 := (hg i ρ (by omega) hρ).1
    have hv := ntN_vB (i := ρ.1.length) ih (Nat.le_refl _) h40
    have hc := (H12.closed_ok hv hr (decide_eq_false (by omega))).valid
    have e : ((i + 1 : Nat) : Int) = (i : Int) + 1 := by omega
    rw [e]; exact hc
/-- The blacklist of a round. -/
def bkA (i : Nat) : List Int := (blk (uD R w (i + 1)).1).map fun (n : Nat) => (n : Int)
theorem blk_le (U : List Int) : (blk U).length ≤ 16 := by unfold blk; exact H12.upto_len _ _
theorem bkA_len (i : Nat) : (bkA R w i).length ≤ 16 := by unfold bkA; rw [List.length_map]; exact blk_le _
theorem bkA_ok (i : Nat) : H11.badB (bkA R w i) = false := by
  unfold H11.badB
  rw [List.any_eq_false]
  intro c hc
  unfold bkA at hc
  obtain ⟨n, hn, rfl⟩ := List.mem_map.1 hc
  unfold blk at hn
  have := (H12.upto_mem.1 hn).1
  unfold chanB
  rw [decide_eq_true (show (0 : Int) ≤ (n : Int) by omega), decide_eq_true (show (n : Int) < 16 by omega)]
  simp
variable (Ch : List Int) (least : Int)
/-- The list of a round. -/
def hpA : Nat → Hp
  | 0 => ⟨0, 0, 10, Ch, false⟩
  | i + 1 => match R[i]? with
    | some ρ => ⟨nxv (hpA i).v, (hpA i).b, (hpA i).b + ρ.2.2, wl Ch (bkA R w i) least, false⟩
    | none => hpA i
theorem difB_of {C : List Int} (hn : C.Nodup) (hc : ∀ c ∈ C, chanB c = true) (h0 : 0 < C.length) : difB C = true := by
  rw [H11.difB_good (fun j hj => ?_)]
  · exact decide_eq_true h0
  · obtain ⟨c, hcj⟩ := getS hj
    rw [H11.badAt_some hcj, hc c (List.mem_of_getElem? hcj), Bool.not_true, Bool.false_or, decide_eq_false_iff_not]
    intro hm
    obtain ⟨k, hk1, hk2⟩ := List.mem_take_iff_getElem.1 hm
    have hk : C[k]? = some c := by rw [List.getElem?_eq_getElem (by omega), hk2]
    have := (List.getElem?_inj (show k < C.length by omega) hn).1 (hk.trans hcj.symm)
    omega
theorem wl_ok {B : List Int} (hd : difB Ch = true) (h1 : 1 ≤ least) (h2 : least ≤ Ch.length) : difB (wl Ch B least) = true ∧ (∀ c ∈ wl Ch B least, c ∈ Ch) ∧ least ≤ ((wl Ch B least).length : Int) ∧ (wl Ch B least).length ≤ Ch.length := by
  have hn := H11.dif_nodup hd
  have hsub : ∀ c ∈ wl Ch B least, c ∈ Ch := fun c hc => (List.mem_filter.1 hc).1
  have hl := H11.wl_len_eq (B := B) hn h2
  refine ⟨difB_of (hn.filter _) (fun c hc => H11.dif_mem hd (hsub c hc)) (by omega), hsub, by omega, List.length_filter_le _ _⟩
/-- A blacklisted channel is kept only if there would be too few. -/
theorem wl_few {B : List Int} (hd : difB Ch = true) (h2 : least ≤ Ch.length) {c : Int} (hc : c ∈ wl Ch B least) (hb : c ∈ B) : ((wl Ch B least).length : Int) ≤ least := by
  have hn := H11.dif_nodup hd
  have hl := H11.wl_len_eq (B := B) hn h2
  by_cases h : (ct1 Ch B Ch.length : Int) < least
  · omega
  · exfalso
    have hk : kp Ch B least B.length = [] := by
      have := H11.kp_stop (C := Ch) (B := B) (least := least) (i := 0) (by simp only [kp, List.length_nil]; omega) B.length
      rw [Nat.zero_add] at this
      rw [this]; rfl
    unfold wl at hc
    rw [List.mem_filter, hk] at hc
    simp [hb] at hc
theorem hpA_ok (hd : difB Ch = true) (h1 : 1 ≤ least) (h2 : least ≤ Ch.length) : ∀ i, i ≤ 8 → i ≤ R.length → Good R i → okP (hpA R w Ch least i) = true ∧ (hpA R w Ch least i).b ≤ 10 + 1000 * i ∧ 10 ≤ (hpA R w Ch least i).b ∧
    (∀ c ∈ (hpA R w Ch least i).C, c ∈ Ch) ∧ least ≤ ((hpA R w Ch least i).C.length : Int) ∧ (hpA R w Ch least i).C.length ≤ Ch.length
  | 0, _, _, _ => by
    refine ⟨?_, by simp [hpA], by simp [hpA], fun c h => h, h2, Nat.le_refl _⟩
    show okH 0 0 10 Ch = true
    unfold okH
    rw [hd]; rfl
  | i + 1, hi, hl, hg => by
    obtain ⟨a1, a2, a3, a4, a5, a6⟩ := hpA_ok hd h1 h2 i (by omega) (by omega) (Good.le R hg (by omega))
    obtain ⟨ρ, hρ⟩ := getS (show i < R.length by omega)
    obtain ⟨_, s1, s2⟩ := hg i ρ (by omega) hρ
    obtain ⟨w1, w2, w3, w4⟩ := wl_ok Ch least (B := bkA R w i) hd h1 h2
    have e : hpA R w Ch least (i + 1) = ⟨nxv (hpA R w Ch least i).v, (hpA R w Ch least i).b, (hpA R w Ch least i).b + ρ.2.2, wl Ch (bkA R w i) least, false⟩ := by rw [hpA, hρ]
    rw [e]
    refine ⟨?_, by simp only []; omega, by simp only []; omega, w2, w3, w4⟩
    show okH _ _ _ _ = true
    unfold H11.okP okH at a1
    unfold okH
    simp only [Bool.and_eq_true, decide_eq_true_eq] at a1
    have hv : 0 ≤ nxv (hpA R w Ch least i).v ∧ nxv (hpA R w Ch least i).v ≤ 255 := by
      unfold nxv
      rw [w64_id (by omega) (by omega)]
      have := Int.tmod_nonneg (a := (hpA R w Ch least i).v + 1) 256 (by omega)
      have := Int.tmod_lt_of_pos ((hpA R w Ch least i).v + 1) (show (0 : Int) < 256 by omega)
      omega
    rw [w1, decide_eq_true hv.1, decide_eq_true hv.2, decide_eq_true (show 0 ≤ (hpA R w Ch least i).b by omega), decide_eq_true (show (hpA R w Ch least i).b < (hpA R w Ch least i).b + ρ.2.2 by omega), decide_eq_true (show (hpA R w Ch least i).b + ρ.2.2 ≤ 109951163 by omega)]
    rfl
theorem hpA_suc {i : Nat} {ρ : Rd} (hρ : R[i]? = some ρ) : hpA R w Ch least (i + 1) = ⟨nxv (hpA R w Ch least i).v, (hpA R w Ch least i).b, (hpA R w Ch least i).b + ρ.2.2, wl Ch (bkA R w i) least, false⟩ := by rw [hpA, hρ]
/-- All lists, all blacklists. -/
def allA (m : Nat) : List Hp := (List.range (m + 1)).map (hpA R w Ch least)
def blsA (m : Nat) : List (List Int) := [] :: (List.range m).map (bkA R w)
theorem allA_get {m j : Nat} (h : j ≤ m) : (allA R w Ch least m)[j]? = some (hpA R w Ch least j) := by simp [allA, show j < m + 1 by omega]
theorem allA_len (m : Nat) : (allA R w Ch least m).length = m + 1 := by simp [allA]
theorem allA_suc (m : Nat) : allA R w Ch least (m + 1) = allA R w Ch least m ++ [hpA R w Ch least (m + 1)] := by simp [allA, List.range_succ]
theorem blsA_suc (m : Nat) : blsA R w (m + 1) = blsA R w m ++ [bkA R w m] := by simp [blsA, List.range_succ]
theorem caE_zero (hd : difB Ch = true) (h1 : 1 ≤ least) (h2 : least ≤ Ch.length) {m : Nat} (hm : m ≤ 8) (hl : m ≤ R.length) (hg : Good R m) : caE (allA R w Ch least m) = 0 := by
  unfold caE
  rw [allA_len, decide_eq_true (show 1 ≤ m + 1 by omega), decide_eq_true (show m + 1 ≤ 1024 by omega)]
  show fstE _ _ = 0
  apply H11.fstE_none
  intro j hj
  unfold errAt
  rw [allA_get R w Ch least (show j ≤ m by omega)]
  simp only []
  rw [(hpA_ok R w Ch least hd h1 h2 j (by omega) (by omega) (Good.le R hg (by omega))).1]
  cases j with
  | zero => rfl
  | succ j =>
    simp only [cond_true]
    rw [allA_get R w Ch least (show j ≤ m by omega)]
    obtain ⟨ρ, hρ⟩ := getS (show j < R.length by omega)
    simp only []
    rw [hpA_suc R w Ch least hρ]
    simp only [nxv, decide_true, cond_true]
theorem covers (m : Nat) (hm : m ≤ R.length) {s : Int} (h0 : 0 ≤ s) (h1 : s < (hpA R w Ch least m).b) : ∃ j, j ≤ m ∧ inP s (hpA R w Ch least j) = true := by
  induction m with
  | zero =>
    refine ⟨0, Nat.le_refl _, ?_⟩
    have h1 : s < 10 := h1
    show (decide ((0 : Int) ≤ s) && decide (s < 10)) = true
    rw [decide_eq_true h0, decide_eq_true h1]; rfl
  | succ m ih =>
    by_cases h : s < (hpA R w Ch least m).b
    · obtain ⟨j, a, b⟩ := ih (by omega) h
      exact ⟨j, by omega, b⟩
    · refine ⟨m + 1, Nat.le_refl _, ?_⟩
      obtain ⟨ρ, hρ⟩ := getS (show m < R.length by omega)
      rw [hpA_suc R w Ch least hρ] at h1 ⊢
      unfold inP
      rw [decide_eq_true (show (hpA R w Ch least m).b ≤ s by omega), decide_eq_true h1]; rfl
theorem first_lt (hd : difB Ch = true) (h1 : 1 ≤ least) (h2 : least ≤ Ch.length) {m : Nat} (hm : m ≤ 8) (hl : m ≤ R.length) (hg : Good R m) : ∀ j, j < m → (hpA R w Ch least j).a < (hpA R w Ch least (j + 1)).a ∧ (hpA R w Ch least (j + 1)).a = (hpA R w Ch least j).b := by
  intro j hj
  obtain ⟨ρ, hρ⟩ := getS (show j < R.length by omega)
  have a1 := (hpA_ok R w Ch least hd h1 h2 j (by omega) (by omega) (Good.le R hg (by omega))).1
  unfold H11.okP okH at a1
  simp only [Bool.and_eq_true, decide_eq_true_eq] at a1
  rw [hpA_suc R w Ch least hρ]
  exact ⟨by simp only []; omega, rfl⟩
theorem first_mono (hd : difB Ch = true) (h1 : 1 ≤ least) (h2 : least ≤ Ch.length) {m : Nat} (hm : m ≤ 8) (hl : m ≤ R.length) (hg : Good R m) : ∀ k j, j + k + 1 ≤ m → (hpA R w Ch least j).a < (hpA R w Ch least (j + k + 1)).a
  | 0, j, h => (first_lt R w Ch least hd h1 h2 hm hl hg j (by omega)).1
  | k + 1, j, h => by
    have a := first_mono hd h1 h2 hm hl hg k j (by omega)
    have b := (first_lt R w Ch least hd h1 h2 hm hl hg (j + k + 1) (by omega)).1
    have e : j + (k + 1) + 1 = j + k + 1 + 1 := by omega
    rw [e]; omega
end
end TO
end Go.Sh
namespace Go.Sh
set_option linter.unusedSectionVars false
set_option linter.unnecessarySimpa false
set_option linter.unusedVariables false
set_option linter.unusedSimpArgs false
set_option maxRecDepth 100000
set_option maxHeartbeats 4000000
namespace TO
open H11 (Hp okP errAt fstE caE hopOK inP ifI ifE ifH okH difB chanB nxv wl kp ct1 hl hpsS)
open H12 (cB vB C0 Z0 ad1 blk clU clD rightB uA cA okAt cS)
def u8S (N : List Int) : List (List SV) := N.map fun k => [.int .u8 k]
@[go_sem] theorem u8S_len {N : List Int} : (u8S N).length = N.length := by simp [u8S]
@[go_sem] theorem u8S_get (N : List Int) (i : Nat) : (u8S N)[i]? = (N[i]?).map (fun k => [.int .u8 k]) := by simp [u8S]
def rdS (R : List Rd) : List (List SV) := R.map fun ρ => [.lst 1 (u8S ρ.1) ρ.2.1, .int .i64 ρ.2.2]
@[go_sem] theorem rdS_len {R : List Rd} : (rdS R).length = R.length := by simp [rdS]
@[go_sem] theorem rdS_get (R : List Rd) (i : Nat) : (rdS R)[i]? = (R[i]?).map (fun ρ => [.lst 1 (u8S ρ.1) ρ.2.1, .int .i64 ρ.2.2]) := by simp [rdS]
def bbL (L : List (List Int)) : List (List SV) := L.map fun B => [.lst 1 (iS B) false]
/-- A learner's cells. -/
abbrev lrB (r : Int) (C : List (Int × Int)) (U D : List Int) : SBlk := .box [.int .i64 r, .lst 2 (cS C) true, .lst 1 (iS U) true, .lst 1 (iS D) true]
abbrev hpB (h : Hp) : SBlk := .box [.int .i64 h.v, .int .i64 h.a, .int .i64 h.b, .lst 1 (iS h.C) h.f]
abbrev yB (least slot w : Int) : SBlk := .box [.int .i64 least, .int .i64 slot, .int .i64 w]
def sg11 (R : List Rd) (w : Int) (Ch : List Int) (least : Int) : Nat → SV
  | 0 => .lst 4 (hpsS (allA R w Ch least 0)) true
  | i + 1 => .slc 3 (i + 1) 0 (i + 2)
def bl11 (R : List Rd) (w : Int) (Ch : List Int) (least : Int) : Nat → SBlk
  | 0 => .arr 0 4 [] false
  | i + 1 => .arr (i + 1) 4 (hpsS (allA R w Ch least (i + 1))) false
def bbS (R : List Rd) (w : Int) (i : Nat) : List (List SV) := [.lst 0 [] true] :: ((List.range i).map fun j => [.lst 1 (iS (bkA R w j)) false])
@[go_sem] theorem bbS_len {R : List Rd} {w : Int} {i : Nat} : (bbS R w i).length = i + 1 := by simp [bbS]
theorem bbS_suc (R : List Rd) (w : Int) (i : Nat) : bbS R w i ++ [[.lst 1 (iS (bkA R w i)) false]] = bbS R w (i + 1) := by simp [bbS, List.range_succ]
theorem bbS_refs (R : List Rd) (w : Int) (i : Nat) : SV.refs.refsL (bbS R w i).flatten = 0 := by
  unfold bbS
  generalize List.range i = L
  show SV.refs.refsL (.lst 0 [] true :: (L.map fun j => [.lst 1 (iS (bkA R w j)) false]).flatten) = 0
  simp only [SV.refs.refsL, SV.refs, Nat.max_eq_zero_iff]
  refine ⟨trivial, ?_⟩
  induction L with
  | nil => rfl
  | cons j L ih => simp only [List.map_cons, List.flatten_cons]; simp [SV.refs.refsL, SV.refs]; exact ih
def sg12 (R : List Rd) (w : Int) : Nat → SV
  | 0 => .lst 1 [[.lst 0 [] true]] true
  | i + 1 => .slc 4 (i + 1) 0 (i + 2)
def bl12 (R : List Rd) (w : Int) : Nat → SBlk
  | 0 => .arr 0 1 [] false
  | i + 1 => .arr (i + 1) 1 (bbS R w (i + 1)) false
theorem uD_suc (R : List Rd) (w : Int) {i : Nat} {ρ : Rd} (h : R[i]? = some ρ) : uD R w (i + 1) = (clU (i : Int) (ntN ρ.1 ρ.1.length) (uD R w i).1 (uD R w i).2 w 500 1, clD (i : Int) (ntN ρ.1 ρ.1.length) (uD R w i).1 (uD R w i).2 w 500 900 1) := by rw [uD, h]
theorem hps_snoc (L : List Hp) (h : Hp) : hpsS L ++ [[.int .i64 h.v, .int .i64 h.a, .int .i64 h.b, .lst 1 (iS h.C) h.f]] = hpsS (L ++ [h]) := by simp [hpsS]
theorem hps_refs (L : List Hp) : SV.refs.refsL (hpsS L).flatten = 0 := by
  induction L with
  | nil => rfl
  | cons h L ih => simp only [hpsS, List.map_cons, List.flatten_cons] at ih ⊢; simp [SV.refs.refsL, SV.refs]; exact ih
def rowA (R : List Rd) (w : Int) : Nat → List Int
  | 0 => []
  | j + 1 => bkA R w j
def rowV (R : List Rd) (w : Int) : Nat → SV
  | 0 => .lst 0 [] true
  | j + 1 => .lst 1 (iS (bkA R w j)) false
theorem rowV_lv (R : List Rd) (w : Int) (bl : List SBlk) (j : Nat) : LV bl 1 (iS (rowA R w j)) (rowV R w j) := by
  cases j with
  | zero => exact .lst 0 true (.inr rfl)
  | succ j => exact .lst 1 false (.inl rfl)
@[go_sem] theorem rowV_fz (R : List Rd) (w : Int) (N : Nat) (H : Heap) (d j : Nat) : frz N H (d + 1) (rowV R w j) = some (rowV R w j) := by
  cases j <;> simp only [rowV, fz_lst]
theorem rowA_len (R : List Rd) (w : Int) (j : Nat) : (rowA R w j).length ≤ 16 := by
  cases j with
  | zero => exact Nat.zero_le _
  | succ j => exact bkA_len R w j
theorem bbS_get {R : List Rd} {w : Int} {m j : Nat} (h : j ≤ m) : (bbS R w m)[j]? = some [rowV R w j] := by
  cases j with
  | zero => rfl
  | succ j => simp only [bbS, List.getElem?_cons_succ, List.getElem?_map]; rw [List.getElem?_range (by omega)]; rfl
theorem row_few (R : List Rd) (w : Int) (Ch : List Int) (least : Int) (hd : difB Ch = true) (h2 : least ≤ Ch.length) {j : Nat} (hj : j ≤ R.length) {c : Int} (hc : c ∈ (hpA R w Ch least j).C) (hb : c ∈ rowA R w j) : ((hpA R w Ch least j).C.length : Int) ≤ least := by
  cases j with
  | zero => cases hb
  | succ j =>
    obtain ⟨ρ, hρ⟩ := getS (show j < R.length by omega)
    rw [hpA_suc R w Ch least hρ] at hc ⊢
    exact wl_few Ch least hd h2 hc hb
theorem s24 (n : Nat) (bl : List SBlk) (ro : Nat) (h g : Hp) (X0 X1 X2 X3 X4 : SBlk) (hb : bl = [X0, X1, X2, X3, X4, hpB g]) : call1 T (n + 1) (.fn 24) [.agg (H11.hpC h), .ptr 5 0 0 0] ⟨bl, [], ro⟩ = some (.bool (decide (h.a = g.a)), ⟨bl, [], ro⟩) := by
  subst hb
  refine call_in e24 (by rfl) ?_
  simp only [c24, go_sem, Int.cast_ofNat_Int, Int.reduceToNat, Bool.true_xor, Bool.false_xor, Bool.xor_true, Bool.xor_false, Nat.reduceAdd, Nat.reduceBEq, Nat.reduceLeDiff, Nat.reduceLT, Nat.reduceMul, Nat.reduceSub, Int.reduceEq, Int.reduceLT, Int.reduceLE, Int.reduceNeg]
theorem fst_idx (R : List Rd) (w : Int) (Ch : List Int) (least : Int) (hd : difB Ch = true) (h1 : 1 ≤ least) (h2 : least ≤ Ch.length) {m : Nat} (hm : m ≤ 8) (hl : m ≤ R.length) (hg : Good R m) {j : Nat} (hj : j ≤ m) : idx1 (fun h => decide (h.a = (hpA R w Ch least j).a)) (allA R w Ch least m) = (j : Int) := by
  refine idx1_at (allA_get R w Ch least hj) (decide_eq_true rfl) (fun k b hk hb => ?_)
  rw [allA_get R w Ch least (show k ≤ m by omega)] at hb
  cases hb
  have := first_mono R w Ch least hd h1 h2 hm hl hg (j - k - 1) k (by omega)
  rw [show k + (j - k - 1) + 1 = j by omega] at this
  exact decide_eq_false (by omega)
theorem allA_ok (R : List Rd) (w : Int) (Ch : List Int) (least : Int) (hd : difB Ch = true) (h1 : 1 ≤ least) (h2 : least ≤ Ch.length) (hC : Ch.length ≤ 20) {m : Nat} (hm : m ≤ 8) (hl : m ≤ R.length) (hg : Good R m) : hopOK (allA R w Ch least m) := by
  intro x hx
  obtain ⟨j, hj, rfl⟩ := List.mem_map.1 hx
  have := (hpA_ok R w Ch least hd h1 h2 j (by have := List.mem_range.1 hj; omega) (by have := List.mem_range.1 hj; omega) (Good.le R hg (by have := List.mem_range.1 hj; omega))).2.2.2.2.2
  omega
theorem s4 (R : List Rd) (fr : Bool) (Ch : List Int) (fc : Bool) (least slot w : Int) (hN : ∀ ρ ∈ R, ∀ k ∈ ρ.1, 0 ≤ k ∧ k ≤ 255) : call1 T 61 (.fn 4) [.lst 2 (rdS R) fr, .lst 1 (iS Ch) fc, .agg [.int .i64 least, .int .i64 slot, .int .i64 w]] heap0 = some (.bool true, heap0) := by
  refine call_pure e4 (by rfl) ?_
  have h6 := fun H => s6 H
  cases hx1 : decide (8 < (R.length : Int)) with
  | true => simp only [c4, heap0, go_sem, Int.cast_ofNat_Int, Int.reduceToNat, Bool.true_xor, Bool.false_xor, Bool.xor_true, Bool.xor_false, Nat.reduceAdd, Nat.reduceBEq, Nat.reduceLeDiff, Nat.reduceLT, Nat.reduceMul, Nat.reduceSub, Int.reduceEq, Int.reduceLT, Int.reduceLE, Int.reduceNeg, h6, hx1]
  | false =>
    cases hx2 : decide (20 < (Ch.length : Int)) with
    | true => simp only [c4, heap0, go_sem, Int.cast_ofNat_Int, Int.reduceToNat, Bool.true_xor, Bool.false_xor, Bool.xor_true, Bool.xor_false, Nat.reduceAdd, Nat.reduceBEq, Nat.reduceLeDiff, Nat.reduceLT, Nat.reduceMul, Nat.reduceSub, Int.reduceEq, Int.reduceLT, Int.reduceLE, Int.reduceNeg, h6, hx1, hx2]
    | false =>
      cases hx3 : decide (least < 1) with
      | true => simp only [c4, heap0, go_sem, Int.cast_ofNat_Int, Int.reduceToNat, Bool.true_xor, Bool.false_xor, Bool.xor_true, Bool.xor_false, Nat.reduceAdd, Nat.reduceBEq, Nat.reduceLeDiff, Nat.reduceLT, Nat.reduceMul, Nat.reduceSub, Int.reduceEq, Int.reduceLT, Int.reduceLE, Int.reduceNeg, h6, hx1, hx2, hx3]
      | false =>
        cases hx4 : decide ((Ch.length : Int) < least) with
        | true => simp only [c4, heap0, go_sem, Int.cast_ofNat_Int, Int.reduceToNat, Bool.true_xor, Bool.false_xor, Bool.xor_true, Bool.xor_false, Nat.reduceAdd, Nat.reduceBEq, Nat.reduceLeDiff, Nat.reduceLT, Nat.reduceMul, Nat.reduceSub, Int.reduceEq, Int.reduceLT, Int.reduceLE, Int.reduceNeg, h6, hx1, hx2, hx3, hx4]
        | false =>
          have hL : R.length ≤ 8 := by simp only [decide_eq_false_iff_not] at hx1; omega
          have hC : Ch.length ≤ 20 := by simp only [decide_eq_false_iff_not] at hx2; omega
          have hl1 : 1 ≤ least := by simp only [decide_eq_false_iff_not] at hx3; omega
          have hl2 : least ≤ Ch.length := by simp only [decide_eq_false_iff_not] at hx4; omega
          have h8c := fun n H => H11.s8 n H Ch fc (by omega)
          have h15 := fun H => H11.s15 56 H 0 0 10 Ch false (Nat.le_trans (show Ch.length ≤ 1000 by omega) (by decide))
          unfold H11.ckH at h15
          have ho : okH 0 0 10 Ch = difB Ch := by unfold okH; simp
          rw [ho] at h15
          cases hd : difB Ch with
          | false =>
            rw [hd] at h15
            simp only [c4, heap0, go_sem, Int.cast_ofNat_Int, Int.reduceToNat, Bool.true_xor, Bool.false_xor, Bool.xor_true, Bool.xor_false, Nat.reduceAdd, Nat.reduceBEq, Nat.reduceLeDiff, Nat.reduceLT, Nat.reduceMul, Nat.reduceSub, Int.reduceEq, Int.reduceLT, Int.reduceLE, Int.reduceNeg, h6, hx1, hx2, hx3, hx4, h8c, h15]
          | true =>
            rw [hd] at h15
            have h16 := fun H => H12.s16 59 H
            simp only [c4, heap0, go_sem, Int.cast_ofNat_Int, Int.reduceToNat, Bool.true_xor, Bool.false_xor, Bool.xor_true, Bool.xor_false, Nat.reduceAdd, Nat.reduceBEq, Nat.reduceLeDiff, Nat.reduceLT, Nat.reduceMul, Nat.reduceSub, Int.reduceEq, Int.reduceLT, Int.reduceLE, Int.reduceNeg, h6, hx1, hx2, hx3, hx4, h8c, h15, h16]
            refine loop_rule (fun i => ([(1, .lst 1 (iS Ch) fc), (7, .int .i64 least), (8, .int .i64 slot), (9, .int .i64 w), (10, .ptr 1 0 0 0), (11, sg11 R w Ch least i), (12, sg12 R w i), (13, .ptr 2 0 0 0), (68, .lst 2 (rdS R) fr), (69, .int .i64 R.length), (70, .int .i64 i)],
              ⟨[yB least slot w, hpB (hpA R w Ch least i), lrB i C0 (uD R w i).1 (uD R w i).2, bl11 R w Ch least i, bl12 R w i], [], 0⟩)) (fun i => Good R i ∧ (0 < i → rightB w 500 900 1 = true)) R.length ?_ ⟨fun j ρ hj => by omega, fun h => by omega⟩ ?_
            · have e1 : (uD R w 0).1 = Z0 := rfl
              have e2 : (uD R w 0).2 = Z0 := rfl
              have e3 : hpA R w Ch least 0 = ⟨0, 0, 10, Ch, false⟩ := rfl
              have e4 : sg11 R w Ch least 0 = .lst 4 [[.int .i64 0, .int .i64 0, .int .i64 10, .lst 1 (iS Ch) false]] true := rfl
              have e5 : sg12 R w 0 = .lst 1 [[.lst 0 [] true]] true := rfl
              have e6 : bl11 R w Ch least 0 = .arr 0 4 [] false := rfl
              have e7 : bl12 R w 0 = .arr 0 1 [] false := rfl
              simp only [go_sem, Int.cast_ofNat_Int, Int.reduceToNat, Bool.true_xor, Bool.false_xor, Bool.xor_true, Bool.xor_false, Nat.reduceAdd, Nat.reduceBEq, Nat.reduceLeDiff, Nat.reduceLT, Nat.reduceMul, Nat.reduceSub, Int.reduceEq, Int.reduceLT, Int.reduceLE, Int.reduceNeg, e1, e2, e3, e4, e5, e6, e7]
              try rfl
            · intro i hi hP
              obtain ⟨hg, hw⟩ := hP
              obtain ⟨rI, hrI⟩ : ∃ z : Int, ((i : Nat) : Int) = z := ⟨_, rfl⟩
              rw [hrI]
              have r0 : decide (0 ≤ rI) = true := decide_eq_true (by omega)
              have rt : rI.toNat = i := by omega
              rcases Nat.lt_or_ge i R.length with hlt | hge
              · have r1 : decide (rI < (R.length : Int)) = true := decide_eq_true (by omega)
                have r2 : decide (i < R.length) = true := decide_eq_true hlt
                have rs : w64 (rI + 1) = ((i + 1 : Nat) : Int) := by rw [w64_id (by omega) (by omega)]; omega
                obtain ⟨⟨N, fn, sl⟩, hρ⟩ := getS hlt
                have hs11 : ∀ m, (sg11 R w Ch least m).refs ≤ 4 := fun m => by cases m <;> simp [sg11, SV.refs]
                have key : ∀ (s11 s12 : SV) (x3 x4 : SBlk), s11.refs ≤ 5 → s12.refs ≤ 5 → True := fun _ _ _ _ _ _ => trivial
                cases h1 : decide (40 < (N.length : Int)) with
                | true =>
                  simp only [go_sem, Int.cast_ofNat_Int, Int.reduceToNat, Bool.true_xor, Bool.false_xor, Bool.xor_true, Bool.xor_false, Nat.reduceAdd, Nat.reduceBEq, Nat.reduceLeDiff, Nat.reduceLT, Nat.reduceMul, Nat.reduceSub, Int.reduceEq, Int.reduceLT, Int.reduceLE, Int.reduceNeg, r0, r1, r2, rt, hρ, h1]
                | false =>
                  cases h2 : decide (sl < 1) with
                  | true => simp only [go_sem, Int.cast_ofNat_Int, Int.reduceToNat, Bool.true_xor, Bool.false_xor, Bool.xor_true, Bool.xor_false, Nat.reduceAdd, Nat.reduceBEq, Nat.reduceLeDiff, Nat.reduceLT, Nat.reduceMul, Nat.reduceSub, Int.reduceEq, Int.reduceLT, Int.reduceLE, Int.reduceNeg, r0, r1, r2, rt, hρ, h1, h2]
                  | false =>
                    cases h3 : decide (1000 < sl) with
                    | true => simp only [go_sem, Int.cast_ofNat_Int, Int.reduceToNat, Bool.true_xor, Bool.false_xor, Bool.xor_true, Bool.xor_false, Nat.reduceAdd, Nat.reduceBEq, Nat.reduceLeDiff, Nat.reduceLT, Nat.reduceMul, Nat.reduceSub, Int.reduceEq, Int.reduceLT, Int.reduceLE, Int.reduceNeg, r0, r1, r2, rt, hρ, h1, h2, h3]
                    | false =>
                      rcases i with _ | i
                      · have f11 : sg11 R w Ch least 0 = .lst 4 [[.int .i64 0, .int .i64 0, .int .i64 10, .lst 1 (iS Ch) false]] true := rfl
                        have f12 : sg12 R w 0 = .lst 1 [[.lst 0 [] true]] true := rfl
                        have g11 : bl11 R w Ch least 0 = .arr 0 4 [] false := rfl
                        have g12 : bl12 R w 0 = .arr 0 1 [] false := rfl
                        have hN40 : N.length ≤ 40 := by simp only [decide_eq_false_iff_not] at h1; omega
                        have hsl : 1 ≤ sl ∧ sl ≤ 1000 := by simp only [decide_eq_false_iff_not] at h2 h3; omega
                        have hgg : Good R 1 := fun j ρ hj hr => by
                          rcases Nat.lt_or_ge j 0 with h | h
                          · exact hg j ρ h hr
                          · obtain rfl : j = 0 := by omega
                            rw [hρ] at hr; cases hr
                            exact ⟨hN40, hsl.1, hsl.2⟩
                        have hv0 : vB rI C0 (uD R w 0).1 (uD R w 0).2 = true := by
                          rw [← hrI]
                          exact vB_zero
                        simp only [go_sem, Int.cast_ofNat_Int, Int.reduceToNat, Bool.true_xor, Bool.false_xor, Bool.xor_true, Bool.xor_false, Nat.reduceAdd, Nat.reduceBEq, Nat.reduceLeDiff, Nat.reduceLT, Nat.reduceMul, Nat.reduceSub, Int.reduceEq, Int.reduceLT, Int.reduceLE, Int.reduceNeg, r0, r1, r2, rt, hρ, h1, h2, h3, f11, f12, g11, g12]
                        refine loop_post (fun j => ([(1, .lst 1 (iS Ch) fc), (7, .int .i64 least), (8, .int .i64 slot), (9, .int .i64 w), (10, .ptr 1 0 0 0), (11, .lst 4 [[.int .i64 0, .int .i64 0, .int .i64 10, .lst 1 (iS Ch) false]] true), (12, .lst 1 [[.lst 0 [] true]] true), (13, .ptr 2 0 0 0), (15, .ptr 5 0 0 0), (68, .lst 2 (rdS R) fr), (69, .int .i64 R.length), (70, .int .i64 rI), (89, .lst 1 (u8S N) fn), (90, .int .i64 N.length), (91, .int .i64 j)],
                          ⟨[yB least slot w, hpB (hpA R w Ch least 0), lrB rI (ntN N j) (uD R w 0).1 (uD R w 0).2, .arr 0 4 [] false, .arr 0 1 [] false, .box [.lst 1 (u8S N) fn, .int .i64 sl]], [], 0⟩)) (fun _ => True) N.length ?_ trivial ?_
                        · have en : ntN N 0 = C0 := rfl
                          simp only [go_sem, Int.cast_ofNat_Int, Int.reduceToNat, Bool.true_xor, Bool.false_xor, Bool.xor_true, Bool.xor_false, Nat.reduceAdd, Nat.reduceBEq, Nat.reduceLeDiff, Nat.reduceLT, Nat.reduceMul, Nat.reduceSub, Int.reduceEq, Int.reduceLT, Int.reduceLE, Int.reduceNeg, en]
                          try rfl
                        · intro j hj _
                          rcases Nat.lt_or_ge j N.length with hlt2 | hge2
                          · have hs2 : w64 ((j : Int) + 1) = ((j + 1 : Nat) : Int) := by rw [w64_id (by omega) (by omega)]; omega
                            obtain ⟨k, hk⟩ := getS hlt2
                            obtain ⟨k0, k1⟩ := hN _ (List.mem_of_getElem? hρ) k (List.mem_of_getElem? hk)
                            have hsuc := ntN_suc hk
                            have wk : w64 k = k := w64_id (by omega) (by omega)
                            have t0 := Int.tmod_nonneg (a := k) 16 k0
                            have t1 := Int.tmod_lt_of_pos k (show (0 : Int) < 16 by omega)
                            have wk2 : w64 (k.tmod 16) = k.tmod 16 := w64_id (by omega) (by omega)
                            have h160 : decide ((16 : Int) = 0) = false := by rfl
                            have hvj := ntN_vB (i := j) hv0 (by omega) hN40
                            have hbig : decide (((ntN N j).getD (k.tmod 16).toNat (0, 0)).1 = 1073741824) = false := by
                              apply decide_eq_false
                              rw [List.getD_eq_getElem?_getD]
                              cases hq : (ntN N j)[(k.tmod 16).toNat]? with
                              | none => simp
                              | some c =>
                                have := ntN_cnt (N := N) j (by omega) c (List.mem_of_getElem? hq)
                                simp only [Option.getD_some]; omega
                            have h17 := fun H => H12.s17 57 H rI (ntN N j) (uD R w 0).1 (uD R w 0).2 true true true (k.tmod 16) (decide (128 ≤ k))
                            unfold H12.ntV at h17
                            rw [hvj, decide_eq_false (show ¬ k.tmod 16 < 0 by omega), decide_eq_false (show ¬ 16 ≤ k.tmod 16 by omega), hbig] at h17
                            have hnt : (ntN N j).set (k.tmod 16).toNat (ad1 ((ntN N j).getD (k.tmod 16).toNat (0, 0)) (decide (128 ≤ k))) = ntN N (j + 1) := hsuc.symm
                            simp only [Bool.or_self, cond_true, cond_false, hnt] at h17
                            simp only [go_sem, Int.cast_ofNat_Int, Int.reduceToNat, Bool.true_xor, Bool.false_xor, Bool.xor_true, Bool.xor_false, Nat.reduceAdd, Nat.reduceBEq, Nat.reduceLeDiff, Nat.reduceLT, Nat.reduceMul, Nat.reduceSub, Int.reduceEq, Int.reduceLT, Int.reduceLE, Int.reduceNeg, hlt2, hs2, hk, wk, wk2, h160, h17]
                            exact ⟨by first | trivial | omega, by first | trivial | rfl, trivial⟩
                          · obtain rfl : j = N.length := by omega
                            have hvn := ntN_vB (i := N.length) hv0 (Nat.le_refl _) hN40
                            have hd2 : decide (N.length < N.length) = false := decide_eq_false (by omega)
                            have h18 := fun H => H12.s18 51 H rI (ntN N N.length) (uD R w 0).1 (uD R w 0).2 true true true w 500 900 1
                            unfold H12.clV at h18
                            rw [hvn] at h18
                            cases hrt : rightB w 500 900 1 with
                            | false =>
                              rw [hrt] at h18
                              simp only [cond_true, cond_false] at h18
                              simp only [go_sem, Int.cast_ofNat_Int, Int.reduceToNat, Bool.true_xor, Bool.false_xor, Bool.xor_true, Bool.xor_false, Nat.reduceAdd, Nat.reduceBEq, Nat.reduceLeDiff, Nat.reduceLT, Nat.reduceMul, Nat.reduceSub, Int.reduceEq, Int.reduceLT, Int.reduceLE, Int.reduceNeg, hd2, h18]
                            | true =>
                              obtain ⟨rJ, hrJ⟩ : ∃ z : Int, ((1 : Nat) : Int) = z := ⟨_, rfl⟩
                              have rs : w64 (rI + 1) = rJ := rs.trans hrJ
                              rw [hrt, decide_eq_false (show ¬ rI = 1073741824 by omega), rs] at h18
                              simp only [cond_true, cond_false] at h18
                              have hU : (clU rI (ntN N N.length) (uD R w 0).1 (uD R w 0).2 w 500 1) = (uD R w 1).1 := by rw [uD_suc R w hρ, ← hrI]
                              have hD : (clD rI (ntN N N.length) (uD R w 0).1 (uD R w 0).2 w 500 900 1) = (uD R w 1).2 := by rw [uD_suc R w hρ, ← hrI]
                              rw [hU, hD] at h18
                              have hv1 := uD_ok R w hrt 1 (by omega) (by omega) hgg
                              have h19 := fun H => H12.s19 57 H rJ C0 (uD R w 1).1 (uD R w 1).2 true true true
                              unfold H12.blV at h19
                              rw [hrJ] at hv1
                              rw [hv1, H12.bS_iS, show (blk (uD R w 1).1).map (fun (n : Nat) => (n : Int)) = bkA R w 0 from rfl] at h19
                              simp only [cond_true] at h19
                              have hBl := bkA_len R w 0
                              have h8b := fun n H => H11.s8 n H (bkA R w 0) false (by omega)
                              have h20 := fun H => H11.s20 55 H Ch (bkA R w 0) false false least (by omega) (by omega)
                              have hwo : H11.woE Ch (bkA R w 0) least = 0 := by
                                unfold H11.woE
                                rw [hd, bkA_ok, decide_eq_true (show (bkA R w 0).length ≤ 64 by omega), decide_eq_true hl1, decide_eq_true hl2]; rfl
                              unfold H11.woV at h20
                              rw [hwo] at h20
                              simp only [decide_true, cond_true] at h20
                              obtain ⟨w1, w2, w3, w4⟩ := wl_ok Ch least (B := bkA R w 0) hd hl1 hl2
                              have h8w := fun n H => H11.s8 n H (wl Ch (bkA R w 0) least) false (by omega)
                              obtain ⟨p1, p2, p3, p4, p5, p6⟩ := hpA_ok R w Ch least hd hl1 hl2 0 (by omega) (by omega) hg
                              obtain ⟨p7, p8, p9, _⟩ := hpA_ok R w Ch least hd hl1 hl2 1 (by omega) (by omega) hgg
                              have hnx := hpA_suc R w Ch least hρ
                              rw [hnx] at p7 p8
                              have wb : w64 ((hpA R w Ch least 0).b + sl) = (hpA R w Ch least 0).b + sl := w64_id (by omega) (by omega)
                              have h21 := fun H => H11.s21 55 H (hpA R w Ch least 0).v (hpA R w Ch least 0).a (hpA R w Ch least 0).b (hpA R w Ch least 0).C (hpA R w Ch least 0).f ((hpA R w Ch least 0).b + sl) (wl Ch (bkA R w 0) least) false (by omega) (by omega)
                              have p1' : okH (hpA R w Ch least 0).v (hpA R w Ch least 0).a (hpA R w Ch least 0).b (hpA R w Ch least 0).C = true := p1
                              have p7' : okH (nxv (hpA R w Ch least 0).v) (hpA R w Ch least 0).b ((hpA R w Ch least 0).b + sl) (wl Ch (bkA R w 0) least) = true := p7
                              unfold H11.nxV H11.nxE at h21
                              rw [p1', p7'] at h21
                              simp only [Bool.and_self, cond_true] at h21
                              have a4 := fun (H : Heap) (a b : List SV) => (show sappend 4 48 H (.lst 4 [a] true) [b] = some (.slc H.bl.length 0 0 2, hnew H (.arr 0 4 [a, b] false)) from rfl)
                              have a1 := fun (H : Heap) (a b : List SV) => (show sappend 1 24 H (.lst 1 [a] true) [b] = some (.slc H.bl.length 0 0 2, hnew H (.arr 0 1 [a, b] false)) from rfl)
                              simp only [go_sem, Int.cast_ofNat_Int, Int.reduceToNat, Bool.true_xor, Bool.false_xor, Bool.xor_true, Bool.xor_false, Nat.reduceAdd, Nat.reduceBEq, Nat.reduceLeDiff, Nat.reduceLT, Nat.reduceMul, Nat.reduceSub, Int.reduceEq, Int.reduceLT, Int.reduceLE, Int.reduceNeg, hd2, h18, h19, h8b, h8c, h20, h8w, wb, h21, a4, a1, rs]
                              have q0 : hpA R w Ch least 1 = ⟨nxv (hpA R w Ch least 0).v, (hpA R w Ch least 0).b, (hpA R w Ch least 0).b + sl, wl Ch (bkA R w 0) least, false⟩ := hnx
                              have q1 : bl11 R w Ch least 1 = .arr 1 4 [[.int .i64 0, .int .i64 0, .int .i64 10, .lst 1 (iS Ch) false], [.int .i64 (nxv (hpA R w Ch least 0).v), .int .i64 (hpA R w Ch least 0).b, .int .i64 ((hpA R w Ch least 0).b + sl), .lst 1 (iS (wl Ch (bkA R w 0) least)) false]] false := by
                                show SBlk.arr 1 4 (hpsS (allA R w Ch least (0 + 1))) false = _
                                rw [allA_suc, ← hps_snoc, hnx]; rfl
                              subst hrJ
                              rw [q1, q0]
                              exact ⟨hlt, rfl, hgg, fun _ => trivial⟩

                      · have f11 : sg11 R w Ch least (i + 1) = .slc 3 (i + 1) 0 (i + 2) := rfl
                        have f12 : sg12 R w (i + 1) = .slc 4 (i + 1) 0 (i + 2) := rfl
                        have g11 : bl11 R w Ch least (i + 1) = .arr (i + 1) 4 (hpsS (allA R w Ch least (i + 1))) false := rfl
                        have g12 : bl12 R w (i + 1) = .arr (i + 1) 1 (bbS R w (i + 1)) false := rfl
                        have hN40 : N.length ≤ 40 := by simp only [decide_eq_false_iff_not] at h1; omega
                        have hsl : 1 ≤ sl ∧ sl ≤ 1000 := by simp only [decide_eq_false_iff_not] at h2 h3; omega
                        have hgg : Good R (i + 1 + 1) := fun j ρ hj hr => by
                          rcases Nat.lt_or_ge j (i + 1) with h | h
                          · exact hg j ρ h hr
                          · obtain rfl : j = (i + 1) := by omega
                            rw [hρ] at hr; cases hr
                            exact ⟨hN40, hsl.1, hsl.2⟩
                        have hv0 : vB rI C0 (uD R w (i + 1)).1 (uD R w (i + 1)).2 = true := by
                          rw [← hrI]
                          exact uD_ok R w (hw (by omega)) (i + 1) (by omega) (by omega) hg
                        simp only [go_sem, Int.cast_ofNat_Int, Int.reduceToNat, Bool.true_xor, Bool.false_xor, Bool.xor_true, Bool.xor_false, Nat.reduceAdd, Nat.reduceBEq, Nat.reduceLeDiff, Nat.reduceLT, Nat.reduceMul, Nat.reduceSub, Int.reduceEq, Int.reduceLT, Int.reduceLE, Int.reduceNeg, r0, r1, r2, rt, hρ, h1, h2, h3, f11, f12, g11, g12]
                        refine loop_post (fun j => ([(1, .lst 1 (iS Ch) fc), (7, .int .i64 least), (8, .int .i64 slot), (9, .int .i64 w), (10, .ptr 1 0 0 0), (11, .slc 3 (i + 1) 0 (i + 2)), (12, .slc 4 (i + 1) 0 (i + 2)), (13, .ptr 2 0 0 0), (15, .ptr 5 0 0 0), (68, .lst 2 (rdS R) fr), (69, .int .i64 R.length), (70, .int .i64 rI), (89, .lst 1 (u8S N) fn), (90, .int .i64 N.length), (91, .int .i64 j)],
                          ⟨[yB least slot w, hpB (hpA R w Ch least (i + 1)), lrB rI (ntN N j) (uD R w (i + 1)).1 (uD R w (i + 1)).2, .arr (i + 1) 4 (hpsS (allA R w Ch least (i + 1))) false, .arr (i + 1) 1 (bbS R w (i + 1)) false, .box [.lst 1 (u8S N) fn, .int .i64 sl]], [], 0⟩)) (fun _ => True) N.length ?_ trivial ?_
                        · have en : ntN N 0 = C0 := rfl
                          simp only [go_sem, Int.cast_ofNat_Int, Int.reduceToNat, Bool.true_xor, Bool.false_xor, Bool.xor_true, Bool.xor_false, Nat.reduceAdd, Nat.reduceBEq, Nat.reduceLeDiff, Nat.reduceLT, Nat.reduceMul, Nat.reduceSub, Int.reduceEq, Int.reduceLT, Int.reduceLE, Int.reduceNeg, en]
                          try rfl
                        · intro j hj _
                          rcases Nat.lt_or_ge j N.length with hlt2 | hge2
                          · have hs2 : w64 ((j : Int) + 1) = ((j + 1 : Nat) : Int) := by rw [w64_id (by omega) (by omega)]; omega
                            obtain ⟨k, hk⟩ := getS hlt2
                            obtain ⟨k0, k1⟩ := hN _ (List.mem_of_getElem? hρ) k (List.mem_of_getElem? hk)
                            have hsuc := ntN_suc hk
                            have wk : w64 k = k := w64_id (by omega) (by omega)
                            have t0 := Int.tmod_nonneg (a := k) 16 k0
                            have t1 := Int.tmod_lt_of_pos k (show (0 : Int) < 16 by omega)
                            have wk2 : w64 (k.tmod 16) = k.tmod 16 := w64_id (by omega) (by omega)
                            have h160 : decide ((16 : Int) = 0) = false := by rfl
                            have hvj := ntN_vB (i := j) hv0 (by omega) hN40
                            have hbig : decide (((ntN N j).getD (k.tmod 16).toNat (0, 0)).1 = 1073741824) = false := by
                              apply decide_eq_false
                              rw [List.getD_eq_getElem?_getD]
                              cases hq : (ntN N j)[(k.tmod 16).toNat]? with
                              | none => simp
                              | some c =>
                                have := ntN_cnt (N := N) j (by omega) c (List.mem_of_getElem? hq)
                                simp only [Option.getD_some]; omega
                            have h17 := fun H => H12.s17 57 H rI (ntN N j) (uD R w (i + 1)).1 (uD R w (i + 1)).2 true true true (k.tmod 16) (decide (128 ≤ k))
                            unfold H12.ntV at h17
                            rw [hvj, decide_eq_false (show ¬ k.tmod 16 < 0 by omega), decide_eq_false (show ¬ 16 ≤ k.tmod 16 by omega), hbig] at h17
                            have hnt : (ntN N j).set (k.tmod 16).toNat (ad1 ((ntN N j).getD (k.tmod 16).toNat (0, 0)) (decide (128 ≤ k))) = ntN N (j + 1) := hsuc.symm
                            simp only [Bool.or_self, cond_true, cond_false, hnt] at h17
                            simp only [go_sem, Int.cast_ofNat_Int, Int.reduceToNat, Bool.true_xor, Bool.false_xor, Bool.xor_true, Bool.xor_false, Nat.reduceAdd, Nat.reduceBEq, Nat.reduceLeDiff, Nat.reduceLT, Nat.reduceMul, Nat.reduceSub, Int.reduceEq, Int.reduceLT, Int.reduceLE, Int.reduceNeg, hlt2, hs2, hk, wk, wk2, h160, h17]
                            exact ⟨by first | trivial | omega, by first | trivial | rfl, trivial⟩
                          · obtain rfl : j = N.length := by omega
                            have hvn := ntN_vB (i := N.length) hv0 (Nat.le_refl _) hN40
                            have hd2 : decide (N.length < N.length) = false := decide_eq_false (by omega)
                            have h18 := fun H => H12.s18 51 H rI (ntN N N.length) (uD R w (i + 1)).1 (uD R w (i + 1)).2 true true true w 500 900 1
                            unfold H12.clV at h18
                            rw [hvn] at h18
                            cases hrt : rightB w 500 900 1 with
                            | false =>
                              rw [hrt] at h18
                              simp only [cond_true, cond_false] at h18
                              simp only [go_sem, Int.cast_ofNat_Int, Int.reduceToNat, Bool.true_xor, Bool.false_xor, Bool.xor_true, Bool.xor_false, Nat.reduceAdd, Nat.reduceBEq, Nat.reduceLeDiff, Nat.reduceLT, Nat.reduceMul, Nat.reduceSub, Int.reduceEq, Int.reduceLT, Int.reduceLE, Int.reduceNeg, hd2, h18]
                            | true =>
                              obtain ⟨rJ, hrJ⟩ : ∃ z : Int, (((i + 1 + 1) : Nat) : Int) = z := ⟨_, rfl⟩
                              have rs : w64 (rI + 1) = rJ := rs.trans hrJ
                              rw [hrt, decide_eq_false (show ¬ rI = 1073741824 by omega), rs] at h18
                              simp only [cond_true, cond_false] at h18
                              have hU : (clU rI (ntN N N.length) (uD R w (i + 1)).1 (uD R w (i + 1)).2 w 500 1) = (uD R w (i + 1 + 1)).1 := by rw [uD_suc R w hρ, ← hrI]
                              have hD : (clD rI (ntN N N.length) (uD R w (i + 1)).1 (uD R w (i + 1)).2 w 500 900 1) = (uD R w (i + 1 + 1)).2 := by rw [uD_suc R w hρ, ← hrI]
                              rw [hU, hD] at h18
                              have hv1 := uD_ok R w hrt (i + 1 + 1) (by omega) (by omega) hgg
                              have h19 := fun H => H12.s19 57 H rJ C0 (uD R w (i + 1 + 1)).1 (uD R w (i + 1 + 1)).2 true true true
                              unfold H12.blV at h19
                              rw [hrJ] at hv1
                              rw [hv1, H12.bS_iS, show (blk (uD R w (i + 1 + 1)).1).map (fun (n : Nat) => (n : Int)) = bkA R w (i + 1) from rfl] at h19
                              simp only [cond_true] at h19
                              have hBl := bkA_len R w (i + 1)
                              have h8b := fun n H => H11.s8 n H (bkA R w (i + 1)) false (by omega)
                              have h20 := fun H => H11.s20 55 H Ch (bkA R w (i + 1)) false false least (by omega) (by omega)
                              have hwo : H11.woE Ch (bkA R w (i + 1)) least = 0 := by
                                unfold H11.woE
                                rw [hd, bkA_ok, decide_eq_true (show (bkA R w (i + 1)).length ≤ 64 by omega), decide_eq_true hl1, decide_eq_true hl2]; rfl
                              unfold H11.woV at h20
                              rw [hwo] at h20
                              simp only [decide_true, cond_true] at h20
                              obtain ⟨w1, w2, w3, w4⟩ := wl_ok Ch least (B := bkA R w (i + 1)) hd hl1 hl2
                              have h8w := fun n H => H11.s8 n H (wl Ch (bkA R w (i + 1)) least) false (by omega)
                              obtain ⟨p1, p2, p3, p4, p5, p6⟩ := hpA_ok R w Ch least hd hl1 hl2 (i + 1) (by omega) (by omega) hg
                              obtain ⟨p7, p8, p9, _⟩ := hpA_ok R w Ch least hd hl1 hl2 (i + 1 + 1) (by omega) (by omega) hgg
                              have hnx := hpA_suc R w Ch least hρ
                              rw [hnx] at p7 p8
                              have wb : w64 ((hpA R w Ch least (i + 1)).b + sl) = (hpA R w Ch least (i + 1)).b + sl := w64_id (by omega) (by omega)
                              have h21 := fun H => H11.s21 55 H (hpA R w Ch least (i + 1)).v (hpA R w Ch least (i + 1)).a (hpA R w Ch least (i + 1)).b (hpA R w Ch least (i + 1)).C (hpA R w Ch least (i + 1)).f ((hpA R w Ch least (i + 1)).b + sl) (wl Ch (bkA R w (i + 1)) least) false (by omega) (by omega)
                              have p1' : okH (hpA R w Ch least (i + 1)).v (hpA R w Ch least (i + 1)).a (hpA R w Ch least (i + 1)).b (hpA R w Ch least (i + 1)).C = true := p1
                              have p7' : okH (nxv (hpA R w Ch least (i + 1)).v) (hpA R w Ch least (i + 1)).b ((hpA R w Ch least (i + 1)).b + sl) (wl Ch (bkA R w (i + 1)) least) = true := p7
                              unfold H11.nxV H11.nxE at h21
                              rw [p1', p7'] at h21
                              simp only [Bool.and_self, cond_true] at h21
                              have g4 := fun H => apB_grow 4 H 3 (i + 1) (i + 2) [[.int .i64 (nxv (hpA R w Ch least (i + 1)).v), .int .i64 (hpA R w Ch least (i + 1)).b, .int .i64 ((hpA R w Ch least (i + 1)).b + sl), .lst 1 (iS (wl Ch (bkA R w (i + 1)) least)) false]] (hpsS (allA R w Ch least (i + 1))) (by simp [hpsS, allA_len])
                              have g1 := fun H => apB_grow 1 H 4 (i + 1) (i + 2) [[.lst 1 (iS (bkA R w (i + 1))) false]] (bbS R w (i + 1)) (bbS_len (R := R) (w := w))
                              have r4 : decide ((i + 2 + 1) * 48 ≤ mostLen) = true := decide_eq_true (Nat.le_trans (show (i + 2 + 1) * 48 ≤ 1000 by omega) (by decide))
                              have r5 : decide ((i + 2 + 1) * 24 ≤ mostLen) = true := decide_eq_true (Nat.le_trans (show (i + 2 + 1) * 24 ≤ 1000 by omega) (by decide))
                              simp only [go_sem, Int.cast_ofNat_Int, Int.reduceToNat, Bool.true_xor, Bool.false_xor, Bool.xor_true, Bool.xor_false, Nat.reduceAdd, Nat.reduceBEq, Nat.reduceLeDiff, Nat.reduceLT, Nat.reduceMul, Nat.reduceSub, Int.reduceEq, Int.reduceLT, Int.reduceLE, Int.reduceNeg, hd2, h18, h19, h8b, h8c, h20, h8w, wb, h21, g4, g1, r4, r5, rs]
                              have q0 : hpA R w Ch least (i + 1 + 1) = ⟨nxv (hpA R w Ch least (i + 1)).v, (hpA R w Ch least (i + 1)).b, (hpA R w Ch least (i + 1)).b + sl, wl Ch (bkA R w (i + 1)) least, false⟩ := hnx
                              have q1 : bl11 R w Ch least (i + 1 + 1) = .arr (i + 1 + 1) 4 (hpsS (allA R w Ch least (i + 1)) ++ [[.int .i64 (nxv (hpA R w Ch least (i + 1)).v), .int .i64 (hpA R w Ch least (i + 1)).b, .int .i64 ((hpA R w Ch least (i + 1)).b + sl), .lst 1 (iS (wl Ch (bkA R w (i + 1)) least)) false]]) false := by
                                show SBlk.arr _ 4 (hpsS (allA R w Ch least (i + 1 + 1))) false = _
                                rw [allA_suc, ← hps_snoc, hnx]
                              have q2 : bl12 R w (i + 1 + 1) = .arr (i + 1 + 1) 1 (bbS R w (i + 1) ++ [[.lst 1 (iS (bkA R w (i + 1))) false]]) false := by
                                show SBlk.arr _ 1 (bbS R w (i + 1 + 1)) false = _
                                rw [bbS_suc]
                              subst hrJ
                              rw [q1, q2, q0]
                              exact ⟨hlt, rfl, hgg, fun _ => trivial⟩
              · have r1 : decide (rI < (R.length : Int)) = false := decide_eq_false (by omega)
                rcases i with _ | i
                · have hz : decide (0 < R.length) = false := decide_eq_false (by omega)
                  have f11 : sg11 R w Ch least 0 = .lst 4 (hpsS (allA R w Ch least 0)) true := rfl
                  have f12 : sg12 R w 0 = .lst 1 (bbS R w 0) true := rfl
                  have g11 : bl11 R w Ch least 0 = .arr 0 4 [] false := rfl
                  have g12 : bl12 R w 0 = .arr 0 1 [] false := rfl
                  have h22 := fun H => H11.s22 54 H (allA R w Ch least 0) true slot (by rw [allA_len]; omega) (allA_ok R w Ch least hd hl1 hl2 hC (by omega) (by omega) hg)
                  have hca := caE_zero R w Ch least hd hl1 hl2 (m := 0) (by omega) (by omega) hg
                  have hE : H11.ifE (allA R w Ch least 0) slot = bif decide (0 ≤ ifI (allA R w Ch least 0) slot) then 0 else 7 := by
                    unfold H11.ifE; rw [hca]; rfl
                  have hV : H11.ifV true (allA R w Ch least 0) slot = bif decide (0 ≤ ifI (allA R w Ch least 0) slot) then hl (ifH (allA R w Ch least 0) slot).v (ifH (allA R w Ch least 0) slot).a (ifH (allA R w Ch least 0) slot).b 1 (ifH (allA R w Ch least 0) slot).C false else hl 0 0 0 0 [] true := by
                    unfold H11.ifV; rw [hE]
                    cases decide (0 ≤ ifI (allA R w Ch least 0) slot) <;> rfl
                  rw [hE, hV] at h22
                  cases hpos : decide (0 ≤ ifI (allA R w Ch least 0) slot) with
                  | false =>
                    rw [hpos] at h22
                    simp only [cond_false] at h22
                    have hpos := of_decide_eq_false hpos
                    have hge := idx1_ge (inP slot) (allA R w Ch least 0)
                    unfold H11.ifI at hpos
                    have hnone := idx1_neg (inP slot) (allA R w Ch least 0) (by omega)
                    cases hs0 : decide (slot < 0) with
                    | true => simp only [go_sem, Int.cast_ofNat_Int, Int.reduceToNat, Bool.true_xor, Bool.false_xor, Bool.xor_true, Bool.xor_false, Nat.reduceAdd, Nat.reduceBEq, Nat.reduceLeDiff, Nat.reduceLT, Nat.reduceMul, Nat.reduceSub, Int.reduceEq, Int.reduceLT, Int.reduceLE, Int.reduceNeg, r0, r1, hz, h22, hs0, f11, f12, g11, g12]
                    | false =>
                      have hs1 : decide ((hpA R w Ch least 0).b ≤ slot) = true := by
                        apply decide_eq_true
                        apply Int.not_lt.1
                        intro hlt
                        obtain ⟨j, hj, hin⟩ := covers R w Ch least 0 (by omega) (s := slot) (by have := of_decide_eq_false hs0; omega) hlt
                        have := List.any_eq_false.1 hnone _ (List.mem_of_getElem? (allA_get R w Ch least hj))
                        exact this hin
                      simp only [go_sem, Int.cast_ofNat_Int, Int.reduceToNat, Bool.true_xor, Bool.false_xor, Bool.xor_true, Bool.xor_false, Nat.reduceAdd, Nat.reduceBEq, Nat.reduceLeDiff, Nat.reduceLT, Nat.reduceMul, Nat.reduceSub, Int.reduceEq, Int.reduceLT, Int.reduceLE, Int.reduceNeg, r0, r1, hz, h22, hs0, hs1, f11, f12, g11, g12]
                  | true =>
                    rw [hpos] at h22
                    simp only [cond_true] at h22
                    have hpos := of_decide_eq_true hpos
                    obtain ⟨j, hj⟩ : ∃ j : Nat, ifI (allA R w Ch least 0) slot = (j : Int) := ⟨(ifI (allA R w Ch least 0) slot).toNat, by omega⟩
                    obtain ⟨⟨a, ha, hin⟩, _⟩ := idx1_spec (inP slot) (allA R w Ch least 0) j hj
                    have hjm : j ≤ 0 := by
                      have := (List.getElem?_eq_some_iff.1 ha).1
                      rw [allA_len] at this; omega
                    rw [allA_get R w Ch least hjm] at ha
                    cases ha
                    have hH : ifH (allA R w Ch least 0) slot = hpA R w Ch least j := by
                      unfold H11.ifH; rw [hj, Int.toNat_natCast, allA_get R w Ch least hjm]; rfl
                    rw [hH] at h22
                    obtain ⟨b1, b2, b3, b4, b5, b6⟩ := hpA_ok R w Ch least hd hl1 hl2 j (by omega) (by omega) (Good.le R hg hjm)
                    obtain ⟨⟨v, av, bv, D, ff⟩, hg'⟩ : ∃ g, hpA R w Ch least j = g := ⟨_, rfl⟩
                    have hfi := fst_idx R w Ch least hd hl1 hl2 (m := 0) (by omega) (by omega) hg hjm
                    have hfew := fun c h h' => row_few R w Ch least hd hl2 (j := j) (c := c) (by omega) h h'
                    rw [hg'] at h22 hfi hin b1 b4 b5 b6 hfew
                    try simp only [] at h22 hfi b4 b5 b6 hfew
                    have h23 := fun X0 X1 X2 X3 X4 es ro => stdIdxF_ok (T := T) (f := 23) (n := 59) (H := ⟨[X0, X1, X2, X3, X4, hpB ⟨v, av, bv, D, false⟩], es, ro⟩) (ag := true) (z := 4) (id := 24) (caps := [.ptr 5 0 0 0]) (v := .lst 4 (hpsS (allA R w Ch least 0)) true) (L := hpsS (allA R w Ch least 0)) (p := fun r => decide ((H11.toHp r).a = av)) H11.x47 (.lst 4 true (.inl rfl)) H11.hps_row (fun h => by cases h) (by rw [H11.hpsS_len, allA_len]; exact Nat.le_trans (show 0 + 1 ≤ 9 by omega) (by decide))
                      (fun r hr bl ro hbl => by
                        simp only [hpsS, List.mem_map] at hr
                        obtain ⟨h, _, rfl⟩ := hr
                        rw [H11.toHp_of]
                        rcases hbl with ⟨_, _, h3⟩ | h3
                        · simp [SV.refs.refsL, SV.refs] at h3
                        · exact s24 58 bl ro h ⟨v, av, bv, D, false⟩ X0 X1 X2 X3 X4 h3) (by simp [SV.refs.refsL, SV.refs])
                    have hip : idx1 (fun r => decide ((H11.toHp r).a = av)) (hpsS (allA R w Ch least 0)) = (j : Int) := (H11.idx_hp (fun h => decide (h.a = av)) (allA R w Ch least 0)).trans hfi
                    rw [hip] at h23
                    have hjn : decide ((j : Int) < 0) = false := decide_eq_false (by omega)
                    simp only [go_sem, Int.cast_ofNat_Int, Int.reduceToNat, Bool.true_xor, Bool.false_xor, Bool.xor_true, Bool.xor_false, Nat.reduceAdd, Nat.reduceBEq, Nat.reduceLeDiff, Nat.reduceLT, Nat.reduceMul, Nat.reduceSub, Int.reduceEq, Int.reduceLT, Int.reduceLE, Int.reduceNeg, r0, r1, hz, h22, h23, f11, f12, g11, g12]
                    have hDl : least ≤ D.length := b5
                    have hin2 : av ≤ slot ∧ slot < bv := by
                      unfold H11.inP at hin
                      simpa using hin
                    have hokD : okH v av bv D = true := b1
                    obtain ⟨_, g1, g2, g3, g4⟩ := H11.okH_spec hokD
                    refine loop_rule (fun k => ([(1, .lst 1 (iS Ch) fc), (7, .int .i64 least), (8, .int .i64 slot), (12, .lst 1 (bbS R w 0) true), (25, .ptr 5 0 0 0), (27, .int .i64 j), (28, .slc 6 k 0 k), (187, .int .i64 least), (188, .int .i64 k)],
                      ⟨[yB least slot w, hpB (hpA R w Ch least 0), lrB rI C0 (uD R w 0).1 (uD R w 0).2, .arr 0 4 [] false, .arr 0 1 [] false, hpB ⟨v, av, bv, D, false⟩, .arr k 1 (iS (H11.sn1 D slot k)) false], [], 0⟩)) (fun _ => True) least.toNat ?_ trivial ?_
                    · simp only [go_sem, Int.cast_ofNat_Int, Int.reduceToNat, Bool.true_xor, Bool.false_xor, Bool.xor_true, Bool.xor_false, Nat.reduceAdd, Nat.reduceBEq, Nat.reduceLeDiff, Nat.reduceLT, Nat.reduceMul, Nat.reduceSub, Int.reduceEq, Int.reduceLT, Int.reduceLE, Int.reduceNeg] <;> rfl
                    · intro k hk _
                      rcases Nat.lt_or_ge k least.toNat with hlt | hge
                      · have q1 : decide ((k : Int) < least) = true := decide_eq_true (by omega)
                        have hkD : k < D.length := by omega
                        have q2 : w64 ((k : Int) + 1) = ((k + 1 : Nat) : Int) := by rw [w64_id (by omega) (by omega)]; omega
                        have h25 := fun H => H11.s25 55 H v av bv D false slot k (by omega)
                        have hek : H11.chE v av bv D slot k = 0 := H11.chE_ok.2 ⟨hokD, hin2, by omega, by omega⟩
                        have hvk : H11.chV v av bv D slot k = H11.chnA D slot k := by simp [H11.chV, hek]
                        rw [hek, hvk] at h25
                        have hmem : H11.chnA D slot k ∈ D := List.mem_of_getElem? (H11.chn_get (by omega) (by omega))
                        have hfz := fun H v => (Still.ints (H11.sn1 D slot k)).fz 0 H 6 v k 1 false (by rw [iS_len, H11.sn1_len])
                        have hc1 := fun H => stdCon_ok (n := 58) (H := H) (v := .lst 1 (iS (H11.sn1 D slot k)) false) (M := H11.sn1 D slot k) (x := H11.chnA D slot k) H11.x13 H11.x36 H11.lvI (by rw [H11.sn1_len]; exact Nat.le_trans (show k ≤ 20 by omega) (by decide))
                        have hc2 := fun H => stdCon_ok (n := 58) (H := H) (v := .lst 1 (iS Ch) fc) (M := Ch) (x := H11.chnA D slot k) H11.x13 H11.x36 H11.lvI (Nat.le_trans hC (by decide))
                        have hc3 := fun H => stdCon_ok (n := 58) (H := H) (v := rowV R w j) (M := rowA R w j) (x := H11.chnA D slot k) H11.x13 H11.x36 (rowV_lv R w H.bl j) (Nat.le_trans (rowA_len R w j) (by decide))
                        have hnew : decide (H11.chnA D slot (k : Int) ∈ H11.sn1 D slot k) = false := decide_eq_false (H11.sn1_new g4 (by omega) hkD)
                        have hold : decide (H11.chnA D slot k ∈ Ch) = true := decide_eq_true (b4 _ hmem)
                        have hjl : decide (j < 0 + 1) = true := decide_eq_true (by omega)
                        have hjl2 : decide ((j : Int) < ((0 + 1 : Nat) : Int)) = true := decide_eq_true (by omega)
                        try simp only [Nat.zero_add, Int.cast_ofNat_Int] at hjl hjl2
                        have hj1 : j = 0 → decide (j < 1) = true := fun h => decide_eq_true (by omega)
                        have hj2 : j = 0 → decide ((j : Int) < 1) = true := fun h => decide_eq_true (by omega)
                        cases hbk : decide (H11.chnA D slot k ∈ rowA R w j) with
                        | false =>
                          simp only [go_sem, Int.cast_ofNat_Int, Int.reduceToNat, Bool.true_xor, Bool.false_xor, Bool.xor_true, Bool.xor_false, Nat.reduceAdd, Nat.reduceBEq, Nat.reduceLeDiff, Nat.reduceLT, Nat.reduceMul, Nat.reduceSub, Int.reduceEq, Int.reduceLT, Int.reduceLE, Int.reduceNeg, q1, h25, hfz, hc1, hc2, hc3, hnew, hold, hjn, hjl, hj1 (by omega), hj2 (by omega), bbS_get hjm, hbk, apB_grow _ _ _ _ _ _ _ (show (iS (H11.sn1 D slot k)).length = k by rw [iS_len, H11.sn1_len]), H11.room8 (show k ≤ 1000 by omega), iS_snoc, ← H11.sn1_succ, q2]
                          refine ⟨by first | trivial | omega, by first | trivial | rfl, ?_⟩
                          trivial
                        | true =>
                          have hfw : decide (least < (D.length : Int)) = false := by
                            have := hfew _ hmem (of_decide_eq_true hbk)
                            exact decide_eq_false (by omega)
                          simp only [go_sem, Int.cast_ofNat_Int, Int.reduceToNat, Bool.true_xor, Bool.false_xor, Bool.xor_true, Bool.xor_false, Nat.reduceAdd, Nat.reduceBEq, Nat.reduceLeDiff, Nat.reduceLT, Nat.reduceMul, Nat.reduceSub, Int.reduceEq, Int.reduceLT, Int.reduceLE, Int.reduceNeg, q1, h25, hfz, hc1, hc2, hc3, hnew, hold, hjn, hjl, hj1 (by omega), hj2 (by omega), bbS_get hjm, hbk, hfw, apB_grow _ _ _ _ _ _ _ (show (iS (H11.sn1 D slot k)).length = k by rw [iS_len, H11.sn1_len]), H11.room8 (show k ≤ 1000 by omega), iS_snoc, ← H11.sn1_succ, q2]
                          refine ⟨by first | trivial | omega, by first | trivial | rfl, ?_⟩
                          trivial
                      · obtain rfl : k = least.toNat := by omega
                        have q1 : decide ((least.toNat : Int) < least) = false := decide_eq_false (by omega)
                        simp only [go_sem, Int.cast_ofNat_Int, Int.reduceToNat, Bool.true_xor, Bool.false_xor, Bool.xor_true, Bool.xor_false, Nat.reduceAdd, Nat.reduceBEq, Nat.reduceLeDiff, Nat.reduceLT, Nat.reduceMul, Nat.reduceSub, Int.reduceEq, Int.reduceLT, Int.reduceLE, Int.reduceNeg, q1]
                · have hz : decide ((i + 1) < R.length) = false := decide_eq_false (by omega)
                  have f11 : sg11 R w Ch least (i + 1) = .slc 3 (i + 1) 0 (i + 2) := rfl
                  have f12 : sg12 R w (i + 1) = .slc 4 (i + 1) 0 (i + 2) := rfl
                  have g11 : bl11 R w Ch least (i + 1) = .arr (i + 1) 4 (hpsS (allA R w Ch least (i + 1))) false := rfl
                  have g12 : bl12 R w (i + 1) = .arr (i + 1) 1 (bbS R w (i + 1)) false := rfl
                  have gz4 := fun H => fTB_whole H 3 (i + 1) (i + 2) 4 (hpsS (allA R w Ch least (i + 1))) false (by rw [H11.hpsS_len, allA_len]) (hps_refs _)
                  have gz1 := fun H => fTB_whole H 4 (i + 1) (i + 2) 1 (bbS R w (i + 1)) false (bbS_len (R := R) (w := w)) (bbS_refs R w (i + 1))
                  have h22 := fun H => H11.s22 54 H (allA R w Ch least (i + 1)) false slot (by rw [allA_len]; omega) (allA_ok R w Ch least hd hl1 hl2 hC (by omega) (by omega) hg)
                  have hca := caE_zero R w Ch least hd hl1 hl2 (m := (i + 1)) (by omega) (by omega) hg
                  have hE : H11.ifE (allA R w Ch least (i + 1)) slot = bif decide (0 ≤ ifI (allA R w Ch least (i + 1)) slot) then 0 else 7 := by
                    unfold H11.ifE; rw [hca]; rfl
                  have hV : H11.ifV true (allA R w Ch least (i + 1)) slot = bif decide (0 ≤ ifI (allA R w Ch least (i + 1)) slot) then hl (ifH (allA R w Ch least (i + 1)) slot).v (ifH (allA R w Ch least (i + 1)) slot).a (ifH (allA R w Ch least (i + 1)) slot).b 1 (ifH (allA R w Ch least (i + 1)) slot).C false else hl 0 0 0 0 [] true := by
                    unfold H11.ifV; rw [hE]
                    cases decide (0 ≤ ifI (allA R w Ch least (i + 1)) slot) <;> rfl
                  rw [hE, hV] at h22
                  cases hpos : decide (0 ≤ ifI (allA R w Ch least (i + 1)) slot) with
                  | false =>
                    rw [hpos] at h22
                    simp only [cond_false] at h22
                    have hpos := of_decide_eq_false hpos
                    have hge := idx1_ge (inP slot) (allA R w Ch least (i + 1))
                    unfold H11.ifI at hpos
                    have hnone := idx1_neg (inP slot) (allA R w Ch least (i + 1)) (by omega)
                    cases hs0 : decide (slot < 0) with
                    | true => simp only [go_sem, Int.cast_ofNat_Int, Int.reduceToNat, Bool.true_xor, Bool.false_xor, Bool.xor_true, Bool.xor_false, Nat.reduceAdd, Nat.reduceBEq, Nat.reduceLeDiff, Nat.reduceLT, Nat.reduceMul, Nat.reduceSub, Int.reduceEq, Int.reduceLT, Int.reduceLE, Int.reduceNeg, r0, r1, hz, h22, hs0, f11, f12, g11, g12, gz4, gz1]
                    | false =>
                      have hs1 : decide ((hpA R w Ch least (i + 1)).b ≤ slot) = true := by
                        apply decide_eq_true
                        apply Int.not_lt.1
                        intro hlt
                        obtain ⟨j, hj, hin⟩ := covers R w Ch least (i + 1) (by omega) (s := slot) (by have := of_decide_eq_false hs0; omega) hlt
                        have := List.any_eq_false.1 hnone _ (List.mem_of_getElem? (allA_get R w Ch least hj))
                        exact this hin
                      simp only [go_sem, Int.cast_ofNat_Int, Int.reduceToNat, Bool.true_xor, Bool.false_xor, Bool.xor_true, Bool.xor_false, Nat.reduceAdd, Nat.reduceBEq, Nat.reduceLeDiff, Nat.reduceLT, Nat.reduceMul, Nat.reduceSub, Int.reduceEq, Int.reduceLT, Int.reduceLE, Int.reduceNeg, r0, r1, hz, h22, hs0, hs1, f11, f12, g11, g12, gz4, gz1]
                  | true =>
                    rw [hpos] at h22
                    simp only [cond_true] at h22
                    have hpos := of_decide_eq_true hpos
                    obtain ⟨j, hj⟩ : ∃ j : Nat, ifI (allA R w Ch least (i + 1)) slot = (j : Int) := ⟨(ifI (allA R w Ch least (i + 1)) slot).toNat, by omega⟩
                    obtain ⟨⟨a, ha, hin⟩, _⟩ := idx1_spec (inP slot) (allA R w Ch least (i + 1)) j hj
                    have hjm : j ≤ (i + 1) := by
                      have := (List.getElem?_eq_some_iff.1 ha).1
                      rw [allA_len] at this; omega
                    rw [allA_get R w Ch least hjm] at ha
                    cases ha
                    have hH : ifH (allA R w Ch least (i + 1)) slot = hpA R w Ch least j := by
                      unfold H11.ifH; rw [hj, Int.toNat_natCast, allA_get R w Ch least hjm]; rfl
                    rw [hH] at h22
                    obtain ⟨b1, b2, b3, b4, b5, b6⟩ := hpA_ok R w Ch least hd hl1 hl2 j (by omega) (by omega) (Good.le R hg hjm)
                    obtain ⟨⟨v, av, bv, D, ff⟩, hg'⟩ : ∃ g, hpA R w Ch least j = g := ⟨_, rfl⟩
                    have hfi := fst_idx R w Ch least hd hl1 hl2 (m := (i + 1)) (by omega) (by omega) hg hjm
                    have hfew := fun c h h' => row_few R w Ch least hd hl2 (j := j) (c := c) (by omega) h h'
                    rw [hg'] at h22 hfi hin b1 b4 b5 b6 hfew
                    try simp only [] at h22 hfi b4 b5 b6 hfew
                    have h23 := fun X0 X1 X2 X3 X4 es ro => stdIdxF_ok (T := T) (f := 23) (n := 59) (H := ⟨[X0, X1, X2, X3, X4, hpB ⟨v, av, bv, D, false⟩], es, ro⟩) (ag := true) (z := 4) (id := 24) (caps := [.ptr 5 0 0 0]) (v := .lst 4 (hpsS (allA R w Ch least (i + 1))) false) (L := hpsS (allA R w Ch least (i + 1))) (p := fun r => decide ((H11.toHp r).a = av)) H11.x47 (.lst 4 false (.inl rfl)) H11.hps_row (fun h => by cases h) (by rw [H11.hpsS_len, allA_len]; exact Nat.le_trans (show (i + 1) + 1 ≤ 9 by omega) (by decide))
                      (fun r hr bl ro hbl => by
                        simp only [hpsS, List.mem_map] at hr
                        obtain ⟨h, _, rfl⟩ := hr
                        rw [H11.toHp_of]
                        rcases hbl with ⟨_, _, h3⟩ | h3
                        · simp [SV.refs.refsL, SV.refs] at h3
                        · exact s24 58 bl ro h ⟨v, av, bv, D, false⟩ X0 X1 X2 X3 X4 h3) (by simp [SV.refs.refsL, SV.refs])
                    have hip : idx1 (fun r => decide ((H11.toHp r).a = av)) (hpsS (allA R w Ch least (i + 1))) = (j : Int) := (H11.idx_hp (fun h => decide (h.a = av)) (allA R w Ch least (i + 1))).trans hfi
                    rw [hip] at h23
                    have hjn : decide ((j : Int) < 0) = false := decide_eq_false (by omega)
                    simp only [go_sem, Int.cast_ofNat_Int, Int.reduceToNat, Bool.true_xor, Bool.false_xor, Bool.xor_true, Bool.xor_false, Nat.reduceAdd, Nat.reduceBEq, Nat.reduceLeDiff, Nat.reduceLT, Nat.reduceMul, Nat.reduceSub, Int.reduceEq, Int.reduceLT, Int.reduceLE, Int.reduceNeg, r0, r1, hz, h22, h23, f11, f12, g11, g12, gz4, gz1]
                    have hDl : least ≤ D.length := b5
                    have hin2 : av ≤ slot ∧ slot < bv := by
                      unfold H11.inP at hin
                      simpa using hin
                    have hokD : okH v av bv D = true := b1
                    obtain ⟨_, g1, g2, g3, g4⟩ := H11.okH_spec hokD
                    refine loop_rule (fun k => ([(1, .lst 1 (iS Ch) fc), (7, .int .i64 least), (8, .int .i64 slot), (12, .lst 1 (bbS R w (i + 1)) false), (25, .ptr 5 0 0 0), (27, .int .i64 j), (28, .slc 6 k 0 k), (187, .int .i64 least), (188, .int .i64 k)],
                      ⟨[yB least slot w, hpB (hpA R w Ch least (i + 1)), lrB rI C0 (uD R w (i + 1)).1 (uD R w (i + 1)).2, .dead, .dead, hpB ⟨v, av, bv, D, false⟩, .arr k 1 (iS (H11.sn1 D slot k)) false], [], 0⟩)) (fun _ => True) least.toNat ?_ trivial ?_
                    · simp only [go_sem, Int.cast_ofNat_Int, Int.reduceToNat, Bool.true_xor, Bool.false_xor, Bool.xor_true, Bool.xor_false, Nat.reduceAdd, Nat.reduceBEq, Nat.reduceLeDiff, Nat.reduceLT, Nat.reduceMul, Nat.reduceSub, Int.reduceEq, Int.reduceLT, Int.reduceLE, Int.reduceNeg] <;> rfl
                    · intro k hk _
                      rcases Nat.lt_or_ge k least.toNat with hlt | hge
                      · have q1 : decide ((k : Int) < least) = true := decide_eq_true (by omega)
                        have hkD : k < D.length := by omega
                        have q2 : w64 ((k : Int) + 1) = ((k + 1 : Nat) : Int) := by rw [w64_id (by omega) (by omega)]; omega
                        have h25 := fun H => H11.s25 55 H v av bv D false slot k (by omega)
                        have hek : H11.chE v av bv D slot k = 0 := H11.chE_ok.2 ⟨hokD, hin2, by omega, by omega⟩
                        have hvk : H11.chV v av bv D slot k = H11.chnA D slot k := by simp [H11.chV, hek]
                        rw [hek, hvk] at h25
                        have hmem : H11.chnA D slot k ∈ D := List.mem_of_getElem? (H11.chn_get (by omega) (by omega))
                        have hfz := fun H v => (Still.ints (H11.sn1 D slot k)).fz 0 H 6 v k 1 false (by rw [iS_len, H11.sn1_len])
                        have hc1 := fun H => stdCon_ok (n := 58) (H := H) (v := .lst 1 (iS (H11.sn1 D slot k)) false) (M := H11.sn1 D slot k) (x := H11.chnA D slot k) H11.x13 H11.x36 H11.lvI (by rw [H11.sn1_len]; exact Nat.le_trans (show k ≤ 20 by omega) (by decide))
                        have hc2 := fun H => stdCon_ok (n := 58) (H := H) (v := .lst 1 (iS Ch) fc) (M := Ch) (x := H11.chnA D slot k) H11.x13 H11.x36 H11.lvI (Nat.le_trans hC (by decide))
                        have hc3 := fun H => stdCon_ok (n := 58) (H := H) (v := rowV R w j) (M := rowA R w j) (x := H11.chnA D slot k) H11.x13 H11.x36 (rowV_lv R w H.bl j) (Nat.le_trans (rowA_len R w j) (by decide))
                        have hnew : decide (H11.chnA D slot (k : Int) ∈ H11.sn1 D slot k) = false := decide_eq_false (H11.sn1_new g4 (by omega) hkD)
                        have hold : decide (H11.chnA D slot k ∈ Ch) = true := decide_eq_true (b4 _ hmem)
                        have hjl : decide (j < (i + 1) + 1) = true := decide_eq_true (by omega)
                        have hjl2 : decide ((j : Int) < (((i + 1) + 1 : Nat) : Int)) = true := decide_eq_true (by omega)
                        try simp only [Nat.zero_add, Int.cast_ofNat_Int] at hjl hjl2
                        have hj1 : j = 0 → decide (j < 1) = true := fun h => decide_eq_true (by omega)
                        have hj2 : j = 0 → decide ((j : Int) < 1) = true := fun h => decide_eq_true (by omega)
                        cases hbk : decide (H11.chnA D slot k ∈ rowA R w j) with
                        | false =>
                          simp only [go_sem, Int.cast_ofNat_Int, Int.reduceToNat, Bool.true_xor, Bool.false_xor, Bool.xor_true, Bool.xor_false, Nat.reduceAdd, Nat.reduceBEq, Nat.reduceLeDiff, Nat.reduceLT, Nat.reduceMul, Nat.reduceSub, Int.reduceEq, Int.reduceLT, Int.reduceLE, Int.reduceNeg, q1, h25, hfz, hc1, hc2, hc3, hnew, hold, hjn, hjl, bbS_get hjm, hbk, apB_grow _ _ _ _ _ _ _ (show (iS (H11.sn1 D slot k)).length = k by rw [iS_len, H11.sn1_len]), H11.room8 (show k ≤ 1000 by omega), iS_snoc, ← H11.sn1_succ, q2]
                          refine ⟨by first | trivial | omega, by first | trivial | rfl, ?_⟩
                          trivial
                        | true =>
                          have hfw : decide (least < (D.length : Int)) = false := by
                            have := hfew _ hmem (of_decide_eq_true hbk)
                            exact decide_eq_false (by omega)
                          simp only [go_sem, Int.cast_ofNat_Int, Int.reduceToNat, Bool.true_xor, Bool.false_xor, Bool.xor_true, Bool.xor_false, Nat.reduceAdd, Nat.reduceBEq, Nat.reduceLeDiff, Nat.reduceLT, Nat.reduceMul, Nat.reduceSub, Int.reduceEq, Int.reduceLT, Int.reduceLE, Int.reduceNeg, q1, h25, hfz, hc1, hc2, hc3, hnew, hold, hjn, hjl, bbS_get hjm, hbk, hfw, apB_grow _ _ _ _ _ _ _ (show (iS (H11.sn1 D slot k)).length = k by rw [iS_len, H11.sn1_len]), H11.room8 (show k ≤ 1000 by omega), iS_snoc, ← H11.sn1_succ, q2]
                          refine ⟨by first | trivial | omega, by first | trivial | rfl, ?_⟩
                          trivial
                      · obtain rfl : k = least.toNat := by omega
                        have q1 : decide ((least.toNat : Int) < least) = false := decide_eq_false (by omega)
                        simp only [go_sem, Int.cast_ofNat_Int, Int.reduceToNat, Bool.true_xor, Bool.false_xor, Bool.xor_true, Bool.xor_false, Nat.reduceAdd, Nat.reduceBEq, Nat.reduceLeDiff, Nat.reduceLT, Nat.reduceMul, Nat.reduceSub, Int.reduceEq, Int.reduceLT, Int.reduceLE, Int.reduceNeg, q1]

end TO
end Go.Sh
namespace Go.Sh
set_option linter.unusedSectionVars false
set_option linter.unnecessarySimpa false
set_option linter.unusedVariables false
set_option linter.unusedSimpArgs false
set_option maxRecDepth 100000
set_option maxHeartbeats 4000000
namespace TO
abbrev rdD : Bool × List DT := (false, [.lst [.lst [.int .u8], .int .i64]])
theorem fits_u8 : ∀ {L : List (List SV)}, (∀ q ∈ L, FitsL [.int .u8] q) → ∃ N, L = u8S N ∧ ∀ k ∈ N, (0 : Int) ≤ k ∧ k ≤ 255
  | [], _ => ⟨[], rfl, by simp⟩
  | r :: L, h => by
    obtain ⟨N, rfl, hN⟩ := fits_u8 (L := L) (fun q hq => h q (by simp [hq]))
    obtain ⟨k, _, rfl, hk, hr⟩ := fitsL_i (h r (by simp))
    have hr := fitsL_nil' hr; subst hr
    refine ⟨k :: N, rfl, fun x hx => ?_⟩
    rcases List.mem_cons.1 hx with rfl | hx
    · have hk' : (0 : Int) ≤ x ∧ x ≤ 255 := by
        have h1 : IntKind.u8.min = 0 := rfl
        have h2 : IntKind.u8.max = 255 := rfl
        simp [Lit.wf, h1, h2] at hk
        omega
      exact hk'
    · exact hN x hx
theorem fits_rds : ∀ {L : List (List SV)}, (∀ q ∈ L, FitsL [.lst [.int .u8], .int .i64] q) → ∃ R, L = rdS R ∧ ∀ ρ ∈ R, ∀ k ∈ ρ.1, (0 : Int) ≤ k ∧ k ≤ 255
  | [], _ => ⟨[], rfl, by simp⟩
  | r :: L, h => by
    obtain ⟨R, rfl, hR⟩ := fits_rds (L := L) (fun q hq => h q (by simp [hq]))
    obtain ⟨L2, f2, r2, rfl, _, h2, hr⟩ := fitsL_l (h r (by simp))
    obtain ⟨N, rfl, hN⟩ := fits_u8 h2
    obtain ⟨sl, _, rfl, _, hr⟩ := fitsL_i hr
    have hr := fitsL_nil' hr; subst hr
    refine ⟨(N, f2, sl) :: R, rfl, fun x hx => ?_⟩
    rcases List.mem_cons.1 hx with rfl | hx
    · exact hN
    · exact hR x hx
theorem law4 (xs : List SV) (h : FitsAll [rdD, (false, [.lst [.int .i64]]), (true, [.int .i64, .int .i64, .int .i64])] xs) : ∃ m, call1 T m (.fn 4) xs heap0 = some (.bool true, heap0) := by
  obtain ⟨x1, r1, rfl, h1, h⟩ := fitsAll_cons h
  obtain ⟨x2, r2, rfl, h2, h⟩ := fitsAll_cons h
  obtain ⟨x3, r3, rfl, h3, h⟩ := fitsAll_cons h
  cases fitsAll_nil h
  obtain ⟨L, fr, rfl, _, hL⟩ := fits_lst (fitsA_one h1)
  obtain ⟨R, rfl, hR⟩ := fits_rds hL
  obtain ⟨L2, fc, rfl, _, hL2⟩ := fits_lst (fitsA_one h2)
  obtain ⟨Ch, rfl⟩ := H11.ints_of hL2
  obtain ⟨cs, rfl, h4⟩ := fitsA_agg h3
  obtain ⟨a, _, rfl, _, h4⟩ := fitsL_i h4
  obtain ⟨b, _, rfl, _, h4⟩ := fitsL_i h4
  obtain ⟨c, _, rfl, _, h4⟩ := fitsL_i h4
  cases fitsL_nil' h4
  exact ⟨61, s4 R fr Ch fc a b c hR⟩
end TO
end Go.Sh
