

import Derived.Test.YtmiblddggdeklaaC2
namespace Go.Sh
set_option linter.unusedSectionVars false
set_option linter.unnecessarySimpa false
set_option linter.unusedVariables false
set_option linter.unusedSimpArgs false
set_option maxRecDepth 100000
set_option maxHeartbeats 4000000
section
variable (k s d q o c m e t u v : Int) (x : ByteArray)
theorem s12 (n : Nat) (H : Heap) : call1 T (n + 5) (.fn 12) [.agg (fr k s d q o c m e t u v x)] H = some (enV k s d q o c m e t u v x, H) := by
  cases hch : chB k s d q o c m e t u v x with
  | false =>
    refine call_pure e12 (by rfl) ?_
    have h18 := fun H => s18 (n + 2) H k s d q o c m e t u v x
    unfold enV
    rw [hch] at h18
    rw [hch]
    simp only [c12, heap0, go_sem, Int.cast_ofNat_Int, Int.reduceToNat, Bool.true_xor, Bool.false_xor, Bool.xor_true, Bool.xor_false, Nat.reduceAdd, Nat.reduceBEq, Nat.reduceLeDiff, Nat.reduceLT, Nat.reduceMul, Nat.reduceSub, Int.reduceEq, Int.reduceLT, Int.reduceLE, Int.reduceNeg, h18]
  | true =>
    rcases Nat.lt_or_ge 127 x.size with hx | hx
    · refine call_pure e12 (by rfl) ?_
      have h18 := fun H => s18 (n + 2) H k s d q o c m e t u v x
      unfold enV
      rw [hch] at h18
      rw [hch, decide_eq_true hx]
      have hd : decide ((127 : Int) < (x.size : Int)) = true := decide_eq_true (by omega)
      simp only [c12, heap0, go_sem, Int.cast_ofNat_Int, Int.reduceToNat, Bool.true_xor, Bool.false_xor, Bool.xor_true, Bool.xor_false, Nat.reduceAdd, Nat.reduceBEq, Nat.reduceLeDiff, Nat.reduceLT, Nat.reduceMul, Nat.reduceSub, Int.reduceEq, Int.reduceLT, Int.reduceLE, Int.reduceNeg, h18, hd]
    · obtain ⟨hs, hd1, hd0, hq, ho, hk⟩ := chB_k hch
      rcases hk with ⟨rfl, _, _⟩ | ⟨rfl, _, _⟩ | ⟨rfl, _, _⟩ | rfl
      · have hdd : 0 ≤ d := by rw [chB_1, decide_eq_true_eq] at hch; omega
        exact s12_1a n H s d q o c m e t u v x hch hx hdd
      · have hdd : 0 ≤ d := by rw [chB_2, Bool.and_eq_true, decide_eq_true_eq, decide_eq_true_eq] at hch; have := hch.2; omega
        exact s12_2a n H s d q o c m e t u v x hch hx hdd
      · have hdd : d = -1 := by rw [chB_3, decide_eq_true_eq] at hch; omega
        exact s12_3b n H s d q o c m e t u v x hch hx hdd
      · by_cases hdd : 0 ≤ d
        · exact s12_4a n H s d q o c m e t u v x hch hx hdd
        · exact s12_4b n H s d q o c m e t u v x hch hx (by omega)
theorem s14 (n : Nat) (H : Heap) : call1 T (n + 6) (.fn 14) [.agg (fr k s d q o c m e t u v x)] H = some (tiV k s d q o c m e t u v x, H) := by
  refine call_pure e14 (by rfl) ?_
  have h11 := fun H => s12 k s d q o c m e t u v x n H
  unfold tiV
  cases hk : okV k s d q o c m e t u v x with
  | false =>
    rw [enV_no _ _ _ _ _ _ _ _ _ _ _ _ hk] at h11
    have hn := erV_ne k s d q o c m e t u v x
    simp only [c14, heap0, go_sem, Int.cast_ofNat_Int, Int.reduceToNat, Bool.true_xor, Bool.false_xor, Bool.xor_true, Bool.xor_false, Nat.reduceAdd, Nat.reduceBEq, Nat.reduceLeDiff, Nat.reduceLT, Nat.reduceMul, Nat.reduceSub, Int.reduceEq, Int.reduceLT, Int.reduceLE, Int.reduceNeg, h11, hn]
  | true =>
    have hz := szV_ok _ _ _ _ _ _ _ _ _ _ _ _ hk
    rw [enV_ok _ _ _ _ _ _ _ _ _ _ _ _ hk] at h11
    have hp : (prot (pkB (enBits k s d q o c m e t u v x))).size = szV k s d q o c m e t u v x := prot_size _
    obtain ⟨z, hzd⟩ : ∃ z, szV k s d q o c m e t u v x = z := ⟨_, rfl⟩
    rw [hzd] at hz hp ⊢
    have w1 : w64 ((z : Int) + 6) = (z : Int) + 6 := w64_id (by omega) (by omega)
    have w2 : w64 (32 * ((z : Int) + 6)) = 32 * ((z : Int) + 6) := w64_id (by omega) (by omega)
    have w3 : w64 (20 + 6) = 26 := by decide
    have w4 : w64 (32 * 26) = 832 := by decide
    cases h2 : decide (k = 2) <;> simp only [c14, heap0, go_sem, Int.cast_ofNat_Int, Int.reduceToNat, Bool.true_xor, Bool.false_xor, Bool.xor_true, Bool.xor_false, Nat.reduceAdd, Nat.reduceBEq, Nat.reduceLeDiff, Nat.reduceLT, Nat.reduceMul, Nat.reduceSub, Int.reduceEq, Int.reduceLT, Int.reduceLE, Int.reduceNeg, h11, hp, h2, w1, w2, w3, w4]
    rfl
theorem s16 (n : Nat) (H : Heap) : call1 T (n + 6) (.fn 16) [.agg (fr k s d q o c m e t u v x)] H = some (roV k s d q o c m e t u v x, H) := by
  refine call_pure e16 (by rfl) ?_
  have h11 := fun H => s12 k s d q o c m e t u v x n H
  have h18 := fun H => s18 (n + 3) H k s d q o c m e t u v x
  unfold roV
  cases hch : chB k s d q o c m e t u v x with
  | false =>
    rw [hch] at h18
    have hk : okV k s d q o c m e t u v x = false := by unfold okV; rw [hch]; rfl
    have he : erV k s d q o c m e t u v x = 1 := by unfold erV; rw [hch]; rfl
    rw [hk, he]
    cases h2 : decide (k = 2) <;> simp only [c16, heap0, go_sem, Int.cast_ofNat_Int, Int.reduceToNat, Bool.true_xor, Bool.false_xor, Bool.xor_true, Bool.xor_false, Nat.reduceAdd, Nat.reduceBEq, Nat.reduceLeDiff, Nat.reduceLT, Nat.reduceMul, Nat.reduceSub, Int.reduceEq, Int.reduceLT, Int.reduceLE, Int.reduceNeg, h18, h2]
  | true =>
    rw [hch] at h18
    cases h2 : decide (k = 2) with
    | true => simp only [c16, heap0, go_sem, Int.cast_ofNat_Int, Int.reduceToNat, Bool.true_xor, Bool.false_xor, Bool.xor_true, Bool.xor_false, Nat.reduceAdd, Nat.reduceBEq, Nat.reduceLeDiff, Nat.reduceLT, Nat.reduceMul, Nat.reduceSub, Int.reduceEq, Int.reduceLT, Int.reduceLE, Int.reduceNeg, h18, h2]
    | false =>
      cases hk : okV k s d q o c m e t u v x with
      | false =>
        rw [enV_no _ _ _ _ _ _ _ _ _ _ _ _ hk] at h11
        have hn := erV_ne k s d q o c m e t u v x
        simp only [c16, heap0, go_sem, Int.cast_ofNat_Int, Int.reduceToNat, Bool.true_xor, Bool.false_xor, Bool.xor_true, Bool.xor_false, Nat.reduceAdd, Nat.reduceBEq, Nat.reduceLeDiff, Nat.reduceLT, Nat.reduceMul, Nat.reduceSub, Int.reduceEq, Int.reduceLT, Int.reduceLE, Int.reduceNeg, h11, hn, h2, h18]
      | true =>
        have hz := szV_ok _ _ _ _ _ _ _ _ _ _ _ _ hk
        rw [enV_ok _ _ _ _ _ _ _ _ _ _ _ _ hk] at h11
        have hp : (prot (pkB (enBits k s d q o c m e t u v x))).size = szV k s d q o c m e t u v x := prot_size _
        obtain ⟨z, hzd⟩ : ∃ z, szV k s d q o c m e t u v x = z := ⟨_, rfl⟩
        rw [hzd] at hz hp ⊢
        have w1 : w64 (127 - (z : Int)) = 127 - (z : Int) := w64_id (by omega) (by omega)
        simp only [c16, heap0, go_sem, Int.cast_ofNat_Int, Int.reduceToNat, Bool.true_xor, Bool.false_xor, Bool.xor_true, Bool.xor_false, Nat.reduceAdd, Nat.reduceBEq, Nat.reduceLeDiff, Nat.reduceLT, Nat.reduceMul, Nat.reduceSub, Int.reduceEq, Int.reduceLT, Int.reduceLE, Int.reduceNeg, h11, hp, h2, w1, h18]
theorem s3 : call1 T 41 (.fn 3) [.agg (fr k s d q o c m e t u v x)] heap0 = some (.bool true, heap0) := by
  refine call_pure e3 (by rfl) ?_
  cases hx : decide (300 < (x.size : Int)) with
  | true => simp only [c3, heap0, go_sem, Int.cast_ofNat_Int, Int.reduceToNat, Bool.true_xor, Bool.false_xor, Bool.xor_true, Bool.xor_false, Nat.reduceAdd, Nat.reduceBEq, Nat.reduceLeDiff, Nat.reduceLT, Nat.reduceMul, Nat.reduceSub, Int.reduceEq, Int.reduceLT, Int.reduceLE, Int.reduceNeg, s10, hx]
  | false =>
    have hX : x.size ≤ 10000 := by simp only [decide_eq_false_iff_not] at hx; omega
    have h11 := fun H => s11 32 H k s d q o c m e t u v x hX
    have h12 := fun H => s12 k s d q o c m e t u v x 35 H
    have h13 := fun H => s13 k s d q o c m e t u v x 31 H hX
    have h14 := fun H => s14 k s d q o c m e t u v x 34 H
    have h15 := fun H => s15 k s d q o c m e t u v x 31 H hX
    have h16 := fun H => s16 k s d q o c m e t u v x 34 H
    have h17 := fun H => s17 36 H k s d q o c m e t u v x
    have h18 := fun H => s18 38 H k s d q o c m e t u v x
    obtain ⟨C, hC⟩ : ∃ C, chB k s d q o c m e t u v x = C := ⟨_, rfl⟩
    rw [hC] at h17 h18
    obtain ⟨a, b, hE⟩ : ∃ a b, enV k s d q o c m e t u v x = .tup [.str a, .int .i64 b] := by
      cases hk : okV k s d q o c m e t u v x with
      | false => exact ⟨_, _, enV_no _ _ _ _ _ _ _ _ _ _ _ _ hk⟩
      | true => exact ⟨_, _, enV_ok _ _ _ _ _ _ _ _ _ _ _ _ hk⟩
    obtain ⟨a1, b1, hT⟩ : ∃ a b, tiV k s d q o c m e t u v x = .tup [.int .i64 a, .int .i64 b] := by
      unfold tiV
      cases hk : okV k s d q o c m e t u v x with
      | false => exact ⟨_, _, rfl⟩
      | true => exact ⟨_, _, rfl⟩
    obtain ⟨a2, b2, hR⟩ : ∃ a b, roV k s d q o c m e t u v x = .tup [.int .i64 a, .int .i64 b] := by
      unfold roV
      cases hk : okV k s d q o c m e t u v x <;> cases decide (k = 2) <;> exact ⟨_, _, rfl⟩
    rw [hE] at h11 h12
    rw [hT] at h13 h14
    rw [hR] at h15 h16
    cases C <;> simp only [c3, heap0, go_sem, Int.cast_ofNat_Int, Int.reduceToNat, Bool.true_xor, Bool.false_xor, Bool.xor_true, Bool.xor_false, Nat.reduceAdd, Nat.reduceBEq, Nat.reduceLeDiff, Nat.reduceLT, Nat.reduceMul, Nat.reduceSub, Int.reduceEq, Int.reduceLT, Int.reduceLE, Int.reduceNeg, s10, hx, h11, h12, h13, h14, h15, h16, h17, h18, dself]
end
theorem law3 (ys : List SV) (h : FitsAll [frD] ys) : ∃ m, call1 T m (.fn 3) ys heap0 = some (.bool true, heap0) := by
  obtain ⟨x1, r1, rfl, h1, h⟩ := fitsAll_cons h
  cases fitsAll_nil h
  obtain ⟨k, s, d, q, o, c, m, e, t, u, v, x, rfl⟩ := fr_of h1
  exact ⟨41, s3 k s d q o c m e t u v x⟩
end Go.Sh
