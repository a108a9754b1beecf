

import Derived.Test.YtmiblddggdeklaaC2
namespace Go.Sh
set_option linter.unusedSectionVars false
set_option linter.unnecessarySimpa false
set_option linter.unusedVariables false
set_option linter.unusedSimpArgs false
set_option maxRecDepth 100000
set_option maxHeartbeats 4000000
section
variable (k s d q o c m e t u v : Int) (x : ByteArray)
theorem s12 (n : Nat) (H : Heap) : call1 T (n + 5) (.fn 12) [.agg (fr k s d q o c m e t u v x)] H = some (enV k s d q o c m e t u v x, H) := by
  cases hch : chB k s d q o c m e t u v x with
  | false =>
    refine call_pure e12 (by rfl) ?_
    have h18 := fun H => s18 (n + 2) H k s d q o c m e t u v x
    unfold enV
    rw [hch] at h18
    rw [hch]
    simp only [c12, heap0, go_sem, Int.cast_ofNat_Int, Int.reduceToNat, Bool.true_xor, Bool.false_xor, Bool.xor_true, Bool.xor_false, Nat.reduceAdd, Nat.reduceBEq, Nat.reduceLeDiff, Nat.reduceLT, Nat.reduceMul, Nat.reduceSub, Int.reduceEq, Int.reduceLT, Int.reduceLE, Int.reduceNeg, h18]
  | true =>
    rcases Nat.lt_or_ge 127 x.size with hx | hx
    · refine call_pure e12 (by rfl) ?_
      have h18 := fun H => s18 (n + 2) H k s d q o c m e t u v x
      unfold enV
      rw [hch] at h18
      rw [hch, decide_eq_true hx]
      have hd : decide ((127 : Int) < (x.size : Int)) = true := decide_eq_true (by omega)
      simp only [c12, heap0, go_sem, Int.cast_ofNat_Int, Int.reduceToNat, Bool.true_xor, Bool.false_xor, Bool.xor_true, Bool.xor_false, Nat.reduceAdd, Nat.reduceBEq, Nat.reduceLeDiff, Nat.reduceLT, Nat.reduceMul, Nat.reduceSub, Int.reduceEq, Int.reduceLT, Int.reduceLE, Int.reduceNeg, h18, hd]
    · obtain ⟨hs, hd1, hd0, hq, ho, hk⟩ := chB_k hch
      rcases hk with ⟨rfl, _, _⟩ | ⟨rfl, _, _⟩ | ⟨rfl, _, _⟩ | rfl
      · have hdd : 0 ≤ d := by rw [chB_1, decide_eq_true_eq] at hch; omega
        exact s12_1a n H s d q o c m e t u v x hch hx hdd
      · have hdd : 0 ≤ d := by rw [chB_2, Bool.and_eq_true, decide_eq_true_eq, decide_eq_true_eq] at hch; have := hch.2; omega
        exact s12_2a n H s d q o c m e t u v x hch hx hdd
      · have hdd : d = -1 := by rw [chB_3, decide_eq_true_eq] at hch; omega
        exact s12_3b n H s d q o c m e t u v x hch hx hdd
      · by_cases hdd : 0 ≤ d
        · exact s12_4a n H s d q o c m e t u v x hch hx hdd
        · exact s12_4b n H s d q o c m e t u v x hch hx (by omega)
theorem s14 (n : Nat) (H : Heap) : call1 T (n + 6) (.fn 14) [.agg (fr k s d q o c m e t u v x)] H = some (tiV k s d q o c m e t u v x, H) := by
  refine call_pure e14 (by rfl) ?_
  have h11 := fun H => s12 k s d q o c m e t u v x n H
  unfold tiV
  cases hk : okV k s d q o c m e t u v x with
  | false =>
    rw [enV_no _ _ _ _ _ _ _ _ _ _ _ _ hk] at h11
    have hn := erV_ne k s d q o c m e t u v x
    simp only [c14, heap0, go_sem, Int.cast_ofNat_Int, Int.reduceToNat, Bool.true_xor, Bool.false_xor, Bool.xor_true, Bool.xor_false, Nat.reduceAdd, Nat.reduceBEq, Nat.reduceLeDiff, Nat.reduceLT, Nat.reduceMul, Nat.reduceSub, Int.reduceEq, Int.reduceLT, Int.reduceLE, Int.reduceNeg, h11, hn]
  | true =>
    have hz := szV_ok _ _ _ _ _ _ _ _ _ _ _ _ hk
    rw [enV_ok _ _ _ _ _ _ _ _ _ _ _ _ hk] at h11
    have hp : (prot (pkB (enBits k s d q o c m e t u v x))).size = szV k s d q o c m e t u v x := prot_size _
    obtain ⟨z, hzd⟩ : ∃ z, szV k s d q o c m e t u v x = z := ⟨_, rfl⟩
    rw [hzd] at hz hp ⊢
    have w1 : w64 ((z : Int) + 6) = (z : Int) + 6 := w64_id (by omega) (by omega)
    have w2 : w64 (32 * ((z : Int) + 6)) = 32 * ((z : Int) + 6) := w64_id (by omega) (by omega)
    have w3 : w64 (20 + 6) = 26 := by decide
    have w4 : w64 (32 * 26) = 832 := by decide
    cases h2 : decide (k = 2) <;> simp only [c14, heap0, go_sem, Int.cast_ofNat_Int, Int.reduceToNat, Bool.true_xor, Bool.false_xor, Bool.xor_true, Bool.xor_false, Nat.reduceAdd, Nat.reduceBEq, Nat.reduceLeDiff, Nat.reduceLT, Nat.reduceMul, Nat.reduceSub, Int.reduceEq, Int.reduceLT, Int.reduceLE, Int.reduceNeg, h11, hp, h2, w1, w2, w3, w4]
    rfl
theorem s16 (n : Nat) (H : Heap) : call1 T (n + 6) (.fn 16) [.agg (fr k s d q o c m e t u v x)] H = some (roV k s d q o c m e t u v x, H) := by
  refine call_pure e16 (by rfl) ?_
  have h11 := fun H => s12 k s d q o c m e t u v x n H
  have h18 := fun H => s18 (n + 3) H k s d q o c m e t u v x
  unfold roV
  cases hch : chB k s d q o c m e t u v x with
  | false =>
    rw [hch] at h18
    have hk : okV k s d q o c m e t u v x = false := by unfold okV; rw [hch]; rfl
    have he : erV k s d q o c m e t u v x = 1 := by unfold erV; rw [hch]; rfl
    rw [hk, he]
    cases h2 : decide (k = 2) <;> simp only [c16, heap0, go_sem, Int.cast_ofNat_Int, Int.reduceToNat, Bool.true_xor, Bool.false_xor, Bool.xor_true, Bool.xor_false, Nat.reduceAdd, Nat.reduceBEq, Nat.reduceLeDiff, Nat.reduceLT, Nat.reduceMul, Nat.reduceSub, Int.reduceEq, Int.reduceLT, Int.reduceLE, Int.reduceNeg, h18, h2]
  | true =>
    rw [hch] at h18
    cases h2 : decide (k = 2) with
    | true => simp only [c16, heap0, go_sem, Int.cast_ofNat_Int, Int.reduceToNat, Bool.true_xor, Bool.false_xor, Bool.xor_true, Bool.xor_false, Nat.reduceAdd, Nat.reduceBEq, Nat.reduceLeDiff, Nat.reduceLT, Nat.reduceMul, Nat.reduceSub, Int.reduceEq, Int.reduceLT, Int.reduceLE, Int.reduceNeg, h18, h2]
    | false =>
      cases hk : okV k s d q o c m e t u v x with
      | false =>
        rw [enV_no _ _ _ _ _ _ _ _ _ _ _ _ hk] at h11
        have hn := erV_ne k s d q o c m e t u v x
        simp only [c16, heap0, go_sem, Int.cast_ofNat_Int, Int.reduceToNat, Bool.true_xor, Bool.false_xor, Bool.xor_true, Bool.xor_false, Nat.reduceAdd, Nat.reduceBEq, Nat.reduceLeDiff, Nat.reduceLT, Nat.reduceMul, Nat.reduceSub, Int.reduceEq, Int.reduceLT, Int.reduceLE, Int.reduceNeg, h11, hn, h2, h18]
      | true =>
        have hz := szV_ok _ _ _ _ _ _ _ _ _ _ _ _ hk
        rw [enV_ok _ _ _ _ _ _ _ _ _ _ _ _ hk] at h11
        have hp : (prot (pkB (enBits k s d q o c m e t u v x))).size = szV k s d q o c m e t u v x := prot_size _
        obtain ⟨z, hzd⟩ : ∃ z, szV k s d q o c m e t u v x = z := ⟨_, rfl⟩
        rw [hzd] at hz hp ⊢
        have w1 : w64 (127 - (z : Int)) = 127 - (z : Int) := w64_id (by omega) (by omega)
        simp only [c16, heap0, go_sem, Int.cast_ofNat_Int, Int.reduceToNat, Bool.true_xor, Bool.false_xor, Bool.xor_true, Bool.xor_false, Nat.reduceAdd, Nat.reduceBEq, Nat.reduceLeDiff, Nat.reduceLT, Nat.reduceMul, Nat.reduceSub, Int.reduceEq, Int.reduceLT, Int.reduceLE, Int.reduceNeg, h11, hp, h2, w1, h18]
theorem s3 : call1 T 41 (.fn 3) [.agg (fr k s d q o c m e t u v x)] heap0 = some (.bool true, heap0) := by
  refine call_pure e3 (by rfl) ?_
  cases hx : decide (300 < (x.size : Int)) with
  | true => simp only [c3, heap0, go_sem, Int.cast_ofNat_Int, Int.reduceToNat, Bool.true_xor, Bool.false_xor, Bool.xor_true, Bool.xor_false, Nat.reduceAdd, Nat.reduceBEq, Nat.reduceLeDiff, Nat.reduceLT, Nat.reduceMul, Nat.reduceSub, Int.reduceEq, Int.reduceLT, Int.reduceLE, Int.reduceNeg, s10, hx]
  | false =>
    have hX : x.size ≤ 10000 := by simp only [decide_eq_false_iff_not] at hx; omega
    have h11 := fun H => s11 32 H k s d q o c m e t u v x hX
    have h12 := fun H => s12 k s d q o c m e t u v x 35 H
    have h13 := fun H => s13 k s d q o c m e t u v x 31 H hX
    have h14 := fun H => s14 k s d q o c m e t u v x 34 H
    have h15 := fun H => s15 k s d q o c m e t u v x 31 H hX
    have h16 := fun H => s16 k s d q o c m e t u v x 34 H
    have h17 := fun H => s17 36 H k s d q o c m e t u v x
    have h18 := fun H => s18 38 H k s d q o c m e t u v x
    obtain ⟨C, hC⟩ : ∃ C, chB k s d q o c m e t u v x = C := ⟨_, rfl⟩
    rw [hC] at h17 h18
    obtain ⟨a, b, hE⟩ : ∃ a b, enV k s d q o c m e t u v x = .tup [.str a, .int .i64 b] := by
      cases hk : okV k s d q o c m e t u v x with
      | false => exact ⟨_, _, enV_no _ _ _ _ _ _ _ _ _ _ _ _ hk⟩
      | true => exact ⟨_, _, enV_ok _ _ _ _ _ _ _ _ _ _ _ _ hk⟩
    obtain ⟨a1, b1, hT⟩ : ∃ a b, tiV k s d q o c m e t u v x = .tup [.int .i64 a, .int .i64 b] := by
      unfold tiV
      cases hk : okV k s d q o c m e t u v x with
      | false => exact ⟨_, _, rfl⟩
      | true => exact ⟨_, _, rfl⟩
    obtain ⟨a2, b2, hR⟩ : ∃ a b, roV k s d q o c m e t u v x = .tup [.int .i64 a, .int .i64 b] := by
      unfold roV
      cases hk : okV k s d q o c m e t u v x <;> cases decide (k = 2) <;> exact ⟨_, _, rfl⟩
    rw [hE] at h11 h12
    rw [hT] at h13 h14
    rw [hR] at h15 h16
    cases C <;> simp only [c3, heap0, go_sem, Int.cast_ofNat_Int, Int.reduceToNat, Bool.true_xor, Bool.false_xor, Bool.xor_true, Bool.xor_false, Nat.reduceAdd, Nat.reduceBEq, Nat.reduceLeDiff, Nat.reduceLT, Nat.reduceMul, Nat.reduceSub, Int.reduceEq, Int.reduceLT, Int.reduceLE, Int.reduceNeg, s10, hx, h11, h12, h13, h14, h15, h16, h17, h18, dself]
end
theorem law3 (ys : List SV) (h : FitsAll [frD] ys) : ∃ m, call1 T m (.fn 3) ys heap0 = some (.bool true, heap0) := by
  obtain ⟨x1, r1, rfl, h1, h⟩ := fitsAll_cons h
  cases fitsAll_nil h
  obtain ⟨k, s, d, q, o, c, m, e, t, u, v, x, rfl⟩ := fr_of h1
  exact ⟨41, s3 k s d q o c m e t u v x⟩
end Go.Sh
namespace Go.Sh
set_option linter.unusedSectionVars false
set_option linter.unnecessarySimpa false
set_option linter.unusedVariables false
set_option linter.unusedSimpArgs false
set_option maxRecDepth 100000
set_option maxHeartbeats 4000000
/-! The reader: its bits, and the code that gets them. -/
/-- A text's bit. -/
def bA (s : ByteArray) (i : Nat) : Nat := ((s.data[i / 8]?).getD 0).toNat / 2 ^ (7 - i % 8) % 2
theorem bA_le (s : ByteArray) (i : Nat) : bA s i ≤ 1 := by unfold bA; omega
/-- The number of a row of bits. -/
def rdN (s : ByteArray) (p : Nat) : Nat → Nat
  | 0 => 0
  | w + 1 => 2 * rdN s p w + bA s (p + w)
theorem rdN_lt (s : ByteArray) (p w : Nat) : rdN s p w < 2 ^ w := by
  induction w with
  | zero => show 0 < 1; omega
  | succ w ih =>
    have := bA_le s (p + w)
    rw [rdN, Nat.pow_succ]; omega
def orU (a b : Int) : Int := IntKind.u64.wrap ((BitVec.ofInt 64 a ||| BitVec.ofInt 64 b).toNat)
@[go_sem high] theorem sb_orU (a b : Int) : sbin .or (.int .u64 a) (.int .u64 b) = some (.int .u64 (orU a b)) := by
  simp only [sbin, beq_self_eq_true, cond_true]; rfl
theorem or2 (N B : Nat) (hN : N < 2 ^ 63) (hB : B ≤ 1) : ((2 * N) ||| B) = 2 * N + B := (Nat.two_pow_add_eq_or_of_lt (i := 1) (b := B) (by omega) N).symm
theorem orU_2 {N B : Nat} (hN : N < 2 ^ 63) (hB : B ≤ 1) : orU (IntKind.u64.wrap ((N : Int) * 2 ^ min 1 64)) (B : Int) = ((2 * N + B : Nat) : Int) := by
  have h1 : ((N : Int) * 2 ^ min 1 64) = ((2 * N : Nat) : Int) := by rw [show min 1 64 = 1 from rfl]; omega
  unfold orU
  rw [h1, wrapU64 (n := ((2 * N : Nat) : Int)) (by omega) (by omega), BitVec.toNat_or, ofInt_nat _ (by omega), ofInt_nat _ (by omega), or2 N B hN hB]
  exact wrapU64 (by omega) (by omega)
theorem and1 {v : Nat} (hv : v < 256) : andI8 (v : Int) 1 = ((v % 2 : Nat) : Int) := by
  unfold andI8
  have h3 : (BitVec.ofInt 8 1).toNat = 1 := by decide
  rw [BitVec.toNat_and, ofInt_nat8 _ hv, h3, Nat.and_one_is_mod]
  exact wrap8 (by omega) (by omega)
theorem get_bit {v k : Nat} (hv : v < 256) (hk : k ≤ 7) : IntKind.u64.wrap (andI8 ((v : Int).fdiv (2 ^ min k 8)) 1) = ((v / 2 ^ k % 2 : Nat) : Int) := by
  have := Nat.div_le_self v (2 ^ k)
  rw [Nat.min_eq_left (by omega), fdiv_nat, and1 (by omega)]
  exact wrapU64 (by omega) (by omega)
abbrev rX (s : ByteArray) (p : Nat) (er : Int) : SBlk := .box [.str s, .int .i64 p, .int .i64 er]
theorem set_self {A : Type} {l : List A} {b : Nat} {x : A} (h : l[b]? = some x) : l.set b x = l := by
  apply List.ext_getElem?
  intro j
  rw [List.getElem?_set]
  by_cases hj : b = j
  · subst hj
    have hl : b < l.length := (List.getElem?_eq_some_iff.1 h).1
    rw [if_pos rfl, if_pos hl, h]
  · rw [if_neg hj]
theorem s70 (n : Nat) (bl : List SBlk) (es : List (Nat × Nat)) (b w p : Nat) (er : Int) (s : ByteArray) (hb : bl[b]? = some (rX s p er)) (hw : w ≤ 63) (hp : p + w ≤ 8 * s.size) (hs : s.size ≤ 1000) :
    call1 T (n + 1) (.fn 70) [.ptr b 0 0 0, .int .i64 w] ⟨bl, es, 0⟩ = some (.int .u64 (rdN s p w), ⟨bl.set b (rX s (p + w) er), es, 0⟩) := by
  refine call_in e70 (by rfl) ?_
  have hbl : b < bl.length := (List.getElem?_eq_some_iff.1 hb).1
  have h0 := set_self hb
  have hg : ∀ x, (bl.set b x)[b]? = some x := fun x => by rw [List.getElem?_set_self hbl]
  have d0 : decide (0 ≤ b) = true := decide_eq_true (by omega)
  have d1 : decide (b < bl.length) = true := decide_eq_true hbl
  have d2 : decide (bl.length ≤ bl.length) = true := decide_eq_true (Nat.le_refl _)
  have d3 : decide (max (b + 1) 0 ≤ bl.length) = true := decide_eq_true (by omega)
  have ht : ∀ x, List.take bl.length (bl.set b x) = bl.set b x := fun x => List.take_of_length_le (by rw [List.length_set]; exact Nat.le_refl _)
  simp only [c70, go_sem, Int.cast_ofNat_Int, Int.reduceToNat, Bool.true_xor, Bool.false_xor, Bool.xor_true, Bool.xor_false, Nat.reduceAdd, Nat.reduceBEq, Nat.reduceLeDiff, Nat.reduceLT, Nat.reduceMul, Nat.reduceSub, Int.reduceEq, Int.reduceLT, Int.reduceLE, Int.reduceNeg]
  refine loop_rule (fun j => ([(0, .ptr b 0 0 0), (5, .int .u64 (rdN s p j)), (6, .int .i64 w), (7, .int .i64 j)], ⟨bl.set b (rX s (p + j) er), [], 0⟩)) (fun _ => True) w ?_ trivial ?_
  · simp only [go_sem, Int.cast_ofNat_Int, Int.reduceToNat, Bool.true_xor, Bool.false_xor, Bool.xor_true, Bool.xor_false, Nat.reduceAdd, Nat.reduceBEq, Nat.reduceLeDiff, Nat.reduceLT, Nat.reduceMul, Nat.reduceSub, Int.reduceEq, Int.reduceLT, Int.reduceLE, Int.reduceNeg, h0, d3, Nat.add_zero]
    try rfl
  · intro j hj _
    rcases Nat.lt_or_ge j w with hlt | hge
    · have hx : decide ((j : Int) < (w : Int)) = true := decide_eq_true (by omega)
      have hs1 : w64 ((j : Int) + 1) = ((j + 1 : Nat) : Int) := by rw [w64_id (by omega) (by omega)]; omega
      have hw8 : w64 (((p + j) / 8 : Nat) : Int) = (((p + j) / 8 : Nat) : Int) := w64_id (by omega) (by omega)
      have hw7 : w64 (7 - (((p + j) % 8 : Nat) : Int)) = ((7 - (p + j) % 8 : Nat) : Int) := by rw [w64_id (by omega) (by omega)]; omega
      have hp1 : w64 (((p + j : Nat) : Int) + 1) = ((p + (j + 1) : Nat) : Int) := by rw [w64_id (by omega) (by omega)]; omega
      have hi8 : (p + j) / 8 < s.size := by omega
      have hd : s.data[(p + j) / 8]? = some s.data[(p + j) / 8] := Array.getElem?_eq_getElem (by exact hi8)
      have hv := UInt8.toNat_lt s.data[(p + j) / 8]
      have hN := rdN_lt s p j
      have h63 : 2 ^ j ≤ 2 ^ 62 := Nat.pow_le_pow_right (by decide) (by omega)
      have hE : rdN s p (j + 1) = 2 * rdN s p j + s.data[(p + j) / 8].toNat / 2 ^ (7 - (p + j) % 8) % 2 := by rw [rdN, bA, hd, Option.getD_some]
      obtain ⟨y, hy⟩ : ∃ y, s.data[(p + j) / 8] = y := ⟨_, rfl⟩
      rw [hy] at hd hv hE
      have hbit := get_bit (v := y.toNat) (k := 7 - (p + j) % 8) hv (by omega)
      have hor := orU_2 (N := rdN s p j) (B := y.toNat / 2 ^ (7 - (p + j) % 8) % 2) (by omega) (by omega)
      simp only [go_sem, Int.cast_ofNat_Int, Int.reduceToNat, Bool.true_xor, Bool.false_xor, Bool.xor_true, Bool.xor_false, Nat.reduceAdd, Nat.reduceBEq, Nat.reduceLeDiff, Nat.reduceLT, Nat.reduceMul, Nat.reduceSub, Int.reduceEq, Int.reduceLT, Int.reduceLE, Int.reduceNeg, hx, hs1, hg, d0, d1, d2, d3, ht, hw8, hw7, hp1, hi8, hd, hbit, hor, ← hE, List.length_set, List.set_set, Int.toNat_natCast]
      refine ⟨by first | trivial | omega, by first | trivial | rfl, trivial⟩
    · obtain rfl : j = w := by omega
      have hx : decide ((j : Int) < (j : Int)) = false := decide_eq_false (by omega)
      simp only [go_sem, Int.cast_ofNat_Int, Int.reduceToNat, Bool.true_xor, Bool.false_xor, Bool.xor_true, Bool.xor_false, Nat.reduceAdd, Nat.reduceBEq, Nat.reduceLeDiff, Nat.reduceLT, Nat.reduceMul, Nat.reduceSub, Int.reduceEq, Int.reduceLT, Int.reduceLE, Int.reduceNeg, hx, hg, d0, d1, d2, d3, ht, List.length_set]
end Go.Sh
namespace Go.Sh
set_option linter.unusedSectionVars false
set_option linter.unnecessarySimpa false
set_option linter.unusedVariables false
set_option linter.unusedSimpArgs false
set_option maxRecDepth 100000
set_option maxHeartbeats 4000000
/-- What reading a field does. -/
def rdU (s : ByteArray) (w : Nat) (σ : Nat × Int) : Nat × (Nat × Int) :=
  if σ.2 = 0 then (if σ.1 + w ≤ 8 * s.size then (rdN s σ.1 w, (σ.1 + w, 0)) else (0, (σ.1, 9))) else (0, σ)
theorem rdU_lt (s : ByteArray) (w : Nat) (σ : Nat × Int) : (rdU s w σ).1 < 2 ^ w := by
  have h := rdN_lt s σ.1 w
  have h0 : 0 < 2 ^ w := Nat.pow_pos (by decide)
  unfold rdU
  by_cases h1 : σ.2 = 0
  · rw [if_pos h1]
    by_cases h2 : σ.1 + w ≤ 8 * s.size
    · rw [if_pos h2]; exact h
    · rw [if_neg h2]; exact h0
  · rw [if_neg h1]; exact h0
theorem rdU_p (s : ByteArray) (w : Nat) (σ : Nat × Int) (h : σ.1 ≤ 8 * s.size) : (rdU s w σ).2.1 ≤ 8 * s.size := by
  unfold rdU
  by_cases h1 : σ.2 = 0
  · rw [if_pos h1]
    by_cases h2 : σ.1 + w ≤ 8 * s.size
    · rw [if_pos h2]; exact h2
    · rw [if_neg h2]; exact h
  · rw [if_neg h1]; exact h
theorem rdU_e (s : ByteArray) (w : Nat) (σ : Nat × Int) (h : (rdU s w σ).2.2 = 0) : σ.2 = 0 ∧ σ.1 + w ≤ 8 * s.size ∧ rdU s w σ = (rdN s σ.1 w, (σ.1 + w, 0)) := by
  unfold rdU at h ⊢
  by_cases h1 : σ.2 = 0
  · rw [if_pos h1] at h ⊢
    by_cases h2 : σ.1 + w ≤ 8 * s.size
    · rw [if_pos h2]; exact ⟨h1, h2, rfl⟩
    · rw [if_neg h2] at h; cases h
  · rw [if_neg h1] at h; exact absurd h h1
abbrev dH (b0 : SBlk) (s : ByteArray) (σ : Nat × Int) (tl : List SBlk) (es : List (Nat × Nat)) : Heap := ⟨b0 :: rX s σ.1 σ.2 :: tl, es, 0⟩
section
variable (b0 : SBlk) (tl : List SBlk) (es : List (Nat × Nat)) (s : ByteArray)
def leftI (s : ByteArray) (σ : Nat × Int) : Int := if σ.2 = 0 then ((8 * s.size - σ.1 : Nat) : Int) else 0
theorem s71 (n : Nat) (σ : Nat × Int) (hs : s.size ≤ 1000) (hp : σ.1 ≤ 8 * s.size) : call1 T (n + 1) (.fn 71) [.ptr 1 0 0 0] (dH b0 s σ tl es) = some (.int .i64 (leftI s σ), dH b0 s σ tl es) := by
  refine call_in e71 (by rfl) ?_
  obtain ⟨p, er⟩ := σ
  have hp : p ≤ 8 * s.size := hp
  unfold leftI
  have hN : decide (max 2 0 ≤ tl.length + 1 + 1) = true := decide_eq_true (by omega)
  have l1 : decide (1 < tl.length + 1 + 1) = true := decide_eq_true (by omega)
  have l2 : decide (2 ≤ tl.length + 1 + 1) = true := decide_eq_true (by omega)
  have w1 : w64 (8 * (s.size : Int)) = 8 * (s.size : Int) := w64_id (by omega) (by omega)
  have w2 : w64 (8 * (s.size : Int) - (p : Int)) = ((8 * s.size - p : Nat) : Int) := by rw [w64_id (by omega) (by omega)]; omega
  by_cases h1 : er = 0
  · subst h1
    have d : decide ((0 : Int) = 0) = true := rfl
    rw [if_pos rfl]
    simp only [c71, go_sem, Int.cast_ofNat_Int, Int.reduceToNat, Bool.true_xor, Bool.false_xor, Bool.xor_true, Bool.xor_false, Nat.reduceAdd, Nat.reduceBEq, Nat.reduceLeDiff, Nat.reduceLT, Nat.reduceMul, Nat.reduceSub, Int.reduceEq, Int.reduceLT, Int.reduceLE, Int.reduceNeg, w1, w2, hN, l1, l2]
  · have d : decide (er = 0) = false := decide_eq_false h1
    rw [if_neg h1]
    simp only [c71, go_sem, Int.cast_ofNat_Int, Int.reduceToNat, Bool.true_xor, Bool.false_xor, Bool.xor_true, Bool.xor_false, Nat.reduceAdd, Nat.reduceBEq, Nat.reduceLeDiff, Nat.reduceLT, Nat.reduceMul, Nat.reduceSub, Int.reduceEq, Int.reduceLT, Int.reduceLE, Int.reduceNeg, d, hN, l1, l2]
theorem s104 (n : Nat) (p : Nat) (e : Int) : call1 T (n + 1) (.fn 104) [.ptr 1 0 0 0, .int .i64 e] (dH b0 s (p, 0) tl es) = some (.tup [], dH b0 s (p, e) tl es) := by
  refine call_in e104 (by rfl) ?_
  have hN : decide (max 2 0 ≤ tl.length + 1 + 1) = true := decide_eq_true (by omega)
  have l1 : decide (1 < tl.length + 1 + 1) = true := decide_eq_true (by omega)
  have l2 : decide (2 ≤ tl.length + 1 + 1) = true := decide_eq_true (by omega)
  simp only [c104, go_sem, Int.cast_ofNat_Int, Int.reduceToNat, Bool.true_xor, Bool.false_xor, Bool.xor_true, Bool.xor_false, Nat.reduceAdd, Nat.reduceBEq, Nat.reduceLeDiff, Nat.reduceLT, Nat.reduceMul, Nat.reduceSub, Int.reduceEq, Int.reduceLT, Int.reduceLE, Int.reduceNeg, hN, l1, l2]
theorem s96 (n : Nat) (w : Nat) (σ : Nat × Int) (hs : s.size ≤ 1000) (hp : σ.1 ≤ 8 * s.size) (hw : w ≤ 63) :
    call1 T (n + 2) (.fn 96) [.ptr 1 0 0 0, .bool true, .int .i64 w] (dH b0 s σ tl es) = some (.int .u64 (rdU s w σ).1, dH b0 s (rdU s w σ).2 tl es) := by
  refine call_in e96 (by rfl) ?_
  have h71 := fun es => s71 b0 tl es s n σ hs hp
  obtain ⟨p, er⟩ := σ
  have hp : p ≤ 8 * s.size := hp
  have hN : decide (max 2 0 ≤ tl.length + 1 + 1) = true := decide_eq_true (by omega)
  have l1 : decide (1 < tl.length + 1 + 1) = true := decide_eq_true (by omega)
  have l2 : decide (2 ≤ tl.length + 1 + 1) = true := decide_eq_true (by omega)
  unfold rdU
  by_cases h1 : er = 0
  · subst h1
    have hl : leftI s (p, 0) = ((8 * s.size - p : Nat) : Int) := rfl
    rw [hl] at h71
    rw [if_pos rfl]
    by_cases h2 : p + w ≤ 8 * s.size
    · rw [if_pos h2]
      have d2 : decide (((8 * s.size - p : Nat) : Int) < (w : Int)) = false := decide_eq_false (by omega)
      have h70 := fun es => s70 n (b0 :: rX s p 0 :: tl) es 1 w p 0 s rfl hw h2 hs
      simp only [List.set_cons_succ, List.set_cons_zero] at h70
      simp only [c96, go_sem, Int.cast_ofNat_Int, Int.reduceToNat, Bool.true_xor, Bool.false_xor, Bool.xor_true, Bool.xor_false, Nat.reduceAdd, Nat.reduceBEq, Nat.reduceLeDiff, Nat.reduceLT, Nat.reduceMul, Nat.reduceSub, Int.reduceEq, Int.reduceLT, Int.reduceLE, Int.reduceNeg, h71, h70, d2, hN, l1, l2]
    · rw [if_neg h2]
      have d2 : decide (((8 * s.size - p : Nat) : Int) < (w : Int)) = true := decide_eq_true (by omega)
      have h104 := fun es => s104 b0 tl es s n p 9
      simp only [c96, go_sem, Int.cast_ofNat_Int, Int.reduceToNat, Bool.true_xor, Bool.false_xor, Bool.xor_true, Bool.xor_false, Nat.reduceAdd, Nat.reduceBEq, Nat.reduceLeDiff, Nat.reduceLT, Nat.reduceMul, Nat.reduceSub, Int.reduceEq, Int.reduceLT, Int.reduceLE, Int.reduceNeg, h71, h104, d2, hN, l1, l2]
  · have d : decide (er = 0) = false := decide_eq_false h1
    rw [if_neg h1]
    simp only [c96, go_sem, Int.cast_ofNat_Int, Int.reduceToNat, Bool.true_xor, Bool.false_xor, Bool.xor_true, Bool.xor_false, Nat.reduceAdd, Nat.reduceBEq, Nat.reduceLeDiff, Nat.reduceLT, Nat.reduceMul, Nat.reduceSub, Int.reduceEq, Int.reduceLT, Int.reduceLE, Int.reduceNeg, d, hN, l1, l2]
theorem s86 (n : Nat) (w : Nat) (σ : Nat × Int) (hs : s.size ≤ 1000) (hp : σ.1 ≤ 8 * s.size) (h1 : 1 ≤ w) (hw : w ≤ 62) :
    call1 T (n + 3) (.fn 86) [.ptr 1 0 0 0, .int .i64 w] (dH b0 s σ tl es) = some (.int .i64 (rdU s w σ).1, dH b0 s (rdU s w σ).2 tl es) := by
  refine call_in e86 (by rfl) ?_
  have h96 := fun es => s96 b0 tl es s n w σ hs hp (by omega)
  have hlt := rdU_lt s w σ
  have h62 : 2 ^ w ≤ 2 ^ 62 := Nat.pow_le_pow_right (by decide) hw
  have w1 : w64 ((rdU s w σ).1 : Int) = ((rdU s w σ).1 : Int) := w64_id (by omega) (by omega)
  have x1 : decide ((1 : Int) ≤ (w : Int)) = true := decide_eq_true (by omega)
  have x2 : decide ((w : Int) ≤ 63) = true := decide_eq_true (by omega)
  have l2 : decide (2 ≤ tl.length + 1 + 1) = true := decide_eq_true (by omega)
  simp only [c86, go_sem, Int.cast_ofNat_Int, Int.reduceToNat, Bool.true_xor, Bool.false_xor, Bool.xor_true, Bool.xor_false, Nat.reduceAdd, Nat.reduceBEq, Nat.reduceLeDiff, Nat.reduceLT, Nat.reduceMul, Nat.reduceSub, Int.reduceEq, Int.reduceLT, Int.reduceLE, Int.reduceNeg, h96, w1, x1, x2, l2]
theorem s88 (n : Nat) (σ : Nat × Int) (hs : s.size ≤ 1000) (hp : σ.1 ≤ 8 * s.size) :
    call1 T (n + 3) (.fn 88) [.ptr 1 0 0 0] (dH b0 s σ tl es) = some (.bool (decide ((rdU s 1 σ).1 = 1)), dH b0 s (rdU s 1 σ).2 tl es) := by
  refine call_in e88 (by rfl) ?_
  have h96 : ∀ es, call1 T (n + 2) (.fn 96) [.ptr 1 0 0 0, .bool true, .int .i64 1] (dH b0 s σ tl es) = some (.int .u64 (rdU s 1 σ).1, dH b0 s (rdU s 1 σ).2 tl es) := fun es => s96 b0 tl es s n 1 σ hs hp (by omega)
  have l2 : decide (2 ≤ tl.length + 1 + 1) = true := decide_eq_true (by omega)
  have hc : decide ((((rdU s 1 σ).1 : Nat) : Int) = 1) = decide ((rdU s 1 σ).1 = 1) := by rw [Bool.eq_iff_iff]; simp only [decide_eq_true_eq]; omega
  simp only [c88, go_sem, Int.cast_ofNat_Int, Int.reduceToNat, Bool.true_xor, Bool.false_xor, Bool.xor_true, Bool.xor_false, Nat.reduceAdd, Nat.reduceBEq, Nat.reduceLeDiff, Nat.reduceLT, Nat.reduceMul, Nat.reduceSub, Int.reduceEq, Int.reduceLT, Int.reduceLE, Int.reduceNeg, h96, l2, hc]
/-- A signed number of 16 bits. -/
def sgI (v : Nat) : Int := if 32768 ≤ v then (v : Int) - 65536 else v
theorem fd15 (x : Nat) : (x : Int).fdiv (2 ^ min 15 64) = ((x / 2 ^ 15 : Nat) : Int) := by rw [show min 15 64 = 15 from rfl, fdiv_nat]
theorem s84 (n : Nat) (σ : Nat × Int) (hs : s.size ≤ 1000) (hp : σ.1 ≤ 8 * s.size) :
    call1 T (n + 3) (.fn 84) [.ptr 1 0 0 0, .int .i64 16] (dH b0 s σ tl es) = some (.int .i64 (sgI (rdU s 16 σ).1), dH b0 s (rdU s 16 σ).2 tl es) := by
  refine call_in e84 (by rfl) ?_
  have h96 : ∀ es, call1 T (n + 2) (.fn 96) [.ptr 1 0 0 0, .bool true, .int .i64 16] (dH b0 s σ tl es) = some (.int .u64 (rdU s 16 σ).1, dH b0 s (rdU s 16 σ).2 tl es) := fun es => s96 b0 tl es s n 16 σ hs hp (by omega)
  have hlt := rdU_lt s 16 σ
  have hN : decide (max 2 0 ≤ tl.length + 1 + 1) = true := decide_eq_true (by omega)
  have l1 : decide (1 < tl.length + 1 + 1) = true := decide_eq_true (by omega)
  have l2 : decide (2 ≤ tl.length + 1 + 1) = true := decide_eq_true (by omega)
  have w1 : w64 ((rdU s 16 σ).1 : Int) = ((rdU s 16 σ).1 : Int) := w64_id (by omega) (by omega)
  have m2 : w64 (16 - 1) = 15 := by decide
  have m3 : w64 (1 * 2 ^ min 16 64) = 65536 := by decide
  have hz : (rdU s 16 σ).2.2 ≠ 0 → (rdU s 16 σ).1 = 0 := by
    unfold rdU
    intro h
    split
    · rename_i h1
      rw [if_pos h1] at h
      split
      · rename_i h2
        rw [if_pos h2] at h
        exact absurd rfl h
      · rfl
    · rfl
  obtain ⟨v, σ', hv⟩ : ∃ v σ', rdU s 16 σ = (v, σ') := ⟨_, _, rfl⟩
  rw [hv] at h96 hlt w1 hz ⊢
  obtain ⟨p', er'⟩ := σ'
  have hlt : v < 65536 := hlt
  have w2 : w64 ((v : Int) - 65536) = (v : Int) - 65536 := w64_id (by omega) (by omega)
  have hz : er' ≠ 0 → v = 0 := hz
  simp only [] at h96 w1 ⊢
  by_cases h1 : er' = 0
  · subst h1
    unfold sgI
    by_cases h2 : 32768 ≤ v
    · rw [if_pos h2]
      have d2 : decide (((v / 2 ^ 15 % 2 : Nat) : Int) = 1) = true := decide_eq_true (by omega)
      have ha : andI ((v / 2 ^ 15 : Nat) : Int) 1 = ((v / 2 ^ 15 % 2 : Nat) : Int) := by rw [andI_one]; omega
      simp only [c84, go_sem, Int.cast_ofNat_Int, Int.reduceToNat, Bool.true_xor, Bool.false_xor, Bool.xor_true, Bool.xor_false, Nat.reduceAdd, Nat.reduceBEq, Nat.reduceLeDiff, Nat.reduceLT, Nat.reduceMul, Nat.reduceSub, Int.reduceEq, Int.reduceLT, Int.reduceLE, Int.reduceNeg, h96, w1, m2, m3, fd15, ha, d2, w2, hN, l1, l2]
    · rw [if_neg h2]
      have d2 : decide (((v / 2 ^ 15 % 2 : Nat) : Int) = 1) = false := decide_eq_false (by omega)
      have ha : andI ((v / 2 ^ 15 : Nat) : Int) 1 = ((v / 2 ^ 15 % 2 : Nat) : Int) := by rw [andI_one]; omega
      simp only [c84, go_sem, Int.cast_ofNat_Int, Int.reduceToNat, Bool.true_xor, Bool.false_xor, Bool.xor_true, Bool.xor_false, Nat.reduceAdd, Nat.reduceBEq, Nat.reduceLeDiff, Nat.reduceLT, Nat.reduceMul, Nat.reduceSub, Int.reduceEq, Int.reduceLT, Int.reduceLE, Int.reduceNeg, h96, w1, m2, m3, fd15, ha, d2, hN, l1, l2]
  · have h0 := hz h1
    subst h0
    have d : decide (er' = 0) = false := decide_eq_false h1
    have hs0 : sgI 0 = 0 := rfl
    have w0 : w64 0 = 0 := by decide
    simp only [c84, go_sem, Int.cast_ofNat_Int, Int.reduceToNat, Bool.true_xor, Bool.false_xor, Bool.xor_true, Bool.xor_false, Nat.reduceAdd, Nat.reduceBEq, Nat.reduceLeDiff, Nat.reduceLT, Nat.reduceMul, Nat.reduceSub, Int.reduceEq, Int.reduceLT, Int.reduceLE, Int.reduceNeg, h96, w0, d, hs0, hN, l1, l2, Int.natCast_zero, Int.ofNat_zero]
end
end Go.Sh
namespace Go.Sh
set_option linter.unusedSectionVars false
set_option linter.unnecessarySimpa false
set_option linter.unusedVariables false
set_option linter.unusedSimpArgs false
set_option maxRecDepth 100000
set_option maxHeartbeats 4000000
/-- The bytes that are read. -/
def rdX (s : ByteArray) (p m : Nat) : ByteArray := ⟨((List.range m).map fun i => UInt8.ofNat (rdN s (p + 8 * i) 8)).toArray⟩
theorem rdX_size (s : ByteArray) (p m : Nat) : (rdX s p m).size = m := by simp [rdX, ByteArray.size]
/-- What reading a text does. -/
def rdT (s : ByteArray) (σ : Nat × Int) : ByteArray × (Nat × Int) :=
  if (rdU s 7 σ).2.2 = 0 then
    (if (rdU s 7 σ).2.1 + 8 * (rdU s 7 σ).1 ≤ 8 * s.size then (rdX s (rdU s 7 σ).2.1 (rdU s 7 σ).1, ((rdU s 7 σ).2.1 + 8 * (rdU s 7 σ).1, 0)) else (⟨#[]⟩, ((rdU s 7 σ).2.1, 9)))
  else (⟨#[]⟩, (rdU s 7 σ).2)
theorem rdT_p (s : ByteArray) (σ : Nat × Int) (h : σ.1 ≤ 8 * s.size) : (rdT s σ).2.1 ≤ 8 * s.size := by
  have h7 := rdU_p s 7 σ h
  unfold rdT
  by_cases h1 : (rdU s 7 σ).2.2 = 0
  · rw [if_pos h1]
    by_cases h2 : (rdU s 7 σ).2.1 + 8 * (rdU s 7 σ).1 ≤ 8 * s.size
    · rw [if_pos h2]; exact h2
    · rw [if_neg h2]; exact h7
  · rw [if_neg h1]; exact h7
theorem rdT_e (s : ByteArray) (σ : Nat × Int) (h : (rdT s σ).2.2 = 0) : (rdU s 7 σ).2.2 = 0 ∧ (rdU s 7 σ).2.1 + 8 * (rdU s 7 σ).1 ≤ 8 * s.size ∧
    rdT s σ = (rdX s (rdU s 7 σ).2.1 (rdU s 7 σ).1, ((rdU s 7 σ).2.1 + 8 * (rdU s 7 σ).1, 0)) := by
  unfold rdT at h ⊢
  by_cases h1 : (rdU s 7 σ).2.2 = 0
  · rw [if_pos h1] at h ⊢
    by_cases h2 : (rdU s 7 σ).2.1 + 8 * (rdU s 7 σ).1 ≤ 8 * s.size
    · rw [if_pos h2]; exact ⟨h1, h2, rfl⟩
    · rw [if_neg h2] at h; cases h
  · rw [if_neg h1] at h; exact absurd h h1
theorem rdT_size (s : ByteArray) (σ : Nat × Int) : (rdT s σ).1.size ≤ 127 := by
  have h7 := rdU_lt s 7 σ
  unfold rdT
  by_cases h1 : (rdU s 7 σ).2.2 = 0
  · rw [if_pos h1]
    by_cases h2 : (rdU s 7 σ).2.1 + 8 * (rdU s 7 σ).1 ≤ 8 * s.size
    · rw [if_pos h2]
      show (rdX s _ _).size ≤ 127
      rw [rdX_size]; omega
    · rw [if_neg h2]; exact Nat.zero_le _
  · rw [if_neg h1]; exact Nat.zero_le _
def rowsT (s : ByteArray) (p m i : Nat) : List (List SV) := (List.range m).map fun j => [.int .u8 ((if j < i then rdN s (p + 8 * j) 8 else 0 : Nat) : Nat)]
@[go_sem] theorem rowsT_len {s p m i} : (rowsT s p m i).length = m := by simp [rowsT]
theorem rowsT_zero (s p m) : List.replicate m [SV.int .u8 0] = rowsT s p m 0 := by
  apply List.ext_getElem?
  intro j
  simp only [rowsT, List.getElem?_map, List.getElem?_replicate]
  by_cases h : j < m
  · rw [List.getElem?_range h, if_pos h]; rfl
  · rw [List.getElem?_eq_none (by simp; omega), if_neg h]; rfl
theorem rowsT_get {s p m i} (h : i < m) : (rowsT s p m i)[i]? = some [.int .u8 0] := by
  simp only [rowsT, List.getElem?_map, List.getElem?_range h, Option.map_some, if_neg (Nat.lt_irrefl i)]; rfl
theorem rowsT_set {s p m i} (h : i < m) : (rowsT s p m i).set i [.int .u8 (rdN s (p + 8 * i) 8 : Nat)] = rowsT s p m (i + 1) := by
  apply List.ext_getElem?
  intro j
  rw [List.getElem?_set]
  by_cases h2 : i = j
  · subst h2
    rw [if_pos rfl, if_pos (by rw [rowsT_len]; exact h)]
    simp only [rowsT, List.getElem?_map, List.getElem?_range h, Option.map_some]
    rw [if_pos (by omega)]
  · rw [if_neg h2]
    by_cases hj : j < m
    · simp only [rowsT, List.getElem?_map, List.getElem?_range hj, Option.map_some]
      by_cases h3 : j < i
      · rw [if_pos h3, if_pos (by omega)]
      · rw [if_neg h3, if_neg (by omega)]
    · rw [List.getElem?_eq_none (by rw [rowsT_len]; omega), List.getElem?_eq_none (by rw [rowsT_len]; omega)]
theorem toB_rowsT (s p m) : toBytes (rowsT s p m m) = some ((List.range m).map fun i => UInt8.ofNat (rdN s (p + 8 * i) 8)) := by
  have h : rowsT s p m m = (List.range m).map fun j => [.int .u8 ((rdN s (p + 8 * j) 8 : Nat) : Int)] := by
    unfold rowsT
    apply List.map_congr_left
    intro j hj
    rw [if_pos (List.mem_range.1 hj)]
  rw [h]; exact toB_map _ _
section
variable (b0 : SBlk) (tl : List SBlk) (es : List (Nat × Nat)) (s : ByteArray)
theorem s94 (n : Nat) (σ : Nat × Int) (hs : s.size ≤ 1000) (hp : σ.1 ≤ 8 * s.size) :
    call1 T (n + 4) (.fn 94) [.ptr 1 0 0 0, .int .i64 127] (dH b0 s σ tl es) = some (.str (rdT s σ).1, dH b0 s (rdT s σ).2 tl es) := by
  refine call_in e94 (by rfl) ?_
  have h101 := fun H => s101 (n + 2) H 127
  have hl1 : (decide ((1 : Int) ≤ 127) && decide ((127 : Int) ≤ 4095)) = true := by decide
  rw [hl1] at h101
  have h102 := fun H => s102 n H
  have h96 : ∀ es, call1 T (n + 3) (.fn 96) [.ptr 1 0 0 0, .bool true, .int .i64 7] (dH b0 s σ tl es) = some (.int .u64 (rdU s 7 σ).1, dH b0 s (rdU s 7 σ).2 tl es) := fun es => s96 b0 tl es s (n + 1) 7 σ hs hp (by omega)
  have hp7 := rdU_p s 7 σ hp
  have hlt := rdU_lt s 7 σ
  have hN : decide (max 2 0 ≤ tl.length + 1 + 1) = true := decide_eq_true (by omega)
  have l1 : decide (1 < tl.length + 1 + 1) = true := decide_eq_true (by omega)
  have l2 : decide (2 ≤ tl.length + 1 + 1) = true := decide_eq_true (by omega)
  have w1 : w64 ((rdU s 7 σ).1 : Int) = ((rdU s 7 σ).1 : Int) := w64_id (by omega) (by omega)
  unfold rdT
  obtain ⟨m, p, er, hv⟩ : ∃ m p er, rdU s 7 σ = (m, (p, er)) := ⟨_, _, _, rfl⟩
  rw [hv] at h96 hlt w1 hp7 ⊢
  have hlt : m < 128 := hlt
  have hp7 : p ≤ 8 * s.size := hp7
  simp only [] at h96 w1 ⊢
  have x0 : decide ((127 : Int) < (m : Int)) = false := decide_eq_false (by omega)
  by_cases h1 : er = 0
  · subst h1
    rw [if_pos rfl]
    have h71 := fun es => s71 b0 tl es s (n + 2) (p, 0) hs hp7
    have hl : leftI s (p, 0) = ((8 * s.size - p : Nat) : Int) := rfl
    rw [hl] at h71
    have w2 : w64 (8 * (m : Int)) = 8 * (m : Int) := w64_id (by omega) (by omega)
    by_cases h2 : p + 8 * m ≤ 8 * s.size
    · rw [if_pos h2]
      have d2 : decide (((8 * s.size - p : Nat) : Int) < 8 * (m : Int)) = false := decide_eq_false (by omega)
      have hG : ∀ x : SBlk, (tl ++ [x])[tl.length]? = some x := fun x => by rw [List.getElem?_append_right (Nat.le_refl _), Nat.sub_self]; rfl
      have hS : ∀ x y : SBlk, (tl ++ [x]).set tl.length y = tl ++ [y] := fun x y => by rw [List.set_append_right _ _ (Nat.le_refl _), Nat.sub_self]; rfl
      have hT : ∀ x : SBlk, (tl ++ [x]).take tl.length = tl := fun x => by simp
      have hN3 : decide (max (tl.length + 1 + 1 + 1) 0 ≤ tl.length + 1 + 1 + 1) = true := decide_eq_true (by omega)
      have l3 : decide (tl.length + 1 + 1 < tl.length + 1 + 1 + 1) = true := decide_eq_true (by omega)
      have l4 : decide (tl.length + 1 + 1 ≤ tl.length + 1 + 1 + 1) = true := decide_eq_true (by omega)
      have hN4 : decide (max (max 2 0) (max (tl.length + 1 + 1 + 1) 0) ≤ tl.length + 1 + 1 + 1) = true := decide_eq_true (by omega)
      have hT1 : ∀ x : SBlk, (tl ++ [x]).take (tl.length + 1) = tl ++ [x] := fun x => List.take_of_length_le (by simp)
      have l6 : decide (tl.length ≤ tl.length + 1) = true := decide_eq_true (by omega)
      have l5 : ∀ a : Nat, decide (0 ≤ a) = true := fun a => decide_eq_true (by omega)
      simp only [c94, go_sem, Int.cast_ofNat_Int, Int.reduceToNat, Bool.true_xor, Bool.false_xor, Bool.xor_true, Bool.xor_false, Nat.reduceAdd, Nat.reduceBEq, Nat.reduceLeDiff, Nat.reduceLT, Nat.reduceMul, Nat.reduceSub, Int.reduceEq, Int.reduceLT, Int.reduceLE, Int.reduceNeg, h101, h102, h96, w1, x0, h71, w2, d2, hN, l1, l2, mkU _ _ (show m ≤ 100000 by omega), rowsT_zero s p m, hG, List.cons_append, List.length_append]
      refine loop_rule (fun i => ([(6, .bfn 70 [.ptr 1 0 0 0]), (7, .slc (tl.length + 1 + 1) 0 0 m), (41, .int .i64 m), (42, .int .i64 i)], ⟨b0 :: rX s (p + 8 * i) 0 :: (tl ++ [.arr 0 1 (rowsT s p m i) true]), [], 0⟩)) (fun _ => True) m ?_ trivial ?_
      · simp only [go_sem, Int.cast_ofNat_Int, Int.reduceToNat, Bool.true_xor, Bool.false_xor, Bool.xor_true, Bool.xor_false, Nat.reduceAdd, Nat.reduceBEq, Nat.reduceLeDiff, Nat.reduceLT, Nat.reduceMul, Nat.reduceSub, Int.reduceEq, Int.reduceLT, Int.reduceLE, Int.reduceNeg, hN3, hN4, hT1, List.length_append, List.cons_append]
        try rfl
      · intro i hi _
        rcases Nat.lt_or_ge i m with hlt2 | hge
        · have hs2 : w64 ((i : Int) + 1) = ((i + 1 : Nat) : Int) := by rw [w64_id (by omega) (by omega)]; omega
          have h70 : ∀ x es, call1 T (n + 3) (.fn 70) [.ptr 1 0 0 0, .int .i64 8] ⟨b0 :: rX s (p + 8 * i) 0 :: (tl ++ [x]), es, 0⟩ = some (.int .u64 (rdN s (p + 8 * i) 8), ⟨b0 :: rX s (p + 8 * (i + 1)) 0 :: (tl ++ [x]), es, 0⟩) := fun x es =>
            s70 (n + 2) (b0 :: rX s (p + 8 * i) 0 :: (tl ++ [x])) es 1 8 (p + 8 * i) 0 s rfl (by omega) (by omega) hs
          have h8 := rdN_lt s (p + 8 * i) 8
          have hu := u8N (x := rdN s (p + 8 * i) 8) h8
          have hset := rowsT_set (s := s) (p := p) hlt2
          have hget := rowsT_get (s := s) (p := p) hlt2
          simp only [go_sem, Int.cast_ofNat_Int, Int.reduceToNat, Bool.true_xor, Bool.false_xor, Bool.xor_true, Bool.xor_false, Nat.reduceAdd, Nat.reduceBEq, Nat.reduceLeDiff, Nat.reduceLT, Nat.reduceMul, Nat.reduceSub, Int.reduceEq, Int.reduceLT, Int.reduceLE, Int.reduceNeg, hlt2, h70, hu, hs2, hG, hS, hT, hget, hset, hN3, hN4, hT1, l3, l4, l5, List.length_append, List.cons_append, List.nil_append, Int.toNat_natCast]
          refine ⟨by first | trivial | omega, by first | trivial | rfl, trivial⟩
        · obtain rfl : i = m := by omega
          have hd : decide (i < i) = false := decide_eq_false (by omega)
          have ht : List.take i (rowsT s p i i) = rowsT s p i i := List.take_of_length_le (by rw [rowsT_len]; exact Nat.le_refl _)
          have hl2 : decide (i ≤ i) = true := decide_eq_true (Nat.le_refl _)
          simp only [go_sem, Int.cast_ofNat_Int, Int.reduceToNat, Bool.true_xor, Bool.false_xor, Bool.xor_true, Bool.xor_false, Nat.reduceAdd, Nat.reduceBEq, Nat.reduceLeDiff, Nat.reduceLT, Nat.reduceMul, Nat.reduceSub, Int.reduceEq, Int.reduceLT, Int.reduceLE, Int.reduceNeg, hd, ht, hl2, hG, hS, hT, toB_rowsT, rdX, hN3, hN4, hT1, l2, l3, l4, l5, l6, List.length_append, List.cons_append, List.nil_append]
    · rw [if_neg h2]
      have d2 : decide (((8 * s.size - p : Nat) : Int) < 8 * (m : Int)) = true := decide_eq_true (by omega)
      have h104 := fun es => s104 b0 tl es s (n + 2) p 9
      simp only [c94, go_sem, Int.cast_ofNat_Int, Int.reduceToNat, Bool.true_xor, Bool.false_xor, Bool.xor_true, Bool.xor_false, Nat.reduceAdd, Nat.reduceBEq, Nat.reduceLeDiff, Nat.reduceLT, Nat.reduceMul, Nat.reduceSub, Int.reduceEq, Int.reduceLT, Int.reduceLE, Int.reduceNeg, h101, h102, h96, w1, x0, h71, w2, d2, h104, hN, l1, l2]
  · rw [if_neg h1]
    have d : decide (er = 0) = false := decide_eq_false h1
    simp only [c94, go_sem, Int.cast_ofNat_Int, Int.reduceToNat, Bool.true_xor, Bool.false_xor, Bool.xor_true, Bool.xor_false, Nat.reduceAdd, Nat.reduceBEq, Nat.reduceLeDiff, Nat.reduceLT, Nat.reduceMul, Nat.reduceSub, Int.reduceEq, Int.reduceLT, Int.reduceLE, Int.reduceNeg, h101, h102, h96, w1, d, hN, l1, l2]
end
end Go.Sh
namespace Go.Sh
set_option linter.unusedSectionVars false
set_option linter.unnecessarySimpa false
set_option linter.unusedVariables false
set_option linter.unusedSimpArgs false
set_option maxRecDepth 100000
set_option maxHeartbeats 4000000
/-- The pen that reads. -/
abbrev pR : SV := .agg [.nilPtr, .ptr 1 0 0 0]
abbrev dF (b0 : SBlk) (s : ByteArray) (σ : Nat × Int) (cs : List SV) (tl : List SBlk) (es : List (Nat × Nat)) : Heap := ⟨b0 :: rX s σ.1 σ.2 :: .box cs :: tl, es, 0⟩
theorem tds {cs : List SV} {j : Nat} {x : SV} (h : j < cs.length) : List.take j cs ++ [x] ++ List.drop (j + 1) cs = cs.set j x := by
  rw [List.set_eq_take_append_cons_drop, if_pos h, List.append_assoc]; rfl
/-- What reading a target does. -/
def tgR (s : ByteArray) (σ : Nat × Int) : Int × (Nat × Int) := if (rdU s 1 σ).1 = 1 then (((rdU s 5 (rdU s 1 σ).2).1 : Int), (rdU s 5 (rdU s 1 σ).2).2) else (-1, (rdU s 1 σ).2)
theorem tgR_p (s : ByteArray) (σ : Nat × Int) (h : σ.1 ≤ 8 * s.size) : (tgR s σ).2.1 ≤ 8 * s.size := by
  have h1 := rdU_p s 1 σ h
  have h2 := rdU_p s 5 _ h1
  unfold tgR
  split
  · exact h2
  · exact h1
section
variable (b0 : SBlk) (tl : List SBlk) (es : List (Nat × Nat)) (s : ByteArray)
theorem s61r (n : Nat) (cs : List SV) (w j : Nat) (σ : Nat × Int) (hj : j < cs.length) (hs : s.size ≤ 1000) (hp : σ.1 ≤ 8 * s.size) (h1 : 1 ≤ w) (hw : w ≤ 62) :
    call1 T (n + 4) (.fn 61) [pR, .int .i64 w, .ptr 2 0 0 j] (dF b0 s σ cs tl es) = some (.tup [], dF b0 s (rdU s w σ).2 (cs.set j (.int .i64 (rdU s w σ).1)) tl es) := by
  refine call_in e61 (by rfl) ?_
  have h := fun tl es => s86 b0 tl es s n w σ hs hp h1 hw
  have hG : ∀ x : SBlk, (tl ++ [x])[tl.length]? = some x := fun x => by rw [List.getElem?_append_right (Nat.le_refl _), Nat.sub_self]; rfl
  have hT : ∀ x : SBlk, (tl ++ [x]).take tl.length = tl := fun x => by simp
  have hN : decide (max 3 (max 2 0) ≤ tl.length + 1 + 1 + 1) = true := decide_eq_true (by omega)
  have l0 : ∀ a : Nat, decide (0 ≤ a) = true := fun a => decide_eq_true (by omega)
  have l1 : decide (tl.length + 1 + 1 + 1 < tl.length + 1 + 1 + 1 + 1) = true := decide_eq_true (by omega)
  have l2 : decide (2 < tl.length + 1 + 1 + 1 + 1) = true := decide_eq_true (by omega)
  have l3 : decide (tl.length + 1 + 1 + 1 ≤ tl.length + 1 + 1 + 1 + 1) = true := decide_eq_true (by omega)
  have l4 : decide (tl.length ≤ tl.length + 1) = true := decide_eq_true (by omega)
  have lj : decide (j + 1 ≤ cs.length) = true := decide_eq_true hj
  simp only [c61, go_sem, Int.cast_ofNat_Int, Int.reduceToNat, Bool.true_xor, Bool.false_xor, Bool.xor_true, Bool.xor_false, Nat.reduceAdd, Nat.reduceBEq, Nat.reduceLeDiff, Nat.reduceLT, Nat.reduceMul, Nat.reduceSub, Int.reduceEq, Int.reduceLT, Int.reduceLE, Int.reduceNeg, h, lj, tds hj, hN, hG, hT, l0, l1, l2, l3, l4, List.length_append, List.cons_append, List.set_cons_zero, List.set_cons_succ]
theorem s82r (n : Nat) (cs : List SV) (j : Nat) (σ : Nat × Int) (hj : j < cs.length) (hs : s.size ≤ 1000) (hp : σ.1 ≤ 8 * s.size) :
    call1 T (n + 5) (.fn 82) [pR, .ptr 2 0 0 j] (dF b0 s σ cs tl es) = some (.tup [], dF b0 s (rdT s σ).2 (cs.set j (.str (rdT s σ).1)) tl es) := by
  refine call_in e82 (by rfl) ?_
  have h := fun tl es => s94 b0 tl es s n σ hs hp
  have hG : ∀ x : SBlk, (tl ++ [x])[tl.length]? = some x := fun x => by rw [List.getElem?_append_right (Nat.le_refl _), Nat.sub_self]; rfl
  have hT : ∀ x : SBlk, (tl ++ [x]).take tl.length = tl := fun x => by simp
  have hN : decide (max 3 (max 2 0) ≤ tl.length + 1 + 1 + 1) = true := decide_eq_true (by omega)
  have l0 : ∀ a : Nat, decide (0 ≤ a) = true := fun a => decide_eq_true (by omega)
  have l1 : decide (tl.length + 1 + 1 + 1 < tl.length + 1 + 1 + 1 + 1) = true := decide_eq_true (by omega)
  have l2 : decide (2 < tl.length + 1 + 1 + 1 + 1) = true := decide_eq_true (by omega)
  have l3 : decide (tl.length + 1 + 1 + 1 ≤ tl.length + 1 + 1 + 1 + 1) = true := decide_eq_true (by omega)
  have l4 : decide (tl.length ≤ tl.length + 1) = true := decide_eq_true (by omega)
  have lj : decide (j + 1 ≤ cs.length) = true := decide_eq_true hj
  simp only [c82, go_sem, Int.cast_ofNat_Int, Int.reduceToNat, Bool.true_xor, Bool.false_xor, Bool.xor_true, Bool.xor_false, Nat.reduceAdd, Nat.reduceBEq, Nat.reduceLeDiff, Nat.reduceLT, Nat.reduceMul, Nat.reduceSub, Int.reduceEq, Int.reduceLT, Int.reduceLE, Int.reduceNeg, h, lj, tds hj, hN, hG, hT, l0, l1, l2, l3, l4, List.length_append, List.cons_append, List.set_cons_zero, List.set_cons_succ]
section
variable (k a d q o c m e t u v : Int) (x : ByteArray)
theorem s62r (n : Nat) (σ : Nat × Int) (hs : s.size ≤ 1000) (hp : σ.1 ≤ 8 * s.size) :
    call1 T (n + 5) (.fn 62) [pR, .ptr 2 0 0 2] (dF b0 s σ (fr k a d q o c m e t u v x) tl es) = some (.tup [], dF b0 s (tgR s σ).2 (fr k a (tgR s σ).1 q o c m e t u v x) tl es) := by
  refine call_in e62 (by rfl) ?_
  have h := fun tl es => s88 b0 tl es s (n + 1) σ hs hp
  have hG : ∀ x : SBlk, (tl ++ [x])[tl.length]? = some x := fun x => by rw [List.getElem?_append_right (Nat.le_refl _), Nat.sub_self]; rfl
  have hT : ∀ x : SBlk, (tl ++ [x]).take tl.length = tl := fun x => by simp
  have hN : decide (max 3 (max 2 0) ≤ tl.length + 1 + 1 + 1) = true := decide_eq_true (by omega)
  have l0 : ∀ a : Nat, decide (0 ≤ a) = true := fun a => decide_eq_true (by omega)
  have l1 : decide (tl.length + 1 + 1 + 1 < tl.length + 1 + 1 + 1 + 1) = true := decide_eq_true (by omega)
  have l2 : decide (2 < tl.length + 1 + 1 + 1 + 1) = true := decide_eq_true (by omega)
  have l3 : decide (tl.length + 1 + 1 + 1 ≤ tl.length + 1 + 1 + 1 + 1) = true := decide_eq_true (by omega)
  have l4 : decide (tl.length ≤ tl.length + 1) = true := decide_eq_true (by omega)
  unfold tgR
  by_cases hf : (rdU s 1 σ).1 = 1
  · rw [if_pos hf]
    have hd : decide ((rdU s 1 σ).1 = 1) = true := decide_eq_true hf
    rw [hd] at h
    have h61 : ∀ tl es, call1 T (n + 4) (.fn 61) [pR, .int .i64 5, .ptr 2 0 0 2] (dF b0 s (rdU s 1 σ).2 (fr k a d q o c m e t u v x) tl es) = some (.tup [], dF b0 s (rdU s 5 (rdU s 1 σ).2).2 (fr k a (rdU s 5 (rdU s 1 σ).2).1 q o c m e t u v x) tl es) :=
      fun tl es => s61r b0 tl es s n (fr k a d q o c m e t u v x) 5 2 (rdU s 1 σ).2 (by simp) hs (rdU_p s 1 σ hp) (by omega) (by omega)
    cases hx : decide (0 ≤ d) <;> simp only [c62, go_sem, Int.cast_ofNat_Int, Int.reduceToNat, Bool.true_xor, Bool.false_xor, Bool.xor_true, Bool.xor_false, Nat.reduceAdd, Nat.reduceBEq, Nat.reduceLeDiff, Nat.reduceLT, Nat.reduceMul, Nat.reduceSub, Int.reduceEq, Int.reduceLT, Int.reduceLE, Int.reduceNeg, h, hx, h61, hN, hG, hT, l0, l1, l2, l3, l4, List.length_append, List.cons_append, List.set_cons_zero, List.set_cons_succ]
  · rw [if_neg hf]
    have hd : decide ((rdU s 1 σ).1 = 1) = false := decide_eq_false hf
    rw [hd] at h
    cases hx : decide (0 ≤ d) <;> simp only [c62, go_sem, Int.cast_ofNat_Int, Int.reduceToNat, Bool.true_xor, Bool.false_xor, Bool.xor_true, Bool.xor_false, Nat.reduceAdd, Nat.reduceBEq, Nat.reduceLeDiff, Nat.reduceLT, Nat.reduceMul, Nat.reduceSub, Int.reduceEq, Int.reduceLT, Int.reduceLE, Int.reduceNeg, h, hx, hN, hG, hT, l0, l1, l2, l3, l4, List.length_append, List.cons_append, List.set_cons_zero, List.set_cons_succ]
theorem s58r (n : Nat) (σ : Nat × Int) (hs : s.size ≤ 1000) (hp : σ.1 ≤ 8 * s.size) :
    call1 T (n + 4) (.fn 58) [pR, .ptr 2 0 0 0] (dF b0 s σ (fr k a d q o c m e t u v x) tl es) = some (.tup [], dF b0 s (rdU s 16 σ).2 (fr k a d q o c m (sgI (rdU s 16 σ).1) t u v x) tl es) := by
  refine call_in e58 (by rfl) ?_
  have h := fun tl es => s84 b0 tl es s n σ hs hp
  have hG : ∀ x : SBlk, (tl ++ [x])[tl.length]? = some x := fun x => by rw [List.getElem?_append_right (Nat.le_refl _), Nat.sub_self]; rfl
  have hT : ∀ x : SBlk, (tl ++ [x]).take tl.length = tl := fun x => by simp
  have hN : decide (max 3 (max 2 0) ≤ tl.length + 1 + 1 + 1) = true := decide_eq_true (by omega)
  have l0 : ∀ a : Nat, decide (0 ≤ a) = true := fun a => decide_eq_true (by omega)
  have l1 : decide (tl.length + 1 + 1 + 1 < tl.length + 1 + 1 + 1 + 1) = true := decide_eq_true (by omega)
  have l2 : decide (2 < tl.length + 1 + 1 + 1 + 1) = true := decide_eq_true (by omega)
  have l3 : decide (tl.length + 1 + 1 + 1 ≤ tl.length + 1 + 1 + 1 + 1) = true := decide_eq_true (by omega)
  have l4 : decide (tl.length ≤ tl.length + 1) = true := decide_eq_true (by omega)
  simp only [c58, go_sem, Int.cast_ofNat_Int, Int.reduceToNat, Bool.true_xor, Bool.false_xor, Bool.xor_true, Bool.xor_false, Nat.reduceAdd, Nat.reduceBEq, Nat.reduceLeDiff, Nat.reduceLT, Nat.reduceMul, Nat.reduceSub, Int.reduceEq, Int.reduceLT, Int.reduceLE, Int.reduceNeg, h, hN, hG, hT, l0, l1, l2, l3, l4, List.length_append, List.cons_append, List.set_cons_zero, List.set_cons_succ]
theorem s60r (n : Nat) (σ : Nat × Int) (hs : s.size ≤ 1000) (hp : σ.1 ≤ 8 * s.size) :
    call1 T (n + 6) (.fn 60) [pR, .ptr 2 0 0 0] (dF b0 s σ (fr k a d q o c m e t u v x) tl es) = some (.tup [], dF b0 s (rdT s σ).2 (fr k a d q o c m e t u v (rdT s σ).1) tl es) := by
  refine call_in e60 (by rfl) ?_
  have h : ∀ tl es, call1 T (n + 5) (.fn 82) [pR, .ptr 2 0 0 11] (dF b0 s σ (fr k a d q o c m e t u v x) tl es) = some (.tup [], dF b0 s (rdT s σ).2 (fr k a d q o c m e t u v (rdT s σ).1) tl es) :=
    fun tl es => s82r b0 tl es s n (fr k a d q o c m e t u v x) 11 σ (by simp) hs hp
  have hG : ∀ x : SBlk, (tl ++ [x])[tl.length]? = some x := fun x => by rw [List.getElem?_append_right (Nat.le_refl _), Nat.sub_self]; rfl
  have hT : ∀ x : SBlk, (tl ++ [x]).take tl.length = tl := fun x => by simp
  have hN : decide (max 3 (max 2 0) ≤ tl.length + 1 + 1 + 1) = true := decide_eq_true (by omega)
  have l0 : ∀ a : Nat, decide (0 ≤ a) = true := fun a => decide_eq_true (by omega)
  have l1 : decide (tl.length + 1 + 1 + 1 < tl.length + 1 + 1 + 1 + 1) = true := decide_eq_true (by omega)
  have l2 : decide (2 < tl.length + 1 + 1 + 1 + 1) = true := decide_eq_true (by omega)
  have l3 : decide (tl.length + 1 + 1 + 1 ≤ tl.length + 1 + 1 + 1 + 1) = true := decide_eq_true (by omega)
  have l4 : decide (tl.length ≤ tl.length + 1) = true := decide_eq_true (by omega)
  simp only [c60, go_sem, Int.cast_ofNat_Int, Int.reduceToNat, Bool.true_xor, Bool.false_xor, Bool.xor_true, Bool.xor_false, Nat.reduceAdd, Nat.reduceBEq, Nat.reduceLeDiff, Nat.reduceLT, Nat.reduceMul, Nat.reduceSub, Int.reduceEq, Int.reduceLT, Int.reduceLE, Int.reduceNeg, h, hN, hG, hT, l0, l1, l2, l3, l4, List.length_append, List.cons_append, List.set_cons_zero, List.set_cons_succ]
theorem s57r (n : Nat) (σ : Nat × Int) (hs : s.size ≤ 1000) (hp : σ.1 ≤ 8 * s.size) :
    call1 T (n + 6) (.fn 57) [pR, .ptr 2 0 0 0] (dF b0 s σ (fr k a d q o c m e t u v x) tl es) = some (.tup [], dF b0 s (rdT s (rdU s 16 (rdU s 8 σ).2).2).2 (fr k a d q o ((rdU s 8 σ).1 : Nat) ((rdU s 16 (rdU s 8 σ).2).1 : Nat) e t u v (rdT s (rdU s 16 (rdU s 8 σ).2).2).1) tl es) := by
  refine call_in e57 (by rfl) ?_
  have h0 : ∀ tl es, call1 T (n + 5) (.fn 61) [pR, .int .i64 8, .ptr 2 0 0 5] (dF b0 s σ (fr k a d q o c m e t u v x) tl es) = some (.tup [], dF b0 s (rdU s 8 σ).2 (fr k a d q o ((rdU s 8 σ).1 : Nat) m e t u v x) tl es) :=
    fun tl es => s61r b0 tl es s (n + 1) (fr k a d q o c m e t u v x) 8 5 σ (by simp) hs (hp) (by omega) (by omega)
  have h1 : ∀ tl es, call1 T (n + 5) (.fn 61) [pR, .int .i64 16, .ptr 2 0 0 6] (dF b0 s (rdU s 8 σ).2 (fr k a d q o ((rdU s 8 σ).1 : Nat) m e t u v x) tl es) = some (.tup [], dF b0 s (rdU s 16 (rdU s 8 σ).2).2 (fr k a d q o ((rdU s 8 σ).1 : Nat) ((rdU s 16 (rdU s 8 σ).2).1 : Nat) e t u v x) tl es) :=
    fun tl es => s61r b0 tl es s (n + 1) (fr k a d q o ((rdU s 8 σ).1 : Nat) m e t u v x) 16 6 (rdU s 8 σ).2 (by simp) hs (rdU_p s 8 σ (hp)) (by omega) (by omega)
  have ht : ∀ tl es, call1 T (n + 5) (.fn 82) [pR, .ptr 2 0 0 11] (dF b0 s (rdU s 16 (rdU s 8 σ).2).2 (fr k a d q o ((rdU s 8 σ).1 : Nat) ((rdU s 16 (rdU s 8 σ).2).1 : Nat) e t u v x) tl es) = some (.tup [], dF b0 s (rdT s (rdU s 16 (rdU s 8 σ).2).2).2 (fr k a d q o ((rdU s 8 σ).1 : Nat) ((rdU s 16 (rdU s 8 σ).2).1 : Nat) e t u v (rdT s (rdU s 16 (rdU s 8 σ).2).2).1) tl es) :=
    fun tl es => s82r b0 tl es s n (fr k a d q o ((rdU s 8 σ).1 : Nat) ((rdU s 16 (rdU s 8 σ).2).1 : Nat) e t u v x) 11 (rdU s 16 (rdU s 8 σ).2).2 (by simp) hs (rdU_p s 16 (rdU s 8 σ).2 (rdU_p s 8 σ (hp)))
  have hG : ∀ x : SBlk, (tl ++ [x])[tl.length]? = some x := fun x => by rw [List.getElem?_append_right (Nat.le_refl _), Nat.sub_self]; rfl
  have hT : ∀ x : SBlk, (tl ++ [x]).take tl.length = tl := fun x => by simp
  have hN : decide (max 3 (max 2 0) ≤ tl.length + 1 + 1 + 1) = true := decide_eq_true (by omega)
  have l0 : ∀ a : Nat, decide (0 ≤ a) = true := fun a => decide_eq_true (by omega)
  have l1 : decide (tl.length + 1 + 1 + 1 < tl.length + 1 + 1 + 1 + 1) = true := decide_eq_true (by omega)
  have l2 : decide (2 < tl.length + 1 + 1 + 1 + 1) = true := decide_eq_true (by omega)
  have l3 : decide (tl.length + 1 + 1 + 1 ≤ tl.length + 1 + 1 + 1 + 1) = true := decide_eq_true (by omega)
  have l4 : decide (tl.length ≤ tl.length + 1) = true := decide_eq_true (by omega)
  simp only [c57, go_sem, Int.cast_ofNat_Int, Int.reduceToNat, Bool.true_xor, Bool.false_xor, Bool.xor_true, Bool.xor_false, Nat.reduceAdd, Nat.reduceBEq, Nat.reduceLeDiff, Nat.reduceLT, Nat.reduceMul, Nat.reduceSub, Int.reduceEq, Int.reduceLT, Int.reduceLE, Int.reduceNeg, h0, h1, ht, hN, hG, hT, l0, l1, l2, l3, l4, List.length_append, List.cons_append, List.set_cons_zero, List.set_cons_succ]
theorem s59r (n : Nat) (σ : Nat × Int) (hs : s.size ≤ 1000) (hp : σ.1 ≤ 8 * s.size) :
    call1 T (n + 6) (.fn 59) [pR, .ptr 2 0 0 0] (dF b0 s σ (fr k a d q o c m e t u v x) tl es) = some (.tup [], dF b0 s (rdT s (rdU s 16 (rdU s 16 (rdU s 27 σ).2).2).2).2 (fr k a d q o c m e ((rdU s 27 σ).1 : Nat) ((rdU s 16 (rdU s 27 σ).2).1 : Nat) ((rdU s 16 (rdU s 16 (rdU s 27 σ).2).2).1 : Nat) (rdT s (rdU s 16 (rdU s 16 (rdU s 27 σ).2).2).2).1) tl es) := by
  refine call_in e59 (by rfl) ?_
  have h0 : ∀ tl es, call1 T (n + 5) (.fn 61) [pR, .int .i64 27, .ptr 2 0 0 8] (dF b0 s σ (fr k a d q o c m e t u v x) tl es) = some (.tup [], dF b0 s (rdU s 27 σ).2 (fr k a d q o c m e ((rdU s 27 σ).1 : Nat) u v x) tl es) :=
    fun tl es => s61r b0 tl es s (n + 1) (fr k a d q o c m e t u v x) 27 8 σ (by simp) hs (hp) (by omega) (by omega)
  have h1 : ∀ tl es, call1 T (n + 5) (.fn 61) [pR, .int .i64 16, .ptr 2 0 0 9] (dF b0 s (rdU s 27 σ).2 (fr k a d q o c m e ((rdU s 27 σ).1 : Nat) u v x) tl es) = some (.tup [], dF b0 s (rdU s 16 (rdU s 27 σ).2).2 (fr k a d q o c m e ((rdU s 27 σ).1 : Nat) ((rdU s 16 (rdU s 27 σ).2).1 : Nat) v x) tl es) :=
    fun tl es => s61r b0 tl es s (n + 1) (fr k a d q o c m e ((rdU s 27 σ).1 : Nat) u v x) 16 9 (rdU s 27 σ).2 (by simp) hs (rdU_p s 27 σ (hp)) (by omega) (by omega)
  have h2 : ∀ tl es, call1 T (n + 5) (.fn 61) [pR, .int .i64 16, .ptr 2 0 0 10] (dF b0 s (rdU s 16 (rdU s 27 σ).2).2 (fr k a d q o c m e ((rdU s 27 σ).1 : Nat) ((rdU s 16 (rdU s 27 σ).2).1 : Nat) v x) tl es) = some (.tup [], dF b0 s (rdU s 16 (rdU s 16 (rdU s 27 σ).2).2).2 (fr k a d q o c m e ((rdU s 27 σ).1 : Nat) ((rdU s 16 (rdU s 27 σ).2).1 : Nat) ((rdU s 16 (rdU s 16 (rdU s 27 σ).2).2).1 : Nat) x) tl es) :=
    fun tl es => s61r b0 tl es s (n + 1) (fr k a d q o c m e ((rdU s 27 σ).1 : Nat) ((rdU s 16 (rdU s 27 σ).2).1 : Nat) v x) 16 10 (rdU s 16 (rdU s 27 σ).2).2 (by simp) hs (rdU_p s 16 (rdU s 27 σ).2 (rdU_p s 27 σ (hp))) (by omega) (by omega)
  have ht : ∀ tl es, call1 T (n + 5) (.fn 82) [pR, .ptr 2 0 0 11] (dF b0 s (rdU s 16 (rdU s 16 (rdU s 27 σ).2).2).2 (fr k a d q o c m e ((rdU s 27 σ).1 : Nat) ((rdU s 16 (rdU s 27 σ).2).1 : Nat) ((rdU s 16 (rdU s 16 (rdU s 27 σ).2).2).1 : Nat) x) tl es) = some (.tup [], dF b0 s (rdT s (rdU s 16 (rdU s 16 (rdU s 27 σ).2).2).2).2 (fr k a d q o c m e ((rdU s 27 σ).1 : Nat) ((rdU s 16 (rdU s 27 σ).2).1 : Nat) ((rdU s 16 (rdU s 16 (rdU s 27 σ).2).2).1 : Nat) (rdT s (rdU s 16 (rdU s 16 (rdU s 27 σ).2).2).2).1) tl es) :=
    fun tl es => s82r b0 tl es s n (fr k a d q o c m e ((rdU s 27 σ).1 : Nat) ((rdU s 16 (rdU s 27 σ).2).1 : Nat) ((rdU s 16 (rdU s 16 (rdU s 27 σ).2).2).1 : Nat) x) 11 (rdU s 16 (rdU s 16 (rdU s 27 σ).2).2).2 (by simp) hs (rdU_p s 16 (rdU s 16 (rdU s 27 σ).2).2 (rdU_p s 16 (rdU s 27 σ).2 (rdU_p s 27 σ (hp))))
  have hG : ∀ x : SBlk, (tl ++ [x])[tl.length]? = some x := fun x => by rw [List.getElem?_append_right (Nat.le_refl _), Nat.sub_self]; rfl
  have hT : ∀ x : SBlk, (tl ++ [x]).take tl.length = tl := fun x => by simp
  have hN : decide (max 3 (max 2 0) ≤ tl.length + 1 + 1 + 1) = true := decide_eq_true (by omega)
  have l0 : ∀ a : Nat, decide (0 ≤ a) = true := fun a => decide_eq_true (by omega)
  have l1 : decide (tl.length + 1 + 1 + 1 < tl.length + 1 + 1 + 1 + 1) = true := decide_eq_true (by omega)
  have l2 : decide (2 < tl.length + 1 + 1 + 1 + 1) = true := decide_eq_true (by omega)
  have l3 : decide (tl.length + 1 + 1 + 1 ≤ tl.length + 1 + 1 + 1 + 1) = true := decide_eq_true (by omega)
  have l4 : decide (tl.length ≤ tl.length + 1) = true := decide_eq_true (by omega)
  simp only [c59, go_sem, Int.cast_ofNat_Int, Int.reduceToNat, Bool.true_xor, Bool.false_xor, Bool.xor_true, Bool.xor_false, Nat.reduceAdd, Nat.reduceBEq, Nat.reduceLeDiff, Nat.reduceLT, Nat.reduceMul, Nat.reduceSub, Int.reduceEq, Int.reduceLT, Int.reduceLE, Int.reduceNeg, h0, h1, h2, ht, hN, hG, hT, l0, l1, l2, l3, l4, List.length_append, List.cons_append, List.set_cons_zero, List.set_cons_succ]
end
end
end Go.Sh
namespace Go.Sh
set_option linter.unusedSectionVars false
set_option linter.unnecessarySimpa false
set_option linter.unusedVariables false
set_option linter.unusedSimpArgs false
set_option maxRecDepth 100000
set_option maxHeartbeats 4000000
section
variable (s : ByteArray) (σ : Nat × Int)
/-! What is read, field by field, and the state behind it. -/
def kD : Nat := (rdU s 3 σ).1
def g1 : Nat × Int := (rdU s 3 σ).2
def aD : Nat := (rdU s 5 (g1 s σ)).1
def g2 : Nat × Int := (rdU s 5 (g1 s σ)).2
def dD : Int := (tgR s (g2 s σ)).1
def g3 : Nat × Int := (tgR s (g2 s σ)).2
def qD : Nat := (rdU s 8 (g3 s σ)).1
def g4 : Nat × Int := (rdU s 8 (g3 s σ)).2
def oD : Nat := (rdU s 8 (g4 s σ)).1
def g5 : Nat × Int := (rdU s 8 (g4 s σ)).2
def c1D : Nat := (rdU s 8 (g5 s σ)).1
def m1D : Nat := (rdU s 16 (rdU s 8 (g5 s σ)).2).1
def x1D : ByteArray × (Nat × Int) := rdT s (rdU s 16 (rdU s 8 (g5 s σ)).2).2
def e2D : Int := sgI (rdU s 16 (g5 s σ)).1
def t3D : Nat := (rdU s 27 (g5 s σ)).1
def u3D : Nat := (rdU s 16 (rdU s 27 (g5 s σ)).2).1
def v3D : Nat := (rdU s 16 (rdU s 16 (rdU s 27 (g5 s σ)).2).2).1
def x3D : ByteArray × (Nat × Int) := rdT s (rdU s 16 (rdU s 16 (rdU s 27 (g5 s σ)).2).2).2
def x4D : ByteArray × (Nat × Int) := rdT s (g5 s σ)
def cD : Int := if kD s σ = 1 then (c1D s σ : Int) else 0
def mD : Int := if kD s σ = 1 then (m1D s σ : Int) else 0
def eD : Int := if kD s σ = 2 then e2D s σ else 0
def tD : Int := if kD s σ = 3 then (t3D s σ : Int) else 0
def uD : Int := if kD s σ = 3 then (u3D s σ : Int) else 0
def vD : Int := if kD s σ = 3 then (v3D s σ : Int) else 0
def xD : ByteArray := if kD s σ = 1 then (x1D s σ).1 else if kD s σ = 3 then (x3D s σ).1 else if kD s σ = 4 then (x4D s σ).1 else ⟨#[]⟩
def gD : Nat × Int := if kD s σ = 1 then (x1D s σ).2 else if kD s σ = 2 then (rdU s 16 (g5 s σ)).2 else if kD s σ = 3 then (x3D s σ).2 else if kD s σ = 4 then (x4D s σ).2 else g5 s σ
def deFr : List SV := fr (kD s σ) (aD s σ) (dD s σ) (qD s σ) (oD s σ) (cD s σ) (mD s σ) (eD s σ) (tD s σ) (uD s σ) (vD s σ) (xD s σ)
theorem g1_p (h : σ.1 ≤ 8 * s.size) : (g1 s σ).1 ≤ 8 * s.size := rdU_p s 3 σ h
theorem g2_p (h : σ.1 ≤ 8 * s.size) : (g2 s σ).1 ≤ 8 * s.size := rdU_p s 5 _ (g1_p s σ h)
theorem g3_p (h : σ.1 ≤ 8 * s.size) : (g3 s σ).1 ≤ 8 * s.size := tgR_p s _ (g2_p s σ h)
theorem g4_p (h : σ.1 ≤ 8 * s.size) : (g4 s σ).1 ≤ 8 * s.size := rdU_p s 8 _ (g3_p s σ h)
theorem g5_p (h : σ.1 ≤ 8 * s.size) : (g5 s σ).1 ≤ 8 * s.size := rdU_p s 8 _ (g4_p s σ h)
theorem gD_p (h : σ.1 ≤ 8 * s.size) : (gD s σ).1 ≤ 8 * s.size := by
  have h5 := g5_p s σ h
  unfold gD
  split
  · exact rdT_p s _ (rdU_p s 16 _ (rdU_p s 8 _ h5))
  · split
    · exact rdU_p s 16 _ h5
    · split
      · exact rdT_p s _ (rdU_p s 16 _ (rdU_p s 16 _ (rdU_p s 27 _ h5)))
      · split
        · exact rdT_p s _ h5
        · exact h5
theorem s27r (n : Nat) (b0 : SBlk) (es : List (Nat × Nat)) (hs : s.size ≤ 1000) (hp : σ.1 ≤ 8 * s.size) :
    call1 T (n + 7) (.fn 27) [pR, .ptr 2 0 0 0] (dF b0 s σ (fr 0 0 0 0 0 0 0 0 0 0 0 ⟨#[]⟩) [] es) = some (.bool (decide (kD s σ = 1 ∨ kD s σ = 2 ∨ kD s σ = 3 ∨ kD s σ = 4)), dF b0 s (gD s σ) (deFr s σ) [] es) := by
  refine call_in e27 (by rfl) ?_
  have q0 : ∀ tl es, call1 T (n + 6) (.fn 61) [pR, .int .i64 3, .ptr 2 0 0 0] (dF b0 s σ (fr 0 0 0 0 0 0 0 0 0 0 0 ⟨#[]⟩) tl es) = some (.tup [], dF b0 s (g1 s σ) (fr (kD s σ) 0 0 0 0 0 0 0 0 0 0 ⟨#[]⟩) tl es) :=
    fun tl es => s61r b0 tl es s (n + 2) (fr 0 0 0 0 0 0 0 0 0 0 0 ⟨#[]⟩) 3 0 σ (by simp) hs hp (by omega) (by omega)
  have q1 : ∀ tl es, call1 T (n + 6) (.fn 61) [pR, .int .i64 5, .ptr 2 0 0 1] (dF b0 s (g1 s σ) (fr (kD s σ) 0 0 0 0 0 0 0 0 0 0 ⟨#[]⟩) tl es) = some (.tup [], dF b0 s (g2 s σ) (fr (kD s σ) (aD s σ) 0 0 0 0 0 0 0 0 0 ⟨#[]⟩) tl es) :=
    fun tl es => s61r b0 tl es s (n + 2) (fr (kD s σ) 0 0 0 0 0 0 0 0 0 0 ⟨#[]⟩) 5 1 (g1 s σ) (by simp) hs (g1_p s σ hp) (by omega) (by omega)
  have q2 : ∀ tl es, call1 T (n + 6) (.fn 62) [pR, .ptr 2 0 0 2] (dF b0 s (g2 s σ) (fr (kD s σ) (aD s σ) 0 0 0 0 0 0 0 0 0 ⟨#[]⟩) tl es) = some (.tup [], dF b0 s (g3 s σ) (fr (kD s σ) (aD s σ) (dD s σ) 0 0 0 0 0 0 0 0 ⟨#[]⟩) tl es) :=
    fun tl es => s62r b0 tl es s (kD s σ) (aD s σ) 0 0 0 0 0 0 0 0 0 ⟨#[]⟩ (n + 1) (g2 s σ) hs (g2_p s σ hp)
  have q3 : ∀ tl es, call1 T (n + 6) (.fn 61) [pR, .int .i64 8, .ptr 2 0 0 3] (dF b0 s (g3 s σ) (fr (kD s σ) (aD s σ) (dD s σ) 0 0 0 0 0 0 0 0 ⟨#[]⟩) tl es) = some (.tup [], dF b0 s (g4 s σ) (fr (kD s σ) (aD s σ) (dD s σ) (qD s σ) 0 0 0 0 0 0 0 ⟨#[]⟩) tl es) :=
    fun tl es => s61r b0 tl es s (n + 2) (fr (kD s σ) (aD s σ) (dD s σ) 0 0 0 0 0 0 0 0 ⟨#[]⟩) 8 3 (g3 s σ) (by simp) hs (g3_p s σ hp) (by omega) (by omega)
  have q4 : ∀ tl es, call1 T (n + 6) (.fn 61) [pR, .int .i64 8, .ptr 2 0 0 4] (dF b0 s (g4 s σ) (fr (kD s σ) (aD s σ) (dD s σ) (qD s σ) 0 0 0 0 0 0 0 ⟨#[]⟩) tl es) = some (.tup [], dF b0 s (g5 s σ) (fr (kD s σ) (aD s σ) (dD s σ) (qD s σ) (oD s σ) 0 0 0 0 0 0 ⟨#[]⟩) tl es) :=
    fun tl es => s61r b0 tl es s (n + 2) (fr (kD s σ) (aD s σ) (dD s σ) (qD s σ) 0 0 0 0 0 0 0 ⟨#[]⟩) 8 4 (g4 s σ) (by simp) hs (g4_p s σ hp) (by omega) (by omega)
  have h5 := g5_p s σ hp
  have hlen : ∀ (x y z w1 w2 : SBlk), [x, y, z, w1, w2].length = 5 := fun _ _ _ _ _ => rfl
  unfold deFr cD mD eD tD uD vD xD gD
  by_cases k1 : kD s σ = 1
  · have qb : ∀ tl es, call1 T (n + 6) (.fn 57) [pR, .ptr 2 0 0 0] (dF b0 s (g5 s σ) (fr (1 : Int) (aD s σ) (dD s σ) (qD s σ) (oD s σ) 0 0 0 0 0 0 ⟨#[]⟩) tl es) = some (.tup [], dF b0 s (x1D s σ).2 (fr (1 : Int) (aD s σ) (dD s σ) (qD s σ) (oD s σ) (c1D s σ) (m1D s σ) 0 0 0 0 (x1D s σ).1) tl es) :=
      fun tl es => s57r b0 tl es s 1 (aD s σ) (dD s σ) (qD s σ) (oD s σ) 0 0 0 0 0 0 ⟨#[]⟩ n (g5 s σ) hs h5
    simp only [k1, Int.natCast_one, Int.cast_ofNat_Int] at q0 q1 q2 q3 q4 ⊢
    skip
    simp only [c27, go_sem, Int.cast_ofNat_Int, Int.reduceToNat, Bool.true_xor, Bool.false_xor, Bool.xor_true, Bool.xor_false, Nat.reduceAdd, Nat.reduceBEq, Nat.reduceLeDiff, Nat.reduceLT, Nat.reduceMul, Nat.reduceSub, Int.reduceEq, Int.reduceLT, Int.reduceLE, Int.reduceNeg, q0, q1, q2, q3, q4, qb, Nat.reduceEqDiff, if_true, if_false, decide_true, or_true, true_or, or_self, or_false, false_or, reduceCtorEq]
  · by_cases k2 : kD s σ = 2
    · have qb : ∀ tl es, call1 T (n + 6) (.fn 58) [pR, .ptr 2 0 0 0] (dF b0 s (g5 s σ) (fr (2 : Int) (aD s σ) (dD s σ) (qD s σ) (oD s σ) 0 0 0 0 0 0 ⟨#[]⟩) tl es) = some (.tup [], dF b0 s (rdU s 16 (g5 s σ)).2 (fr (2 : Int) (aD s σ) (dD s σ) (qD s σ) (oD s σ) 0 0 (e2D s σ) 0 0 0 ⟨#[]⟩) tl es) :=
        fun tl es => s58r b0 tl es s 2 (aD s σ) (dD s σ) (qD s σ) (oD s σ) 0 0 0 0 0 0 ⟨#[]⟩ (n + 2) (g5 s σ) hs h5
      simp only [k2, Int.natCast_one, Int.cast_ofNat_Int] at q0 q1 q2 q3 q4 ⊢
      skip
      simp only [c27, go_sem, Int.cast_ofNat_Int, Int.reduceToNat, Bool.true_xor, Bool.false_xor, Bool.xor_true, Bool.xor_false, Nat.reduceAdd, Nat.reduceBEq, Nat.reduceLeDiff, Nat.reduceLT, Nat.reduceMul, Nat.reduceSub, Int.reduceEq, Int.reduceLT, Int.reduceLE, Int.reduceNeg, q0, q1, q2, q3, q4, qb, Nat.reduceEqDiff, if_true, if_false, decide_true, or_true, true_or, or_self, or_false, false_or, reduceCtorEq]
    · by_cases k3 : kD s σ = 3
      · have qb : ∀ tl es, call1 T (n + 6) (.fn 59) [pR, .ptr 2 0 0 0] (dF b0 s (g5 s σ) (fr (3 : Int) (aD s σ) (dD s σ) (qD s σ) (oD s σ) 0 0 0 0 0 0 ⟨#[]⟩) tl es) = some (.tup [], dF b0 s (x3D s σ).2 (fr (3 : Int) (aD s σ) (dD s σ) (qD s σ) (oD s σ) 0 0 0 (t3D s σ) (u3D s σ) (v3D s σ) (x3D s σ).1) tl es) :=
          fun tl es => s59r b0 tl es s 3 (aD s σ) (dD s σ) (qD s σ) (oD s σ) 0 0 0 0 0 0 ⟨#[]⟩ n (g5 s σ) hs h5
        simp only [k3, Int.natCast_one, Int.cast_ofNat_Int] at q0 q1 q2 q3 q4 ⊢
        skip
        simp only [c27, go_sem, Int.cast_ofNat_Int, Int.reduceToNat, Bool.true_xor, Bool.false_xor, Bool.xor_true, Bool.xor_false, Nat.reduceAdd, Nat.reduceBEq, Nat.reduceLeDiff, Nat.reduceLT, Nat.reduceMul, Nat.reduceSub, Int.reduceEq, Int.reduceLT, Int.reduceLE, Int.reduceNeg, q0, q1, q2, q3, q4, qb, Nat.reduceEqDiff, if_true, if_false, decide_true, or_true, true_or, or_self, or_false, false_or, reduceCtorEq]
      · by_cases k4 : kD s σ = 4
        · have qb : ∀ tl es, call1 T (n + 6) (.fn 60) [pR, .ptr 2 0 0 0] (dF b0 s (g5 s σ) (fr (4 : Int) (aD s σ) (dD s σ) (qD s σ) (oD s σ) 0 0 0 0 0 0 ⟨#[]⟩) tl es) = some (.tup [], dF b0 s (x4D s σ).2 (fr (4 : Int) (aD s σ) (dD s σ) (qD s σ) (oD s σ) 0 0 0 0 0 0 (x4D s σ).1) tl es) :=
            fun tl es => s60r b0 tl es s 4 (aD s σ) (dD s σ) (qD s σ) (oD s σ) 0 0 0 0 0 0 ⟨#[]⟩ n (g5 s σ) hs h5
          simp only [k4, Int.natCast_one, Int.cast_ofNat_Int] at q0 q1 q2 q3 q4 ⊢
          skip
          simp only [c27, go_sem, Int.cast_ofNat_Int, Int.reduceToNat, Bool.true_xor, Bool.false_xor, Bool.xor_true, Bool.xor_false, Nat.reduceAdd, Nat.reduceBEq, Nat.reduceLeDiff, Nat.reduceLT, Nat.reduceMul, Nat.reduceSub, Int.reduceEq, Int.reduceLT, Int.reduceLE, Int.reduceNeg, q0, q1, q2, q3, q4, qb, Nat.reduceEqDiff, if_true, if_false, decide_true, or_true, true_or, or_self, or_false, false_or, reduceCtorEq]
        · have j1 : decide (((kD s σ : Nat) : Int) = 1) = false := decide_eq_false (by omega)
          have j2 : decide (((kD s σ : Nat) : Int) = 2) = false := decide_eq_false (by omega)
          have j3 : decide (((kD s σ : Nat) : Int) = 3) = false := decide_eq_false (by omega)
          have j4 : decide (((kD s σ : Nat) : Int) = 4) = false := decide_eq_false (by omega)
          have i1 : decide (1 = ((kD s σ : Nat) : Int)) = false := decide_eq_false (by omega)
          have i2 : decide (2 = ((kD s σ : Nat) : Int)) = false := decide_eq_false (by omega)
          have i3 : decide (3 = ((kD s σ : Nat) : Int)) = false := decide_eq_false (by omega)
          have i4 : decide (4 = ((kD s σ : Nat) : Int)) = false := decide_eq_false (by omega)
          have b1 : (((kD s σ : Nat) : Int) == 1) = false := by simpa using j1
          have b2 : (((kD s σ : Nat) : Int) == 2) = false := by simpa using j2
          have b3 : (((kD s σ : Nat) : Int) == 3) = false := by simpa using j3
          have b4 : (((kD s σ : Nat) : Int) == 4) = false := by simpa using j4
          rw [decide_eq_false (show ¬ (kD s σ = 1 ∨ kD s σ = 2 ∨ kD s σ = 3 ∨ kD s σ = 4) by omega), if_neg k1, if_neg k1, if_neg k2, if_neg k3, if_neg k3, if_neg k3, if_neg k1, if_neg k3, if_neg k4, if_neg k1, if_neg k2, if_neg k3, if_neg k4]
          simp only [c27, go_sem, Int.cast_ofNat_Int, Int.reduceToNat, Bool.true_xor, Bool.false_xor, Bool.xor_true, Bool.xor_false, Nat.reduceAdd, Nat.reduceBEq, Nat.reduceLeDiff, Nat.reduceLT, Nat.reduceMul, Nat.reduceSub, Int.reduceEq, Int.reduceLT, Int.reduceLE, Int.reduceNeg, q0, q1, q2, q3, q4, j1, j2, j3, j4, i1, i2, i3, i4, b1, b2, b3, b4]
end
end Go.Sh
namespace Go.Sh
set_option linter.unusedSectionVars false
set_option linter.unnecessarySimpa false
set_option linter.unusedVariables false
set_option linter.unusedSimpArgs false
set_option maxRecDepth 100000
set_option maxHeartbeats 4000000
theorem s41 (n : Nat) (es : List (Nat × Nat)) (b0 : SBlk) (s : ByteArray) (hs : s.size ≤ 1000) : call1 T (n + 1) (.kfn 41) [.str s] ⟨[b0], es, 0⟩ = some (.ptr 1 0 0 0, ⟨[b0, .box [.str s, .int .i64 0, .int .i64 0]], es, 0⟩) := by
  refine kcall_in e41 ?_
  have x : decide ((65536 : Int) < (s.size : Int)) = false := decide_eq_false (by omega)
  simp only [c41, go_sem, Int.cast_ofNat_Int, Int.reduceToNat, Bool.true_xor, Bool.false_xor, Bool.xor_true, Bool.xor_false, Nat.reduceAdd, Nat.reduceBEq, Nat.reduceLeDiff, Nat.reduceLT, Nat.reduceMul, Nat.reduceSub, Int.reduceEq, Int.reduceLT, Int.reduceLE, Int.reduceNeg, x]
/-- What closing says. -/
def clV (s : ByteArray) (σ : Nat × Int) : Int := if σ.2 = 0 then (if 8 ≤ 8 * s.size - σ.1 then 10 else if rdN s σ.1 (8 * s.size - σ.1) = 0 then 0 else 10) else σ.2
theorem s69 (n : Nat) (es : List (Nat × Nat)) (b0 b2 : SBlk) (s : ByteArray) (p : Nat) (hs : s.size ≤ 1000) (hp : p ≤ 8 * s.size) (h8 : ¬ 8 ≤ 8 * s.size - p) :
    call1 T (n + 2) (.fn 69) [.ptr 3 0 0 0] ⟨[b0, rX s p 0, b2, .box [.ptr 1 0 0 0]], es, 0⟩ = some (.bool (!decide (rdN s p (8 * s.size - p) = 0)), ⟨[b0, rX s p 0, b2, .box [.ptr 1 0 0 0]], es, 0⟩) := by
  refine call_in e69 (by rfl) ?_
  have h71 : ∀ tl es, call1 T (n + 1) (.fn 71) [.ptr 1 0 0 0] (dH b0 s (p, 0) tl es) = some (.int .i64 ((8 * s.size - p : Nat) : Int), dH b0 s (p, 0) tl es) := fun tl es => s71 b0 tl es s n (p, 0) hs hp
  have h70 : ∀ es, call1 T (n + 1) (.fn 70) [.ptr 4 0 0 0, .int .i64 ((8 * s.size - p : Nat) : Int)] ⟨[b0, rX s p 0, b2, .box [.ptr 1 0 0 0], rX s p 0], es, 0⟩ = some (.int .u64 (rdN s p (8 * s.size - p)), ⟨[b0, rX s p 0, b2, .box [.ptr 1 0 0 0], rX s (p + (8 * s.size - p)) 0], es, 0⟩) :=
    fun es => s70 n [b0, rX s p 0, b2, .box [.ptr 1 0 0 0], rX s p 0] es 4 (8 * s.size - p) p 0 s rfl (by omega) (by omega) hs
  have hd : decide (((rdN s p (8 * s.size - p) : Nat) : Int) = 0) = decide (rdN s p (8 * s.size - p) = 0) := by rw [Bool.eq_iff_iff]; simp only [decide_eq_true_eq]; omega
  simp only [c69, go_sem, Int.cast_ofNat_Int, Int.reduceToNat, Bool.true_xor, Bool.false_xor, Bool.xor_true, Bool.xor_false, Nat.reduceAdd, Nat.reduceBEq, Nat.reduceLeDiff, Nat.reduceLT, Nat.reduceMul, Nat.reduceSub, Int.reduceEq, Int.reduceLT, Int.reduceLE, Int.reduceNeg, h71, h70, hd]
theorem s42 (n : Nat) (es : List (Nat × Nat)) (b0 b2 : SBlk) (s : ByteArray) (σ : Nat × Int) (hs : s.size ≤ 1000) (hp : σ.1 ≤ 8 * s.size) :
    call1 T (n + 3) (.fn 42) [.ptr 1 0 0 0] ⟨[b0, rX s σ.1 σ.2, b2], es, 0⟩ = some (.int .i64 (clV s σ), ⟨[b0, rX s σ.1 σ.2, b2], es, 0⟩) := by
  obtain ⟨p, er⟩ := σ
  refine call_in e42 (by rfl) ?_
  have hp : p ≤ 8 * s.size := hp
  unfold clV
  by_cases h1 : er = 0
  · subst h1
    rw [if_pos rfl]
    have h71 : ∀ tl es, call1 T (n + 2) (.fn 71) [.ptr 1 0 0 0] (dH b0 s (p, 0) tl es) = some (.int .i64 ((8 * s.size - p : Nat) : Int), dH b0 s (p, 0) tl es) := fun tl es => s71 b0 tl es s (n + 1) (p, 0) hs hp
    by_cases h8 : 8 ≤ 8 * s.size - p
    · rw [if_pos h8]
      have d8 : decide ((8 : Int) ≤ ((8 * s.size - p : Nat) : Int)) = true := decide_eq_true (by omega)
      simp only [c42, go_sem, Int.cast_ofNat_Int, Int.reduceToNat, Bool.true_xor, Bool.false_xor, Bool.xor_true, Bool.xor_false, Nat.reduceAdd, Nat.reduceBEq, Nat.reduceLeDiff, Nat.reduceLT, Nat.reduceMul, Nat.reduceSub, Int.reduceEq, Int.reduceLT, Int.reduceLE, Int.reduceNeg, h71, d8]
    · rw [if_neg h8]
      have d8 : decide ((8 : Int) ≤ ((8 * s.size - p : Nat) : Int)) = false := decide_eq_false (by omega)
      have h69 := fun es => s69 n es b0 b2 s p hs hp h8
      by_cases h0 : rdN s p (8 * s.size - p) = 0
      · rw [decide_eq_true h0] at h69
        rw [if_pos h0]
        simp only [c42, go_sem, Int.cast_ofNat_Int, Int.reduceToNat, Bool.true_xor, Bool.false_xor, Bool.xor_true, Bool.xor_false, Nat.reduceAdd, Nat.reduceBEq, Nat.reduceLeDiff, Nat.reduceLT, Nat.reduceMul, Nat.reduceSub, Int.reduceEq, Int.reduceLT, Int.reduceLE, Int.reduceNeg, h71, d8, h69]
      · rw [decide_eq_false h0] at h69
        rw [if_neg h0]
        simp only [c42, go_sem, Int.cast_ofNat_Int, Int.reduceToNat, Bool.true_xor, Bool.false_xor, Bool.xor_true, Bool.xor_false, Nat.reduceAdd, Nat.reduceBEq, Nat.reduceLeDiff, Nat.reduceLT, Nat.reduceMul, Nat.reduceSub, Int.reduceEq, Int.reduceLT, Int.reduceLE, Int.reduceNeg, h71, d8, h69]
  · have d : decide (er = 0) = false := decide_eq_false h1
    rw [if_neg h1]
    simp only [c42, go_sem, Int.cast_ofNat_Int, Int.reduceToNat, Bool.true_xor, Bool.false_xor, Bool.xor_true, Bool.xor_false, Nat.reduceAdd, Nat.reduceBEq, Nat.reduceLeDiff, Nat.reduceLT, Nat.reduceMul, Nat.reduceSub, Int.reduceEq, Int.reduceLT, Int.reduceLE, Int.reduceNeg, d]
end Go.Sh
namespace Go.Sh
set_option linter.unusedSectionVars false
set_option linter.unnecessarySimpa false
set_option linter.unusedVariables false
set_option linter.unusedSimpArgs false
set_option maxRecDepth 100000
set_option maxHeartbeats 4000000
/-! The check sum of what is received. -/
def sdW (y : ByteArray) : W16 := (BitVec.ofNat 16 ((y.data[y.size - 2]?).getD 0).toNat <<< 8) ||| BitVec.ofNat 16 ((y.data[y.size - 1]?).getD 0).toNat
def bdy (y : ByteArray) : ByteArray := y.extract 0 (y.size - 2)
def orI16 (a b : Int) : Int := IntKind.u16.wrap ((BitVec.ofInt 16 a ||| BitVec.ofInt 16 b).toNat)
@[go_sem high] theorem sb_or16 (a b : Int) : sbin .or (.int .u16 a) (.int .u16 b) = some (.int .u16 (orI16 a b)) := by
  simp only [sbin, beq_self_eq_true, cond_true]; rfl
theorem orW (A B : W16) : orI16 (A.toNat : Int) (B.toNat : Int) = ((A ||| B).toNat : Nat) := by
  unfold orI16
  rw [ofW, ofW, wrapW]
  have := (A ||| B).isLt
  omega
theorem bdy_size (y : ByteArray) : (bdy y).size = y.size - 2 := by
  unfold bdy; rw [ByteArray.size_extract]; omega
def sdV (y : ByteArray) : SV := if y.size < 2 then .tup [.int .u16 0, .int .i64 9] else .tup [.int .u16 ((crcN (bdy y) ^^^ sdW y).toNat : Nat), .int .i64 0]
theorem s68 (n : Nat) (H : Heap) (y : ByteArray) (hs : y.size ≤ 1000) : call1 T (n + 6) (.fn 68) [.str y] H = some (sdV y, H) := by
  refine call_pure e68 (by rfl) ?_
  unfold sdV
  by_cases h2 : y.size < 2
  · rw [if_pos h2]
    have w1 : w64 ((y.size : Int) - 2) = (y.size : Int) - 2 := w64_id (by omega) (by omega)
    have d1 : decide ((y.size : Int) - 2 < 0) = true := decide_eq_true (by omega)
    simp only [c68, heap0, go_sem, Int.cast_ofNat_Int, Int.reduceToNat, Bool.true_xor, Bool.false_xor, Bool.xor_true, Bool.xor_false, Nat.reduceAdd, Nat.reduceBEq, Nat.reduceLeDiff, Nat.reduceLT, Nat.reduceMul, Nat.reduceSub, Int.reduceEq, Int.reduceLT, Int.reduceLE, Int.reduceNeg, w1, d1]
  · rw [if_neg h2]
    obtain ⟨z, hz⟩ : ∃ z, y.size = z + 2 := ⟨y.size - 2, by omega⟩
    have w1 : w64 (((z + 2 : Nat) : Int) - 2) = (z : Int) := by rw [w64_id (by omega) (by omega)]; omega
    have w2 : w64 ((z : Int) + 1) = ((z + 1 : Nat) : Int) := by rw [w64_id (by omega) (by omega)]; omega
    have d1 : decide ((z : Int) < 0) = false := decide_eq_false (by omega)
    have d2 : decide ((z : Int) ≤ ((z + 2 : Nat) : Int)) = true := decide_eq_true (by omega)
    have d3 : decide ((z : Int) < ((z + 2 : Nat) : Int)) = true := decide_eq_true (by omega)
    have d4 : decide (((z + 1 : Nat) : Int) < ((z + 2 : Nat) : Int)) = true := decide_eq_true (by omega)
    have d5 : decide (z < z + 2) = true := decide_eq_true (by omega)
    have d6 : decide (z + 1 < z + 2) = true := decide_eq_true (by omega)
    have hb : y.extract 0 z = bdy y := by unfold bdy; rw [hz]; rfl
    have h56 := fun H => s56 n H (bdy y) (by rw [bdy_size]; omega)
    have hsz : y.data.size = z + 2 := hz
    obtain ⟨a, hA⟩ : ∃ a, y.data[z]? = some a := ⟨_, Array.getElem?_eq_getElem (by omega)⟩
    obtain ⟨b, hB⟩ : ∃ b, y.data[z + 1]? = some b := ⟨_, Array.getElem?_eq_getElem (by omega)⟩
    unfold sdW
    rw [hz, show z + 2 - 2 = z from rfl, show z + 2 - 1 = z + 1 from rfl, hA, hB, Option.getD_some, Option.getD_some]
    have hv := UInt8.toNat_lt a
    have hv2 := UInt8.toNat_lt b
    have e1 : IntKind.u16.wrap (a.toNat : Int) = ((BitVec.ofNat 16 a.toNat : W16).toNat : Nat) := by rw [wrapW, ← toW (by omega)]; omega
    have e2 : IntKind.u16.wrap (b.toNat : Int) = ((BitVec.ofNat 16 b.toNat : W16).toNat : Nat) := by rw [wrapW, ← toW (by omega)]; omega
    have s1 := shlW (BitVec.ofNat 16 a.toNat) 8 (by omega)
    simp only [c68, heap0, go_sem, Int.cast_ofNat_Int, Int.reduceToNat, Bool.true_xor, Bool.false_xor, Bool.xor_true, Bool.xor_false, Nat.reduceAdd, Nat.reduceBEq, Nat.reduceLeDiff, Nat.reduceLT, Nat.reduceMul, Nat.reduceSub, Int.reduceEq, Int.reduceLT, Int.reduceLE, Int.reduceNeg, hz, w1, w2, d1, d2, d3, d4, d5, d6, hb, h56, hA, hB, e1, e2, s1, orW, xorW, Int.toNat_natCast, Nat.add_lt_add_iff_left]
theorem s72 (n : Nat) (H : Heap) (y : ByteArray) (hs : y.size ≤ 1000) : call1 T (n + 4) (.fn 72) [.str y] H = some (sdV y, H) := by
  refine call_pure e72 (by rfl) ?_
  unfold sdV
  by_cases h2 : y.size < 2
  · rw [if_pos h2]
    have d1 : decide ((y.size : Int) < 2) = true := decide_eq_true (by omega)
    simp only [c72, heap0, go_sem, Int.cast_ofNat_Int, Int.reduceToNat, Bool.true_xor, Bool.false_xor, Bool.xor_true, Bool.xor_false, Nat.reduceAdd, Nat.reduceBEq, Nat.reduceLeDiff, Nat.reduceLT, Nat.reduceMul, Nat.reduceSub, Int.reduceEq, Int.reduceLT, Int.reduceLE, Int.reduceNeg, d1]
  · rw [if_neg h2]
    obtain ⟨z, hz⟩ : ∃ z, y.size = z + 2 := ⟨y.size - 2, by omega⟩
    have w1 : w64 (((z + 2 : Nat) : Int) - 2) = (z : Int) := by rw [w64_id (by omega) (by omega)]; omega
    have w2 : w64 (((z + 2 : Nat) : Int) - 1) = ((z + 1 : Nat) : Int) := by rw [w64_id (by omega) (by omega)]; omega
    have d1 : decide (((z + 2 : Nat) : Int) < 2) = false := decide_eq_false (by omega)
    have d2 : decide ((z : Int) ≤ ((z + 2 : Nat) : Int)) = true := decide_eq_true (by omega)
    have d5 : decide (z < z + 2) = true := decide_eq_true (by omega)
    have d6 : decide (z + 1 < z + 2) = true := decide_eq_true (by omega)
    have hb : y.extract 0 z = bdy y := by unfold bdy; rw [hz]; rfl
    have h56 := fun H => s66 n H (bdy y) (by rw [bdy_size]; omega)
    have hsz : y.data.size = z + 2 := hz
    obtain ⟨a, hA⟩ : ∃ a, y.data[z]? = some a := ⟨_, Array.getElem?_eq_getElem (by omega)⟩
    obtain ⟨b, hB⟩ : ∃ b, y.data[z + 1]? = some b := ⟨_, Array.getElem?_eq_getElem (by omega)⟩
    unfold sdW
    rw [hz, show z + 2 - 2 = z from rfl, show z + 2 - 1 = z + 1 from rfl, hA, hB, Option.getD_some, Option.getD_some]
    have hv := UInt8.toNat_lt a
    have hv2 := UInt8.toNat_lt b
    have e1 : IntKind.u16.wrap (a.toNat : Int) = ((BitVec.ofNat 16 a.toNat : W16).toNat : Nat) := by rw [wrapW, ← toW (by omega)]; omega
    have e2 : IntKind.u16.wrap (b.toNat : Int) = ((BitVec.ofNat 16 b.toNat : W16).toNat : Nat) := by rw [wrapW, ← toW (by omega)]; omega
    have s1 := shlW (BitVec.ofNat 16 a.toNat) 8 (by omega)
    simp only [c72, heap0, go_sem, Int.cast_ofNat_Int, Int.reduceToNat, Bool.true_xor, Bool.false_xor, Bool.xor_true, Bool.xor_false, Nat.reduceAdd, Nat.reduceBEq, Nat.reduceLeDiff, Nat.reduceLT, Nat.reduceMul, Nat.reduceSub, Int.reduceEq, Int.reduceLT, Int.reduceLE, Int.reduceNeg, hz, w1, w2, d1, d2, d5, d6, hb, h56, hA, hB, e1, e2, s1, orW, xorW, Int.toNat_natCast]
def ckV (y : ByteArray) : SV := if y.size < 2 then .tup [.str ⟨#[]⟩, .int .i64 9] else if crcN (bdy y) = sdW y then .tup [.str (bdy y), .int .i64 0] else .tup [.str ⟨#[]⟩, .int .i64 10]
theorem xor_z (A B : W16) : decide ((((A ^^^ B).toNat : Nat) : Int) = 0) = decide (A = B) := by
  rw [Bool.eq_iff_iff]
  simp only [decide_eq_true_eq]
  constructor
  · intro h
    have h0 : A ^^^ B = 0#16 := by apply BitVec.eq_of_toNat_eq; rw [BitVec.toNat_ofNat]; omega
    exact BitVec.xor_eq_zero_iff.1 h0
  · intro h
    rw [BitVec.xor_eq_zero_iff.2 h]; rfl
theorem s40 (n : Nat) (H : Heap) (y : ByteArray) (hs : y.size ≤ 1000) : call1 T (n + 7) (.fn 40) [.str y] H = some (ckV y, H) := by
  refine call_pure e40 (by rfl) ?_
  have h := fun H => s68 n H y hs
  unfold sdV at h
  unfold ckV
  by_cases h2 : y.size < 2
  · rw [if_pos h2] at h ⊢
    simp only [c40, heap0, go_sem, Int.cast_ofNat_Int, Int.reduceToNat, Bool.true_xor, Bool.false_xor, Bool.xor_true, Bool.xor_false, Nat.reduceAdd, Nat.reduceBEq, Nat.reduceLeDiff, Nat.reduceLT, Nat.reduceMul, Nat.reduceSub, Int.reduceEq, Int.reduceLT, Int.reduceLE, Int.reduceNeg, h]
  · rw [if_neg h2] at h ⊢
    have w1 : w64 ((y.size : Int) - 2) = ((y.size - 2 : Nat) : Int) := by rw [w64_id (by omega) (by omega)]; omega
    have d2 : decide (((y.size - 2 : Nat) : Int) ≤ (y.size : Int)) = true := decide_eq_true (by omega)
    have d3 : decide (y.size - 2 ≤ y.size) = true := decide_eq_true (by omega)
    have hb : y.extract 0 (y.size - 2) = bdy y := rfl
    by_cases hc : crcN (bdy y) = sdW y
    · have hx := xor_z (crcN (bdy y)) (sdW y)
      rw [decide_eq_true hc] at hx
      rw [if_pos hc]
      simp only [c40, heap0, go_sem, Int.cast_ofNat_Int, Int.reduceToNat, Bool.true_xor, Bool.false_xor, Bool.xor_true, Bool.xor_false, Nat.reduceAdd, Nat.reduceBEq, Nat.reduceLeDiff, Nat.reduceLT, Nat.reduceMul, Nat.reduceSub, Int.reduceEq, Int.reduceLT, Int.reduceLE, Int.reduceNeg, h, hx, w1, d2, d3, hb, Int.toNat_natCast]
    · have hx := xor_z (crcN (bdy y)) (sdW y)
      rw [decide_eq_false hc] at hx
      rw [if_neg hc]
      simp only [c40, heap0, go_sem, Int.cast_ofNat_Int, Int.reduceToNat, Bool.true_xor, Bool.false_xor, Bool.xor_true, Bool.xor_false, Nat.reduceAdd, Nat.reduceBEq, Nat.reduceLeDiff, Nat.reduceLT, Nat.reduceMul, Nat.reduceSub, Int.reduceEq, Int.reduceLT, Int.reduceLE, Int.reduceNeg, h, hx]
theorem s43 (n : Nat) (H : Heap) (y : ByteArray) (hs : y.size ≤ 1000) : call1 T (n + 5) (.fn 43) [.str y] H = some (ckV y, H) := by
  refine call_pure e43 (by rfl) ?_
  have h := fun H => s72 n H y hs
  unfold sdV at h
  unfold ckV
  by_cases h2 : y.size < 2
  · rw [if_pos h2] at h ⊢
    simp only [c43, heap0, go_sem, Int.cast_ofNat_Int, Int.reduceToNat, Bool.true_xor, Bool.false_xor, Bool.xor_true, Bool.xor_false, Nat.reduceAdd, Nat.reduceBEq, Nat.reduceLeDiff, Nat.reduceLT, Nat.reduceMul, Nat.reduceSub, Int.reduceEq, Int.reduceLT, Int.reduceLE, Int.reduceNeg, h]
  · rw [if_neg h2] at h ⊢
    have w1 : w64 ((y.size : Int) - 2) = ((y.size - 2 : Nat) : Int) := by rw [w64_id (by omega) (by omega)]; omega
    have d2 : decide (((y.size - 2 : Nat) : Int) ≤ (y.size : Int)) = true := decide_eq_true (by omega)
    have d3 : decide (y.size - 2 ≤ y.size) = true := decide_eq_true (by omega)
    have hb : y.extract 0 (y.size - 2) = bdy y := rfl
    by_cases hc : crcN (bdy y) = sdW y
    · have hx := xor_z (crcN (bdy y)) (sdW y)
      rw [decide_eq_true hc] at hx
      rw [if_pos hc]
      simp only [c43, heap0, go_sem, Int.cast_ofNat_Int, Int.reduceToNat, Bool.true_xor, Bool.false_xor, Bool.xor_true, Bool.xor_false, Nat.reduceAdd, Nat.reduceBEq, Nat.reduceLeDiff, Nat.reduceLT, Nat.reduceMul, Nat.reduceSub, Int.reduceEq, Int.reduceLT, Int.reduceLE, Int.reduceNeg, h, hx, w1, d2, d3, hb, Int.toNat_natCast]
    · have hx := xor_z (crcN (bdy y)) (sdW y)
      rw [decide_eq_false hc] at hx
      rw [if_neg hc]
      simp only [c43, heap0, go_sem, Int.cast_ofNat_Int, Int.reduceToNat, Bool.true_xor, Bool.false_xor, Bool.xor_true, Bool.xor_false, Nat.reduceAdd, Nat.reduceBEq, Nat.reduceLeDiff, Nat.reduceLT, Nat.reduceMul, Nat.reduceSub, Int.reduceEq, Int.reduceLT, Int.reduceLE, Int.reduceNeg, h, hx]
end Go.Sh
namespace Go.Sh
set_option linter.unusedSectionVars false
set_option linter.unnecessarySimpa false
set_option linter.unusedVariables false
set_option linter.unusedSimpArgs false
set_option maxRecDepth 100000
set_option maxHeartbeats 4000000
abbrev fZ : List SV := fr 0 0 0 0 0 0 0 0 0 0 0 ⟨#[]⟩
def sD : Nat × Int := (0, 0)
/-- Whether a frame is read, and can be one. -/
def okD (s : ByteArray) : Bool := decide (clV s (gD s sD) = 0) && chB (kD s sD) (aD s sD) (dD s sD) (qD s sD) (oD s sD) (cD s sD) (mD s sD) (eD s sD) (tD s sD) (uD s sD) (vD s sD) (xD s sD)
def deV (y : ByteArray) : SV :=
  if 127 < y.size then .tup [.agg fZ, .int .i64 8] else if y.size < 2 then .tup [.agg fZ, .int .i64 9]
  else if crcN (bdy y) = sdW y then (bif okD (bdy y) then .tup [.agg (deFr (bdy y) sD), .int .i64 0] else .tup [.agg fZ, .int .i64 10]) else .tup [.agg fZ, .int .i64 10]
theorem chB_other {k s d q o c m e t u v : Int} {x : ByteArray} (h : ¬ (k = 1 ∨ k = 2 ∨ k = 3 ∨ k = 4)) : chB k s d q o c m e t u v x = false := by
  cases hc : chB k s d q o c m e t u v x with
  | false => rfl
  | true =>
    obtain ⟨_, _, _, _, _, hk⟩ := chB_k hc
    exfalso; apply h
    rcases hk with h | h | h | h
    · exact .inl h.1
    · exact .inr (.inl h.1)
    · exact .inr (.inr (.inl h.1))
    · exact .inr (.inr (.inr h))
theorem s22 (n : Nat) (H : Heap) (y : ByteArray) : call1 T (n + 8) (.fn 22) [.str y] H = some (deV y, H) := by
  refine call_pure e22 (by rfl) ?_
  unfold deV
  by_cases h1 : 127 < y.size
  · rw [if_pos h1]
    have d1 : decide ((127 : Int) < (y.size : Int)) = true := decide_eq_true (by omega)
    simp only [c22, heap0, go_sem, Int.cast_ofNat_Int, Int.reduceToNat, Bool.true_xor, Bool.false_xor, Bool.xor_true, Bool.xor_false, Nat.reduceAdd, Nat.reduceBEq, Nat.reduceLeDiff, Nat.reduceLT, Nat.reduceMul, Nat.reduceSub, Int.reduceEq, Int.reduceLT, Int.reduceLE, Int.reduceNeg, d1]
  · rw [if_neg h1]
    have d1 : decide ((127 : Int) < (y.size : Int)) = false := decide_eq_false (by omega)
    have h40 := fun H => s40 n H y (by omega)
    unfold ckV at h40
    by_cases h2 : y.size < 2
    · rw [if_pos h2] at h40 ⊢
      simp only [c22, heap0, go_sem, Int.cast_ofNat_Int, Int.reduceToNat, Bool.true_xor, Bool.false_xor, Bool.xor_true, Bool.xor_false, Nat.reduceAdd, Nat.reduceBEq, Nat.reduceLeDiff, Nat.reduceLT, Nat.reduceMul, Nat.reduceSub, Int.reduceEq, Int.reduceLT, Int.reduceLE, Int.reduceNeg, d1, h40]
    · rw [if_neg h2] at h40 ⊢
      by_cases hc : crcN (bdy y) = sdW y
      · rw [if_pos hc] at h40 ⊢
        have hs : (bdy y).size ≤ 1000 := by rw [bdy_size]; omega
        obtain ⟨s, hsd⟩ : ∃ s, bdy y = s := ⟨_, rfl⟩
        rw [hsd] at h40 hs ⊢
        have h41 := fun es b0 => s41 (n + 6) es b0 s hs
        have h27 : ∀ es b0, call1 T (n + 7) (.fn 27) [.agg [.nilPtr, .ptr 1 0 0 0], .ptr 2 0 0 0] ⟨[b0, .box [.str s, .int .i64 0, .int .i64 0], .box (fr 0 0 0 0 0 0 0 0 0 0 0 ⟨#[]⟩)], es, 0⟩ = some (.bool (decide (kD s sD = 1 ∨ kD s sD = 2 ∨ kD s sD = 3 ∨ kD s sD = 4)), ⟨[b0, rX s (gD s sD).1 (gD s sD).2, .box (deFr s sD)], es, 0⟩) :=
          fun es b0 => s27r s sD n b0 es hs (Nat.zero_le _)
        have h42 := fun es b0 b2 => s42 (n + 4) es b0 b2 s (gD s sD) hs (gD_p s sD (Nat.zero_le _))
        have h17 := fun H => s17 (n + 3) H (kD s sD) (aD s sD) (dD s sD) (qD s sD) (oD s sD) (cD s sD) (mD s sD) (eD s sD) (tD s sD) (uD s sD) (vD s sD) (xD s sD)
        have hch : ¬ (kD s sD = 1 ∨ kD s sD = 2 ∨ kD s sD = 3 ∨ kD s sD = 4) → okD s = false := fun h => by
          unfold okD
          rw [chB_other (by omega), Bool.and_false]
        have hok : okD s = (decide (clV s (gD s sD) = 0) && chB (kD s sD) (aD s sD) (dD s sD) (qD s sD) (oD s sD) (cD s sD) (mD s sD) (eD s sD) (tD s sD) (uD s sD) (vD s sD) (xD s sD)) := rfl
        obtain ⟨C, hC⟩ : ∃ C, chB (kD s sD) (aD s sD) (dD s sD) (qD s sD) (oD s sD) (cD s sD) (mD s sD) (eD s sD) (tD s sD) (uD s sD) (vD s sD) (xD s sD) = C := ⟨_, rfl⟩
        rw [hC] at h17 hok
        obtain ⟨V, hV⟩ : ∃ V, clV s (gD s sD) = V := ⟨_, rfl⟩
        rw [hV] at h42 hok
        obtain ⟨K, hK⟩ : ∃ K, decide (kD s sD = 1 ∨ kD s sD = 2 ∨ kD s sD = 3 ∨ kD s sD = 4) = K := ⟨_, rfl⟩
        rw [hK] at h27
        cases K with
        | false =>
          rw [hch (of_decide_eq_false hK)]
          simp only [c22, heap0, go_sem, Int.cast_ofNat_Int, Int.reduceToNat, Bool.true_xor, Bool.false_xor, Bool.xor_true, Bool.xor_false, Nat.reduceAdd, Nat.reduceBEq, Nat.reduceLeDiff, Nat.reduceLT, Nat.reduceMul, Nat.reduceSub, Int.reduceEq, Int.reduceLT, Int.reduceLE, Int.reduceNeg, d1, h40, h41, h27, deFr]
        | true =>
          cases hv : decide (V = 0) with
          | false =>
            rw [hv, Bool.false_and] at hok
            rw [hok]
            simp only [c22, heap0, go_sem, Int.cast_ofNat_Int, Int.reduceToNat, Bool.true_xor, Bool.false_xor, Bool.xor_true, Bool.xor_false, Nat.reduceAdd, Nat.reduceBEq, Nat.reduceLeDiff, Nat.reduceLT, Nat.reduceMul, Nat.reduceSub, Int.reduceEq, Int.reduceLT, Int.reduceLE, Int.reduceNeg, d1, h40, h41, h27, h42, hv, deFr]
          | true =>
            rw [hv, Bool.true_and] at hok
            rw [hok]
            unfold deFr at h27 ⊢
            cases C <;> simp only [c22, heap0, go_sem, Int.cast_ofNat_Int, Int.reduceToNat, Bool.true_xor, Bool.false_xor, Bool.xor_true, Bool.xor_false, Nat.reduceAdd, Nat.reduceBEq, Nat.reduceLeDiff, Nat.reduceLT, Nat.reduceMul, Nat.reduceSub, Int.reduceEq, Int.reduceLT, Int.reduceLE, Int.reduceNeg, d1, h40, h41, h27, h42, hv, h17]
      · rw [if_neg hc] at h40 ⊢
        simp only [c22, heap0, go_sem, Int.cast_ofNat_Int, Int.reduceToNat, Bool.true_xor, Bool.false_xor, Bool.xor_true, Bool.xor_false, Nat.reduceAdd, Nat.reduceBEq, Nat.reduceLeDiff, Nat.reduceLT, Nat.reduceMul, Nat.reduceSub, Int.reduceEq, Int.reduceLT, Int.reduceLE, Int.reduceNeg, d1, h40]
end Go.Sh
namespace Go.Sh
set_option linter.unusedSectionVars false
set_option linter.unnecessarySimpa false
set_option linter.unusedVariables false
set_option linter.unusedSimpArgs false
set_option maxRecDepth 100000
set_option maxHeartbeats 4000000
/-! Texts and rows of bits: reading finds what was written, and nothing else. -/
def sl (s : ByteArray) (p w : Nat) : List Bool := (List.range w).map fun i => decide (bA s (p + i) = 1)
theorem sl_len (s : ByteArray) (p w : Nat) : (sl s p w).length = w := by simp [sl]
theorem sl_get (s : ByteArray) (p w : Nat) {i : Nat} (h : i < w) : (sl s p w)[i]? = some (decide (bA s (p + i) = 1)) := by simp [sl, h]
theorem sl_add (s : ByteArray) (p a b : Nat) : sl s p (a + b) = sl s p a ++ sl s (p + a) b := by
  simp only [sl, List.range_add, List.map_append, List.map_map, Nat.add_assoc]
  rfl
theorem bits_get (w v : Nat) {i : Nat} (h : i < w) : (bits w v)[i]? = some (v.testBit (w - 1 - i)) := by simp [bits, h]
theorem rdN_bit (s : ByteArray) (p w : Nat) : ∀ i, i < w → (rdN s p w).testBit (w - 1 - i) = decide (bA s (p + i) = 1) := by
  induction w with
  | zero => intro i h; omega
  | succ w ih =>
    intro i h
    have hb := bA_le s (p + w)
    rw [rdN]
    by_cases hi : i = w
    · subst hi
      rw [show i + 1 - 1 - i = 0 by omega, Nat.testBit_zero]
      congr 1
      apply propext
      omega
    · rw [show w + 1 - 1 - i = (w - 1 - i) + 1 by omega, Nat.testBit_succ, show (2 * rdN s p w + bA s (p + w)) / 2 = rdN s p w by omega]
      exact ih i (by omega)
theorem bits_rdN (s : ByteArray) (p w : Nat) : bits w (rdN s p w) = sl s p w := by
  apply List.ext_getElem?
  intro i
  by_cases h : i < w
  · rw [bits_get w _ h, sl_get s p w h, rdN_bit s p w i h]
  · rw [List.getElem?_eq_none (by rw [bits_len]; omega), List.getElem?_eq_none (by rw [sl_len]; omega)]
theorem bits_inj {w a b : Nat} (ha : a < 2 ^ w) (hb : b < 2 ^ w) (h : bits w a = bits w b) : a = b := by
  apply Nat.eq_of_testBit_eq
  intro i
  by_cases hi : i < w
  · have h1 := bits_get w a (i := w - 1 - i) (by omega)
    have h2 := bits_get w b (i := w - 1 - i) (by omega)
    rw [h, h2] at h1
    simp only [Option.some.injEq] at h1
    rw [show w - 1 - (w - 1 - i) = i by omega] at h1
    exact h1.symm
  · have hp : 2 ^ w ≤ 2 ^ i := Nat.pow_le_pow_right (by decide) (by omega)
    rw [Nat.testBit_lt_two_pow (by omega), Nat.testBit_lt_two_pow (by omega)]
theorem bits_mod (w v : Nat) : bits w (v % 2 ^ w) = bits w v := by
  apply List.ext_getElem?
  intro i
  by_cases h : i < w
  · rw [bits_get w _ h, bits_get w _ h, Nat.testBit_mod_two_pow, decide_eq_true (show w - 1 - i < w by omega), Bool.true_and]
  · rw [List.getElem?_eq_none (by rw [bits_len]; omega), List.getElem?_eq_none (by rw [bits_len]; omega)]
/-- What is read where a number was written. -/
theorem rdN_of {s : ByteArray} {p w v : Nat} (h : sl s p w = bits w v) : rdN s p w = v % 2 ^ w :=
  bits_inj (rdN_lt s p w) (Nat.mod_lt _ (Nat.pow_pos (by decide))) (by rw [bits_rdN, h, bits_mod])
theorem byte_get (a b c d e f g h : Nat) (ha : a ≤ 1) (hb : b ≤ 1) (hc : c ≤ 1) (hd : d ≤ 1) (he : e ≤ 1) (hf : f ≤ 1) (hg : g ≤ 1) (hh : h ≤ 1) :
    let n := a * 128 + b * 64 + c * 32 + d * 16 + e * 8 + f * 4 + g * 2 + h
    n / 128 % 2 = a ∧ n / 64 % 2 = b ∧ n / 32 % 2 = c ∧ n / 16 % 2 = d ∧ n / 8 % 2 = e ∧ n / 4 % 2 = f ∧ n / 2 % 2 = g ∧ n / 1 % 2 = h := by
  intro n
  refine ⟨?_, ?_, ?_, ?_, ?_, ?_, ?_, ?_⟩ <;> omega
theorem byteN_bit (bs : List Bool) (i : Nat) : byteN bs (i / 8) / 2 ^ (7 - i % 8) % 2 = bitN bs i := by
  have h := byte_get (bitN bs (8 * (i / 8))) (bitN bs (8 * (i / 8) + 1)) (bitN bs (8 * (i / 8) + 2)) (bitN bs (8 * (i / 8) + 3)) (bitN bs (8 * (i / 8) + 4)) (bitN bs (8 * (i / 8) + 5)) (bitN bs (8 * (i / 8) + 6)) (bitN bs (8 * (i / 8) + 7))
    (bitN_le _ _) (bitN_le _ _) (bitN_le _ _) (bitN_le _ _) (bitN_le _ _) (bitN_le _ _) (bitN_le _ _) (bitN_le _ _)
  obtain ⟨h0, h1, h2, h3, h4, h5, h6, h7⟩ := h
  have hi : i = 8 * (i / 8) + i % 8 := by omega
  unfold byteN
  rcases m8 i with h | h | h | h | h | h | h | h <;> rw [h] at hi ⊢ <;> conv => rhs; rw [hi]
  · exact h0
  · exact h1
  · exact h2
  · exact h3
  · exact h4
  · exact h5
  · exact h6
  · exact h7
theorem pkB_get (bs : List Bool) (j : Nat) : ((pkB bs).data[j]?).getD 0 = UInt8.ofNat (byteN bs j) := by
  by_cases h : j < nb bs.length
  · simp [pkB, h]
  · have hz : byteN bs j = 0 := by
      have z : ∀ k, bitN bs (8 * j + k) = 0 := fun k => bitN_ge (by unfold nb at h; omega)
      unfold byteN
      rw [z 1, z 2, z 3, z 4, z 5, z 6, z 7, show bitN bs (8 * j) = 0 from z 0]
    rw [hz, Array.getElem?_eq_none (by show (pkB bs).size ≤ j; rw [pkB_size]; omega)]
    rfl
theorem bA_pkB (bs : List Bool) (i : Nat) : bA (pkB bs) i = bitN bs i := by
  unfold bA
  rw [pkB_get, ofNat_toNat (byteN_lt bs _), byteN_bit]
theorem bt_one (b : Bool) : decide (bt b = 1) = b := by cases b <;> rfl
theorem sl_pkB (bs : List Bool) : sl (pkB bs) 0 bs.length = bs := by
  apply List.ext_getElem?
  intro i
  by_cases h : i < bs.length
  · rw [sl_get _ _ _ h, Nat.zero_add, bA_pkB, bitN, List.getElem?_eq_getElem h, Option.getD_some, bt_one]
  · rw [List.getElem?_eq_none (by rw [sl_len]; omega), List.getElem?_eq_none (by omega)]
theorem byte_sum : ∀ b : Fin 256, b.val / 2 ^ 7 % 2 * 128 + b.val / 2 ^ 6 % 2 * 64 + b.val / 2 ^ 5 % 2 * 32 + b.val / 2 ^ 4 % 2 * 16 + b.val / 2 ^ 3 % 2 * 8 + b.val / 2 ^ 2 % 2 * 4 + b.val / 2 ^ 1 % 2 * 2 + b.val / 2 ^ 0 % 2 = b.val := by decide +kernel
theorem rdN_zero {s : ByteArray} {p w : Nat} (h : rdN s p w = 0) : ∀ i, i < w → bA s (p + i) = 0 := by
  intro i hi
  have h1 := rdN_bit s p w i hi
  rw [h, Nat.zero_testBit] at h1
  have := of_decide_eq_false h1.symm
  have := bA_le s (p + i)
  omega
theorem rdN_zero' {s : ByteArray} {p w : Nat} (h : ∀ i, i < w → bA s (p + i) = 0) : rdN s p w = 0 := by
  induction w with
  | zero => rfl
  | succ w ih => rw [rdN, ih (fun i hi => h i (by omega)), h w (by omega)]
/-- A text whose last bits are not set is that of its bits. -/
theorem pkB_sl {s : ByteArray} {P : Nat} (h1 : P ≤ 8 * s.size) (h2 : 8 * s.size - P < 8) (h3 : rdN s P (8 * s.size - P) = 0) : pkB (sl s 0 P) = s := by
  have hb : ∀ i, i < 8 * s.size → bitN (sl s 0 P) i = bA s i := by
    intro i hi
    by_cases h : i < P
    · unfold bitN
      rw [sl_get _ _ _ h, Nat.zero_add, Option.getD_some]
      have := bA_le s i
      by_cases h0 : bA s i = 1
      · rw [decide_eq_true h0, h0]; rfl
      · rw [decide_eq_false h0, show bA s i = 0 by omega]; rfl
    · rw [bitN_ge (by rw [sl_len]; omega)]
      have := rdN_zero h3 (i - P) (by omega)
      rw [show P + (i - P) = i by omega] at this
      exact this.symm
  have hn : nb (sl s 0 P).length = s.size := by rw [sl_len]; unfold nb; omega
  have hj : ∀ j (h : j < s.data.size), UInt8.ofNat (byteN (sl s 0 P) j) = s.data[j] := by
    intro j h
    have h' : j < s.size := h
    have hs : byteN (sl s 0 P) j = s.data[j].toNat := by
      have hd : s.data[j]? = some s.data[j] := Array.getElem?_eq_getElem h
      have e : ∀ r, r < 8 → bitN (sl s 0 P) (8 * j + r) = s.data[j].toNat / 2 ^ (7 - r) % 2 := fun r hr => by
        rw [hb _ (by omega), bA, show (8 * j + r) / 8 = j by omega, show (8 * j + r) % 8 = r by omega, hd, Option.getD_some]
      unfold byteN
      rw [e 1 (by omega), e 2 (by omega), e 3 (by omega), e 4 (by omega), e 5 (by omega), e 6 (by omega), e 7 (by omega), show bitN (sl s 0 P) (8 * j) = _ from e 0 (by omega)]
      exact byte_sum ⟨_, UInt8.toNat_lt s.data[j]⟩
    rw [hs, UInt8.ofNat_toNat]
  have hd : (pkB (sl s 0 P)).data = s.data := by
    apply Array.ext
    · show (pkB (sl s 0 P)).size = s.size
      rw [pkB_size, hn]
    · intro j q1 q2
      rw [← hj j q2]
      simp [pkB]
  cases s with
  | mk d => exact congrArg ByteArray.mk hd
/-- The bytes that are read, as bits. -/
theorem txB_rdX (s : ByteArray) (p m : Nat) : ∀ i, i ≤ m → txB (rdX s p m) i = sl s p (8 * i)
  | 0, _ => rfl
  | i + 1, h => by
    have hd : ((rdX s p m).data[i]?).getD 0 = UInt8.ofNat (rdN s (p + 8 * i) 8) := by simp [rdX, show i < m by omega]
    rw [txB, txB_rdX s p m i (by omega), hd, ofNat_toNat (rdN_lt s _ 8), bits_rdN, ← sl_add]
    rfl
theorem txB_inj {x y : ByteArray} : ∀ n, txB x n = txB y n → ∀ i, i < n → (x.data[i]?).getD 0 = (y.data[i]?).getD 0
  | 0, _, i, h => by omega
  | n + 1, h, i, hi => by
    simp only [txB] at h
    obtain ⟨h1, h2⟩ := List.append_inj h (by rw [txB_len, txB_len])
    by_cases e : i = n
    · subst e
      have := bits_inj (w := 8) (UInt8.toNat_lt _) (UInt8.toNat_lt _) h2
      exact UInt8.toNat_inj.1 this
    · exact txB_inj n h1 i (by omega)
theorem rdX_of {s x : ByteArray} {p : Nat} (h : sl s p (8 * x.size) = txB x x.size) : rdX s p x.size = x := by
  have h1 : txB (rdX s p x.size) x.size = txB x x.size := by rw [txB_rdX s p _ _ (Nat.le_refl _), h]
  have h2 := txB_inj _ h1
  have hd : (rdX s p x.size).data = x.data := by
    apply Array.ext
    · show (rdX s p x.size).size = x.size
      rw [rdX_size]
    · intro j q1 q2
      have := h2 j q2
      rw [Array.getElem?_eq_getElem q1, Array.getElem?_eq_getElem q2, Option.getD_some, Option.getD_some] at this
      exact this
  cases x with
  | mk d => exact congrArg ByteArray.mk hd
end Go.Sh
namespace Go.Sh
set_option linter.unusedSectionVars false
set_option linter.unnecessarySimpa false
set_option linter.unusedVariables false
set_option linter.unusedSimpArgs false
set_option maxRecDepth 100000
set_option maxHeartbeats 4000000
/-! What is read without an error is what the bits say. -/
theorem step_U {s : ByteArray} {w : Nat} {σ : Nat × Int} (h : (rdU s w σ).2.2 = 0) : σ.2 = 0 ∧ sl s 0 (rdU s w σ).2.1 = sl s 0 σ.1 ++ bits w (rdU s w σ).1 ∧ (rdU s w σ).2.1 ≤ 8 * s.size := by
  obtain ⟨h1, h2, h3⟩ := rdU_e s w σ h
  rw [h3]
  refine ⟨h1, ?_, h2⟩
  show sl s 0 (σ.1 + w) = _
  rw [sl_add, Nat.zero_add, bits_rdN]
theorem step_S {s : ByteArray} {σ : Nat × Int} (h : (rdU s 16 σ).2.2 = 0) : bits 16 (sgN (sgI (rdU s 16 σ).1)) = bits 16 (rdU s 16 σ).1 := by
  have hlt := rdU_lt s 16 σ
  rw [← bits_mod 16 (sgN _), ← bits_mod 16 (rdU s 16 σ).1]
  congr 1
  unfold sgN sgI
  split <;> omega
theorem step_T {s : ByteArray} {σ : Nat × Int} (h : (tgR s σ).2.2 = 0) : σ.2 = 0 ∧ sl s 0 (tgR s σ).2.1 = sl s 0 σ.1 ++ tgBits (tgR s σ).1 ∧ (tgR s σ).2.1 ≤ 8 * s.size := by
  have hlt := rdU_lt s 1 σ
  unfold tgR at h ⊢
  by_cases h1 : (rdU s 1 σ).1 = 1
  · rw [if_pos h1] at h ⊢
    obtain ⟨e1, e2, e3⟩ := step_U (s := s) (w := 5) (σ := (rdU s 1 σ).2) h
    obtain ⟨e4, e5, e6⟩ := step_U e1
    refine ⟨e4, ?_, e3⟩
    show sl s 0 (rdU s 5 (rdU s 1 σ).2).2.1 = _
    rw [e2, e5, h1]
    unfold tgBits
    rw [decide_eq_true (show (0 : Int) ≤ ((rdU s 5 (rdU s 1 σ).2).1 : Nat) by omega), Int.toNat_natCast, cond_true, List.append_assoc]
    rfl
  · rw [if_neg h1] at h ⊢
    obtain ⟨e4, e5, e6⟩ := step_U (s := s) (w := 1) (σ := σ) h
    refine ⟨e4, ?_, e6⟩
    show sl s 0 (rdU s 1 σ).2.1 = _
    rw [e5, show (rdU s 1 σ).1 = 0 by omega]
    rfl
theorem step_X {s : ByteArray} {σ : Nat × Int} (h : (rdT s σ).2.2 = 0) : σ.2 = 0 ∧ sl s 0 (rdT s σ).2.1 = sl s 0 σ.1 ++ (bits 7 (rdT s σ).1.size ++ txB (rdT s σ).1 (rdT s σ).1.size) ∧ (rdT s σ).2.1 ≤ 8 * s.size := by
  obtain ⟨h1, h2, h3⟩ := rdT_e s σ h
  obtain ⟨e1, e2, e3⟩ := step_U h1
  rw [h3]
  refine ⟨e1, ?_, h2⟩
  show sl s 0 ((rdU s 7 σ).2.1 + 8 * (rdU s 7 σ).1) = sl s 0 σ.1 ++ (bits 7 (rdX s _ _).size ++ txB (rdX s _ _) (rdX s _ _).size)
  rw [rdX_size, txB_rdX _ _ _ _ (Nat.le_refl _), sl_add, e2, Nat.zero_add, List.append_assoc]
section
variable (s : ByteArray)
theorem hdr (h : (g5 s sD).2 = 0) : sl s 0 (g5 s sD).1 = bits 3 (kD s sD) ++ (bits 5 (aD s sD) ++ (tgBits (dD s sD) ++ (bits 8 (qD s sD) ++ bits 8 (oD s sD)))) := by
  obtain ⟨e4, f4, _⟩ := step_U (s := s) (w := 8) (σ := g4 s sD) h
  obtain ⟨e3, f3, _⟩ := step_U (s := s) (w := 8) (σ := g3 s sD) e4
  obtain ⟨e2, f2, _⟩ := step_T (s := s) (σ := g2 s sD) e3
  obtain ⟨e1, f1, _⟩ := step_U (s := s) (w := 5) (σ := g1 s sD) e2
  obtain ⟨e0, f0, _⟩ := step_U (s := s) (w := 3) (σ := sD) e1
  have f4 : sl s 0 (g5 s sD).1 = sl s 0 (g4 s sD).1 ++ bits 8 (oD s sD) := f4
  have f3 : sl s 0 (g4 s sD).1 = sl s 0 (g3 s sD).1 ++ bits 8 (qD s sD) := f3
  have f2 : sl s 0 (g3 s sD).1 = sl s 0 (g2 s sD).1 ++ tgBits (dD s sD) := f2
  have f1 : sl s 0 (g2 s sD).1 = sl s 0 (g1 s sD).1 ++ bits 5 (aD s sD) := f1
  have f0 : sl s 0 (g1 s sD).1 = [] ++ bits 3 (kD s sD) := f0
  rw [f4, f3, f2, f1, f0]
  simp only [List.nil_append, List.append_assoc]
theorem xD_size : (xD s sD).size ≤ 127 := by
  unfold xD
  split
  · exact rdT_size s _
  · split
    · exact rdT_size s _
    · split
      · exact rdT_size s _
      · exact Nat.zero_le _
theorem clV_zero {σ : Nat × Int} (h : clV s σ = 0) : σ.2 = 0 ∧ 8 * s.size - σ.1 < 8 ∧ rdN s σ.1 (8 * s.size - σ.1) = 0 := by
  unfold clV at h
  by_cases h1 : σ.2 = 0
  · rw [if_pos h1] at h
    by_cases h2 : 8 ≤ 8 * s.size - σ.1
    · rw [if_pos h2] at h; cases h
    · rw [if_neg h2] at h
      by_cases h3 : rdN s σ.1 (8 * s.size - σ.1) = 0
      · exact ⟨h1, by omega, h3⟩
      · rw [if_neg h3] at h; cases h
  · rw [if_neg h1] at h; exact absurd h h1
theorem strict_bits (h : okD s = true) : pkB (enBits (kD s sD) (aD s sD) (dD s sD) (qD s sD) (oD s sD) (cD s sD) (mD s sD) (eD s sD) (tD s sD) (uD s sD) (vD s sD) (xD s sD)) = s := by
  unfold okD at h
  rw [Bool.and_eq_true, decide_eq_true_eq] at h
  obtain ⟨hcl, hch⟩ := h
  obtain ⟨hg, h8, hz⟩ := clV_zero s hcl
  have hp : (gD s sD).1 ≤ 8 * s.size := gD_p s sD (Nat.zero_le _)
  suffices hE : enBits (kD s sD) (aD s sD) (dD s sD) (qD s sD) (oD s sD) (cD s sD) (mD s sD) (eD s sD) (tD s sD) (uD s sD) (vD s sD) (xD s sD) = sl s 0 (gD s sD).1 by
    rw [hE]; exact pkB_sl hp h8 hz
  obtain ⟨_, _, _, _, _, hk⟩ := chB_k hch
  have hkk : kD s sD = 1 ∨ kD s sD = 2 ∨ kD s sD = 3 ∨ kD s sD = 4 := by omega
  rcases hkk with k1 | k2 | k3 | k4
  · have eg : gD s sD = (x1D s sD).2 := by unfold gD; rw [if_pos k1]
    have ec : cD s sD = (c1D s sD : Nat) := by unfold cD; rw [if_pos k1]
    have em : mD s sD = (m1D s sD : Nat) := by unfold mD; rw [if_pos k1]
    have ex : xD s sD = (x1D s sD).1 := by unfold xD; rw [if_pos k1]
    rw [eg] at hg ⊢
    obtain ⟨e2, f2, _⟩ := step_X (s := s) (σ := (rdU s 16 (rdU s 8 (g5 s sD)).2).2) hg
    obtain ⟨e1, f1, _⟩ := step_U (s := s) (w := 16) (σ := (rdU s 8 (g5 s sD)).2) e2
    obtain ⟨e0, f0, _⟩ := step_U (s := s) (w := 8) (σ := g5 s sD) e1
    have f2 : sl s 0 (x1D s sD).2.1 = _ := f2
    have hh := hdr s e0
    rw [f2, f1, f0, hh, ec, em, ex]
    have d1 : decide (((kD s sD : Nat) : Int) = 1) = true := decide_eq_true (by omega)
    simp only [enBits, bdBits, d1, cond_true, Int.toNat_natCast, List.append_assoc]
    rfl
  · have eg : gD s sD = (rdU s 16 (g5 s sD)).2 := by unfold gD; rw [if_neg (by omega), if_pos k2]
    have ee : eD s sD = sgI (rdU s 16 (g5 s sD)).1 := by unfold eD; rw [if_pos k2]; rfl
    rw [eg] at hg ⊢
    have hsg := step_S hg
    obtain ⟨e0, f0, _⟩ := step_U hg
    have hh := hdr s e0
    rw [f0, hh, ee]
    have d1 : decide (((kD s sD : Nat) : Int) = 1) = false := decide_eq_false (by omega)
    have d2 : decide (((kD s sD : Nat) : Int) = 2) = true := decide_eq_true (by omega)
    simp only [enBits, bdBits, d1, d2, cond_true, cond_false, Int.toNat_natCast, List.append_assoc, hsg]
  · have eg : gD s sD = (x3D s sD).2 := by unfold gD; rw [if_neg (by omega), if_neg (by omega), if_pos k3]
    have et : tD s sD = (t3D s sD : Nat) := by unfold tD; rw [if_pos k3]
    have eu : uD s sD = (u3D s sD : Nat) := by unfold uD; rw [if_pos k3]
    have ev : vD s sD = (v3D s sD : Nat) := by unfold vD; rw [if_pos k3]
    have ex : xD s sD = (x3D s sD).1 := by unfold xD; rw [if_neg (by omega), if_pos k3]
    rw [eg] at hg ⊢
    obtain ⟨e3, f3, _⟩ := step_X (s := s) (σ := (rdU s 16 (rdU s 16 (rdU s 27 (g5 s sD)).2).2).2) hg
    obtain ⟨e2, f2, _⟩ := step_U (s := s) (w := 16) (σ := (rdU s 16 (rdU s 27 (g5 s sD)).2).2) e3
    obtain ⟨e1, f1, _⟩ := step_U (s := s) (w := 16) (σ := (rdU s 27 (g5 s sD)).2) e2
    obtain ⟨e0, f0, _⟩ := step_U (s := s) (w := 27) (σ := g5 s sD) e1
    have f3 : sl s 0 (x3D s sD).2.1 = _ := f3
    have hh := hdr s e0
    rw [f3, f2, f1, f0, hh, et, eu, ev, ex]
    have d1 : decide (((kD s sD : Nat) : Int) = 1) = false := decide_eq_false (by omega)
    have d2 : decide (((kD s sD : Nat) : Int) = 2) = false := decide_eq_false (by omega)
    have d3 : decide (((kD s sD : Nat) : Int) = 3) = true := decide_eq_true (by omega)
    simp only [enBits, bdBits, d1, d2, d3, cond_true, cond_false, Int.toNat_natCast, List.append_assoc]
    rfl
  · have eg : gD s sD = (x4D s sD).2 := by unfold gD; rw [if_neg (by omega), if_neg (by omega), if_neg (by omega), if_pos k4]
    have ex : xD s sD = (x4D s sD).1 := by unfold xD; rw [if_neg (by omega), if_neg (by omega), if_pos k4]
    rw [eg] at hg ⊢
    obtain ⟨e0, f0, _⟩ := step_X (s := s) (σ := g5 s sD) hg
    have f0 : sl s 0 (x4D s sD).2.1 = _ := f0
    have hh := hdr s e0
    rw [f0, hh, ex]
    have d1 : decide (((kD s sD : Nat) : Int) = 1) = false := decide_eq_false (by omega)
    have d2 : decide (((kD s sD : Nat) : Int) = 2) = false := decide_eq_false (by omega)
    have d3 : decide (((kD s sD : Nat) : Int) = 3) = false := decide_eq_false (by omega)
    simp only [enBits, bdBits, d1, d2, d3, cond_true, cond_false, Int.toNat_natCast, List.append_assoc]
    rfl
end
end Go.Sh
namespace Go.Sh
set_option linter.unusedSectionVars false
set_option linter.unnecessarySimpa false
set_option linter.unusedVariables false
set_option linter.unusedSimpArgs false
set_option maxRecDepth 100000
set_option maxHeartbeats 4000000
/-! The check sum's two bytes. -/
theorem word_nat (a b : Nat) (ha : a < 256) (hb : b < 256) : (((BitVec.ofNat 16 a : W16) <<< 8) ||| BitVec.ofNat 16 b).toNat = a * 256 + b := by
  rw [BitVec.toNat_or, BitVec.toNat_shiftLeft, BitVec.toNat_ofNat, BitVec.toNat_ofNat, Nat.shiftLeft_eq, Nat.mod_eq_of_lt (show a < 2 ^ 16 by omega), Nat.mod_eq_of_lt (show b < 2 ^ 16 by omega), Nat.mod_eq_of_lt (show a * 2 ^ 8 < 2 ^ 16 by omega)]
  have h := Nat.two_pow_add_eq_or_of_lt (i := 8) (b := b) (by omega) a
  rw [Nat.mul_comm a, ← h]
theorem sdW_nat {y : ByteArray} {z : Nat} {a b : UInt8} (hz : y.size = z + 2) (hA : y.data[z]? = some a) (hB : y.data[z + 1]? = some b) : (sdW y).toNat = a.toNat * 256 + b.toNat := by
  unfold sdW
  rw [hz, show z + 2 - 2 = z from rfl, show z + 2 - 1 = z + 1 from rfl, hA, hB, Option.getD_some, Option.getD_some]
  exact word_nat _ _ (UInt8.toNat_lt a) (UInt8.toNat_lt b)
theorem prot_data (S : ByteArray) : (prot S).data = S.data ++ #[UInt8.ofNat ((crcN S).toNat / 256), UInt8.ofNat ((crcN S).toNat % 256)] := by
  rw [prot, ByteArray.data_append, cr2]
theorem prot_bdy {y : ByteArray} (h2 : 2 ≤ y.size) (hc : crcN (bdy y) = sdW y) : prot (bdy y) = y := by
  obtain ⟨z, hz⟩ : ∃ z, y.size = z + 2 := ⟨y.size - 2, by omega⟩
  have hsz : y.data.size = z + 2 := hz
  obtain ⟨a, hA⟩ : ∃ a, y.data[z]? = some a := ⟨_, Array.getElem?_eq_getElem (by omega)⟩
  obtain ⟨b, hB⟩ : ∃ b, y.data[z + 1]? = some b := ⟨_, Array.getElem?_eq_getElem (by omega)⟩
  have hW := sdW_nat hz hA hB
  have ha := UInt8.toNat_lt a
  have hb := UInt8.toNat_lt b
  have hd : (prot (bdy y)).data = y.data := by
    rw [prot_data, hc, hW, show (a.toNat * 256 + b.toNat) / 256 = a.toNat by omega, show (a.toNat * 256 + b.toNat) % 256 = b.toNat by omega, UInt8.ofNat_toNat, UInt8.ofNat_toNat]
    have hbs : (bdy y).data = y.data.extract 0 z := by unfold bdy; rw [ByteArray.data_extract, hz]; rfl
    rw [hbs]
    apply Array.ext_getElem?
    intro j
    have hl : (y.data.extract 0 z).size = z := by simp [hsz]
    rcases Nat.lt_or_ge j z with hj | hj
    · rw [Array.getElem?_append_left (by omega), Array.getElem?_extract]
      simp [hj, show j < y.data.size by omega]
      intro hm
      omega
    · rw [Array.getElem?_append_right (by omega), hl]
      by_cases h0 : j = z
      · subst h0; rw [Nat.sub_self, hA]; rfl
      · by_cases h1 : j = z + 1
        · subst h1; rw [show z + 1 - z = 1 by omega, hB]; rfl
        · rw [Array.getElem?_eq_none (by simp; omega), Array.getElem?_eq_none (by omega)]
  cases y with
  | mk d => exact congrArg ByteArray.mk hd
theorem bdy_prot (S : ByteArray) : bdy (prot S) = S := by
  have hs := prot_size S
  have hd : (bdy (prot S)).data = S.data := by
    unfold bdy
    rw [ByteArray.data_extract, hs, prot_data, show S.size + 2 - 2 = S.data.size from rfl, Array.extract_append_left, Array.extract_size]
  cases h : bdy (prot S) with
  | mk d =>
    rw [h] at hd
    cases S with
    | mk e => exact congrArg ByteArray.mk hd
theorem sdW_prot (S : ByteArray) : sdW (prot S) = crcN S := by
  have hs := prot_size S
  have hl : S.data.size = S.size := rfl
  have hA : (prot S).data[S.size]? = some (UInt8.ofNat ((crcN S).toNat / 256)) := by
    rw [prot_data, Array.getElem?_append_right (by omega), hl, Nat.sub_self]; rfl
  have hB : (prot S).data[S.size + 1]? = some (UInt8.ofNat ((crcN S).toNat % 256)) := by
    rw [prot_data, Array.getElem?_append_right (by omega), hl, show S.size + 1 - S.size = 1 by omega]; rfl
  have hW := sdW_nat hs hA hB
  apply BitVec.eq_of_toNat_eq
  have := (crcN S).isLt
  rw [hW, ofNat_toNat (by omega), ofNat_toNat (by omega)]
  omega
theorem deV_prot (S : ByteArray) (h : S.size + 2 ≤ 127) : deV (prot S) = bif okD S then .tup [.agg (deFr S sD), .int .i64 0] else .tup [.agg fZ, .int .i64 10] := by
  have hs := prot_size S
  unfold deV
  rw [if_neg (by omega), if_neg (by omega), bdy_prot, sdW_prot, if_pos rfl]
/-- What is accepted is the code of its frame. -/
theorem strict (y : ByteArray) (h1 : ¬ 127 < y.size) (h2 : ¬ y.size < 2) (hc : crcN (bdy y) = sdW y) (hok : okD (bdy y) = true) :
    enV (kD (bdy y) sD) (aD (bdy y) sD) (dD (bdy y) sD) (qD (bdy y) sD) (oD (bdy y) sD) (cD (bdy y) sD) (mD (bdy y) sD) (eD (bdy y) sD) (tD (bdy y) sD) (uD (bdy y) sD) (vD (bdy y) sD) (xD (bdy y) sD) = .tup [.str y, .int .i64 0] := by
  have hb := strict_bits (bdy y) hok
  have hx := xD_size (bdy y)
  have hch : chB (kD (bdy y) sD) (aD (bdy y) sD) (dD (bdy y) sD) (qD (bdy y) sD) (oD (bdy y) sD) (cD (bdy y) sD) (mD (bdy y) sD) (eD (bdy y) sD) (tD (bdy y) sD) (uD (bdy y) sD) (vD (bdy y) sD) (xD (bdy y) sD) = true := by
    unfold okD at hok
    rw [Bool.and_eq_true] at hok
    exact hok.2
  unfold enV
  rw [hch, hb, prot_bdy (by omega) hc, decide_eq_false (show ¬ 127 < (xD (bdy y) sD).size by omega), decide_eq_false (show ¬ 127 < (bdy y).size + 2 by rw [bdy_size]; omega)]
  rfl
theorem s7 (y : ByteArray) : call1 T 41 (.fn 7) [.str y] heap0 = some (.bool true, heap0) := by
  refine call_pure e7 (by rfl) ?_
  have h22 := fun H => s22 32 H y
  cases hx : decide (300 < (y.size : Int)) with
  | true => simp only [c7, heap0, go_sem, Int.cast_ofNat_Int, Int.reduceToNat, Bool.true_xor, Bool.false_xor, Bool.xor_true, Bool.xor_false, Nat.reduceAdd, Nat.reduceBEq, Nat.reduceLeDiff, Nat.reduceLT, Nat.reduceMul, Nat.reduceSub, Int.reduceEq, Int.reduceLT, Int.reduceLE, Int.reduceNeg, s10, hx]
  | false =>
    unfold deV at h22
    by_cases h1 : 127 < y.size
    · rw [if_pos h1] at h22
      simp only [c7, heap0, go_sem, Int.cast_ofNat_Int, Int.reduceToNat, Bool.true_xor, Bool.false_xor, Bool.xor_true, Bool.xor_false, Nat.reduceAdd, Nat.reduceBEq, Nat.reduceLeDiff, Nat.reduceLT, Nat.reduceMul, Nat.reduceSub, Int.reduceEq, Int.reduceLT, Int.reduceLE, Int.reduceNeg, s10, hx, h22, dself]
    · rw [if_neg h1] at h22
      by_cases h2 : y.size < 2
      · rw [if_pos h2] at h22
        simp only [c7, heap0, go_sem, Int.cast_ofNat_Int, Int.reduceToNat, Bool.true_xor, Bool.false_xor, Bool.xor_true, Bool.xor_false, Nat.reduceAdd, Nat.reduceBEq, Nat.reduceLeDiff, Nat.reduceLT, Nat.reduceMul, Nat.reduceSub, Int.reduceEq, Int.reduceLT, Int.reduceLE, Int.reduceNeg, s10, hx, h22, dself]
      · rw [if_neg h2] at h22
        by_cases hc : crcN (bdy y) = sdW y
        · rw [if_pos hc] at h22
          cases hok : okD (bdy y) with
          | false =>
            rw [hok] at h22
            simp only [c7, heap0, go_sem, Int.cast_ofNat_Int, Int.reduceToNat, Bool.true_xor, Bool.false_xor, Bool.xor_true, Bool.xor_false, Nat.reduceAdd, Nat.reduceBEq, Nat.reduceLeDiff, Nat.reduceLT, Nat.reduceMul, Nat.reduceSub, Int.reduceEq, Int.reduceLT, Int.reduceLE, Int.reduceNeg, s10, hx, h22, dself]
          | true =>
            rw [hok] at h22
            have hE := strict y h1 h2 hc hok
            have hxs := xD_size (bdy y)
            have h11 := fun H => s11 32 H (kD (bdy y) sD) (aD (bdy y) sD) (dD (bdy y) sD) (qD (bdy y) sD) (oD (bdy y) sD) (cD (bdy y) sD) (mD (bdy y) sD) (eD (bdy y) sD) (tD (bdy y) sD) (uD (bdy y) sD) (vD (bdy y) sD) (xD (bdy y) sD) (by omega)
            rw [hE] at h11
            unfold deFr at h22
            simp only [c7, heap0, go_sem, Int.cast_ofNat_Int, Int.reduceToNat, Bool.true_xor, Bool.false_xor, Bool.xor_true, Bool.xor_false, Nat.reduceAdd, Nat.reduceBEq, Nat.reduceLeDiff, Nat.reduceLT, Nat.reduceMul, Nat.reduceSub, Int.reduceEq, Int.reduceLT, Int.reduceLE, Int.reduceNeg, s10, hx, h22, h11, dself]
        · rw [if_neg hc] at h22
          simp only [c7, heap0, go_sem, Int.cast_ofNat_Int, Int.reduceToNat, Bool.true_xor, Bool.false_xor, Bool.xor_true, Bool.xor_false, Nat.reduceAdd, Nat.reduceBEq, Nat.reduceLeDiff, Nat.reduceLT, Nat.reduceMul, Nat.reduceSub, Int.reduceEq, Int.reduceLT, Int.reduceLE, Int.reduceNeg, s10, hx, h22, dself]
theorem law7 (ys : List SV) (h : FitsAll [(false, [.str])] ys) : ∃ m, call1 T m (.fn 7) ys heap0 = some (.bool true, heap0) := by
  obtain ⟨x1, r1, rfl, h1, h⟩ := fitsAll_cons h
  cases fitsAll_nil h
  obtain ⟨y, rfl, _⟩ := fits_str (fitsA_one h1)
  exact ⟨41, s7 y⟩
end Go.Sh
namespace Go.Sh
set_option linter.unusedSectionVars false
set_option linter.unnecessarySimpa false
set_option linter.unusedVariables false
set_option linter.unusedSimpArgs false
set_option maxRecDepth 100000
set_option maxHeartbeats 4000000
/-! What was written is read. -/
def At (s : ByteArray) (p : Nat) (bs : List Bool) : Prop := sl s p bs.length = bs ∧ p + bs.length ≤ 8 * s.size
theorem At_app {s : ByteArray} {p : Nat} {a b : List Bool} (h : At s p (a ++ b)) : At s p a ∧ At s (p + a.length) b := by
  obtain ⟨h1, h2⟩ := h
  rw [List.length_append] at h1 h2
  rw [sl_add] at h1
  obtain ⟨e1, e2⟩ := List.append_inj h1 (by rw [sl_len])
  exact ⟨⟨e1, by omega⟩, e2, by omega⟩
theorem rdU_at {s : ByteArray} {p w v : Nat} (h : At s p (bits w v)) : rdU s w (p, 0) = (v % 2 ^ w, (p + w, 0)) := by
  obtain ⟨h1, h2⟩ := h
  rw [bits_len] at h1 h2
  unfold rdU
  rw [if_pos rfl, if_pos h2, rdN_of h1]
theorem tgR_at {s : ByteArray} {p : Nat} {d : Int} (h : At s p (tgBits d)) (hd : d < 32) (hd0 : d < 0 → d = -1) : tgR s (p, 0) = (d, (p + (tgBits d).length, 0)) := by
  unfold tgBits at h ⊢
  obtain ⟨h1, h2⟩ := At_app h
  have e1 := rdU_at h1
  rw [bits_len] at h2
  unfold tgR
  by_cases h0 : 0 ≤ d
  · rw [decide_eq_true h0] at h2 e1 ⊢
    have e1 : rdU s 1 (p, 0) = (1, (p + 1, 0)) := e1
    have e2 := rdU_at (w := 5) (v := d.toNat) h2
    rw [e1, if_pos rfl]
    show (((rdU s 5 (p + 1, 0)).1 : Int), (rdU s 5 (p + 1, 0)).2) = _
    rw [e2, Nat.mod_eq_of_lt (show d.toNat < 2 ^ 5 by omega), cond_true, List.length_append, bits_len, bits_len]
    show (((d.toNat : Nat) : Int), (p + 1 + 5, (0 : Int))) = _
    rw [Int.toNat_of_nonneg h0]
  · rw [decide_eq_false h0] at e1 ⊢
    have e1 : rdU s 1 (p, 0) = (0, (p + 1, 0)) := e1
    rw [e1, if_neg (show ¬ (0 : Nat) = 1 by decide), hd0 (by omega)]
    rfl
theorem rdT_at {s x : ByteArray} {p : Nat} (h : At s p (bits 7 x.size ++ txB x x.size)) (hx : x.size ≤ 127) : rdT s (p, 0) = (x, (p + (7 + 8 * x.size), 0)) := by
  obtain ⟨h1, h2⟩ := At_app h
  have e1 := rdU_at h1
  rw [Nat.mod_eq_of_lt (show x.size < 2 ^ 7 by omega)] at e1
  rw [bits_len] at h2
  obtain ⟨h3, h4⟩ := h2
  rw [txB_len] at h3 h4
  unfold rdT
  rw [e1, if_pos rfl, if_pos h4]
  show (rdX s (p + 7) x.size, (p + 7 + 8 * x.size, (0 : Int))) = _
  rw [rdX_of h3, Nat.add_assoc]
theorem sgI_sgN {e : Int} (h0 : -32768 ≤ e) (h1 : e ≤ 32767) : sgI (sgN e % 2 ^ 16) = e := by
  unfold sgI sgN
  split <;> omega
section
variable {k a d q o c m e t u v : Int} {x : ByteArray}
theorem back (hc : chB k a d q o c m e t u v x = true) (hx : x.size ≤ 127) :
    okD (pkB (enBits k a d q o c m e t u v x)) = true ∧ deFr (pkB (enBits k a d q o c m e t u v x)) sD = fr k a d q o c m e t u v x := by
  obtain ⟨ha, hd, hd0, hq, ho, hk⟩ := chB_k hc
  have hA : At (pkB (enBits k a d q o c m e t u v x)) 0 (enBits k a d q o c m e t u v x) := ⟨sl_pkB _, by rw [pkB_size]; unfold nb; omega⟩
  have hcl : ∀ P, P = (enBits k a d q o c m e t u v x).length → clV (pkB (enBits k a d q o c m e t u v x)) (P, 0) = 0 := by
    intro P hP
    have hz : rdN (pkB (enBits k a d q o c m e t u v x)) P (8 * (pkB (enBits k a d q o c m e t u v x)).size - P) = 0 := rdN_zero' (fun i _ => by rw [bA_pkB]; exact bitN_ge (by omega))
    unfold clV
    rw [if_pos rfl, if_neg (by rw [pkB_size]; unfold nb; omega), if_pos hz]
  have hk0 : 0 ≤ k ∧ k < 8 := by omega
  obtain ⟨BS, hBS⟩ : ∃ B, enBits k a d q o c m e t u v x = B := ⟨_, rfl⟩
  obtain ⟨s, hs⟩ : ∃ s, pkB (enBits k a d q o c m e t u v x) = s := ⟨_, rfl⟩
  rw [hs] at hA hcl ⊢
  have hA0 := hA
  rw [hBS] at hcl
  have hlen : BS.length = 24 + (tgBits d).length + (bdBits k c m e t u v x).length := by
    rw [← hBS]; simp only [enBits, List.length_append, bits_len]; omega
  unfold enBits at hA
  obtain ⟨b0, hA⟩ := At_app hA
  obtain ⟨b1, hA⟩ := At_app hA
  obtain ⟨b2, hA⟩ := At_app hA
  obtain ⟨b3, hA⟩ := At_app hA
  obtain ⟨b4, hA⟩ := At_app hA
  simp only [bits_len] at b1 b2 b3 b4 hA
  have r0 := rdU_at b0
  have r1 := rdU_at b1
  have r2 := tgR_at b2 hd hd0
  have r3 := rdU_at b3
  have r4 := rdU_at b4
  rw [Nat.mod_eq_of_lt (show k.toNat < 2 ^ 3 by omega)] at r0
  rw [Nat.mod_eq_of_lt (show a.toNat < 2 ^ 5 by omega)] at r1
  rw [Nat.mod_eq_of_lt (show q.toNat < 2 ^ 8 by omega)] at r3
  rw [Nat.mod_eq_of_lt (show o.toNat < 2 ^ 8 by omega)] at r4
  obtain ⟨P, hP⟩ : ∃ P, 0 + 3 + 5 + (tgBits d).length + 8 + 8 = P := ⟨_, rfl⟩
  rw [hP] at r4 hA
  have e0 : kD s sD = k.toNat := by unfold kD; exact congrArg Prod.fst r0
  have f0 : g1 s sD = (0 + 3, 0) := by unfold g1; exact congrArg Prod.snd r0
  have e1 : aD s sD = a.toNat := by unfold aD; rw [f0]; exact congrArg Prod.fst r1
  have f1 : g2 s sD = (0 + 3 + 5, 0) := by unfold g2; rw [f0]; exact congrArg Prod.snd r1
  have e2 : dD s sD = d := by unfold dD; rw [f1]; exact congrArg Prod.fst r2
  have f2 : g3 s sD = (0 + 3 + 5 + (tgBits d).length, 0) := by unfold g3; rw [f1]; exact congrArg Prod.snd r2
  have e3 : qD s sD = q.toNat := by unfold qD; rw [f2]; exact congrArg Prod.fst r3
  have f3 : g4 s sD = (0 + 3 + 5 + (tgBits d).length + 8, 0) := by unfold g4; rw [f2]; exact congrArg Prod.snd r3
  have e4 : oD s sD = o.toNat := by unfold oD; rw [f3]; exact congrArg Prod.fst r4
  have f4 : g5 s sD = (P, 0) := by unfold g5; rw [f3]; exact congrArg Prod.snd r4
  have i0 : ((kD s sD : Nat) : Int) = k := by rw [e0]; exact Int.toNat_of_nonneg hk0.1
  have i1 : ((aD s sD : Nat) : Int) = a := by rw [e1]; exact Int.toNat_of_nonneg ha.1
  have i3 : ((qD s sD : Nat) : Int) = q := by rw [e3]; exact Int.toNat_of_nonneg hq.1
  have i4 : ((oD s sD : Nat) : Int) = o := by rw [e4]; exact Int.toNat_of_nonneg ho.1
  suffices hf : cD s sD = c ∧ mD s sD = m ∧ eD s sD = e ∧ tD s sD = t ∧ uD s sD = u ∧ vD s sD = v ∧ xD s sD = x ∧ gD s sD = (P + (bdBits k c m e t u v x).length, 0) by
    obtain ⟨j1, j2, j3, j4, j5, j6, j7, j8⟩ := hf
    unfold okD deFr
    rw [i0, i1, e2, i3, i4, j1, j2, j3, j4, j5, j6, j7, j8, hc, hcl _ (by omega)]
    exact ⟨rfl, rfl⟩
  unfold bdBits at hA ⊢
  rcases hk with ⟨rfl, hcc, hmm⟩ | ⟨rfl, hee, rfl⟩ | ⟨rfl, htt, huu, hvv⟩ | rfl
  · rw [chB_1, decide_eq_true_eq] at hc
    obtain ⟨_, _, _, z1, z2, z3, z4, _⟩ := hc
    have k1 : kD s sD = 1 := by omega
    obtain ⟨y1, hA⟩ := At_app (show At s P (bits 8 c.toNat ++ (bits 16 m.toNat ++ (bits 7 x.size ++ txB x x.size))) from hA)
    obtain ⟨y2, y3⟩ := At_app hA
    simp only [bits_len] at y2 y3
    have t1 := rdU_at y1
    have t2 := rdU_at y2
    have t3 := rdT_at y3 hx
    rw [Nat.mod_eq_of_lt (show c.toNat < 2 ^ 8 by omega)] at t1
    rw [Nat.mod_eq_of_lt (show m.toNat < 2 ^ 16 by omega)] at t2
    have v1 : c1D s sD = c.toNat := by unfold c1D; rw [f4, t1]
    have v2 : m1D s sD = m.toNat := by unfold m1D; rw [f4, t1, t2]
    have v3 : x1D s sD = (x, (P + 8 + 16 + (7 + 8 * x.size), 0)) := by unfold x1D; rw [f4, t1, t2, t3]
    unfold cD mD eD tD uD vD xD gD
    simp only [k1, if_true, if_false, Nat.reduceEqDiff, v1, v2, v3]
    refine ⟨Int.toNat_of_nonneg hcc.1, Int.toNat_of_nonneg hmm.1, z1.symm, z2.symm, z3.symm, z4.symm, (by first | trivial | rfl), ?_⟩
    show (P + 8 + 16 + (7 + 8 * x.size), (0 : Int)) = (P + (bits 8 c.toNat ++ (bits 16 m.toNat ++ (bits 7 x.size ++ txB x x.size))).length, 0)
    simp only [List.length_append, bits_len, txB_len]
    congr 1
    omega
  · rw [chB_2, Bool.and_eq_true, decide_eq_true_eq, decide_eq_true_eq] at hc
    obtain ⟨_, _, _, z1, z2, z3, z4, z5, _⟩ := hc
    have k1 : kD s sD = 2 := by omega
    have t1 := rdU_at (show At s P (bits 16 (sgN e)) from hA)
    have v1 : e2D s sD = e := by unfold e2D; rw [f4, t1]; exact sgI_sgN hee.1 hee.2
    unfold cD mD eD tD uD vD xD gD
    simp only [k1, if_true, if_false, Nat.reduceEqDiff, v1]
    rw [f4, t1]
    exact ⟨z1.symm, z2.symm, trivial, z3.symm, z4.symm, z5.symm, trivial, rfl⟩
  · rw [chB_3, decide_eq_true_eq] at hc
    obtain ⟨_, _, _, _, z1, z2, z3, _⟩ := hc
    have k1 : kD s sD = 3 := by omega
    obtain ⟨y1, hA⟩ := At_app (show At s P (bits 27 t.toNat ++ (bits 16 u.toNat ++ (bits 16 v.toNat ++ (bits 7 x.size ++ txB x x.size)))) from hA)
    obtain ⟨y2, hA⟩ := At_app hA
    obtain ⟨y3, y4⟩ := At_app hA
    simp only [bits_len] at y2 y3 y4
    have t1 := rdU_at y1
    have t2 := rdU_at y2
    have t3 := rdU_at y3
    have t4 := rdT_at y4 hx
    rw [Nat.mod_eq_of_lt (show t.toNat < 2 ^ 27 by omega)] at t1
    rw [Nat.mod_eq_of_lt (show u.toNat < 2 ^ 16 by omega)] at t2
    rw [Nat.mod_eq_of_lt (show v.toNat < 2 ^ 16 by omega)] at t3
    have v1 : t3D s sD = t.toNat := by unfold t3D; rw [f4, t1]
    have v2 : u3D s sD = u.toNat := by unfold u3D; rw [f4, t1, t2]
    have v3 : v3D s sD = v.toNat := by unfold v3D; rw [f4, t1, t2, t3]
    have v4 : x3D s sD = (x, (P + 27 + 16 + 16 + (7 + 8 * x.size), 0)) := by unfold x3D; rw [f4, t1, t2, t3, t4]
    unfold cD mD eD tD uD vD xD gD
    simp only [k1, if_true, if_false, Nat.reduceEqDiff, v1, v2, v3, v4]
    refine ⟨z1.symm, z2.symm, z3.symm, Int.toNat_of_nonneg htt.1, Int.toNat_of_nonneg huu.1, Int.toNat_of_nonneg hvv.1, (by first | trivial | rfl), ?_⟩
    show (P + 27 + 16 + 16 + (7 + 8 * x.size), (0 : Int)) = (P + (bits 27 t.toNat ++ (bits 16 u.toNat ++ (bits 16 v.toNat ++ (bits 7 x.size ++ txB x x.size)))).length, 0)
    simp only [List.length_append, bits_len, txB_len]
    congr 1
    omega
  · rw [chB_4, decide_eq_true_eq] at hc
    obtain ⟨_, z1, z2, z3, z4, z5, z6, _⟩ := hc
    have k1 : kD s sD = 4 := by omega
    have t1 := rdT_at (show At s P (bits 7 x.size ++ txB x x.size) from hA) hx
    have v1 : x4D s sD = (x, (P + (7 + 8 * x.size), 0)) := by unfold x4D; rw [f4, t1]
    unfold cD mD eD tD uD vD xD gD
    simp only [k1, if_true, if_false, Nat.reduceEqDiff, v1]
    refine ⟨z1.symm, z2.symm, z3.symm, z4.symm, z5.symm, z6.symm, (by first | trivial | rfl), ?_⟩
    show (P + (7 + 8 * x.size), (0 : Int)) = (P + (bits 7 x.size ++ txB x x.size).length, 0)
    simp only [List.length_append, bits_len, txB_len]
end
end Go.Sh
namespace Go.Sh
set_option linter.unusedSectionVars false
set_option linter.unnecessarySimpa false
set_option linter.unusedVariables false
set_option linter.unusedSimpArgs false
set_option maxRecDepth 100000
set_option maxHeartbeats 4000000
/-! What wrong bits do to the check sum. -/
theorem tm_zero : tm 0#16 = 0#16 := by decide
theorem tm_inj0 {C : W16} (h : tm C = 0#16) : C = 0#16 := by
  have hC := C.isLt
  by_cases hm : 32768 ≤ C.toNat
  · rw [tm_ge hm] at h
    have h2 : C <<< 1 = poly := BitVec.xor_eq_zero_iff.1 h
    have h3 : (C <<< 1).toNat = 4129 := by rw [h2]; rfl
    rw [BitVec.toNat_shiftLeft, Nat.shiftLeft_eq] at h3
    omega
  · rw [tm_lt hm] at h
    have h3 : (C <<< 1).toNat = 0 := by rw [h]; rfl
    rw [BitVec.toNat_shiftLeft, Nat.shiftLeft_eq] at h3
    apply BitVec.eq_of_toNat_eq
    show C.toNat = 0
    omega
theorem tmN_xor (a b : W16) : ∀ n, tmN (a ^^^ b) n = tmN a n ^^^ tmN b n
  | 0 => rfl
  | n + 1 => by rw [tmN, tmN, tmN, tmN_xor a b n, tm_xor]
theorem tmN_zero : ∀ n, tmN 0#16 n = 0#16
  | 0 => rfl
  | n + 1 => by rw [tmN, tmN_zero n, tm_zero]
theorem tmN_inj0 {C : W16} : ∀ n, tmN C n = 0#16 → C = 0#16
  | 0, h => h
  | n + 1, h => tmN_inj0 n (tm_inj0 h)
theorem tmN_add (C : W16) (a : Nat) : ∀ b, tmN C (a + b) = tmN (tmN C a) b
  | 0 => rfl
  | b + 1 => by rw [← Nat.add_assoc, tmN, tmN_add C a b]; rfl
theorem stp_tm (C : W16) (b : Nat) : stp C b = tmN (C ^^^ (BitVec.ofNat 16 b <<< 8)) 8 := rfl
theorem stp_lin (C D : W16) (b : Nat) : stp (C ^^^ D) b = stp C b ^^^ tmN D 8 := by
  rw [stp_tm, stp_tm, ← tmN_xor]
  congr 1
  ac_rfl
theorem stp_flip (C : W16) (b r : Nat) : stp C (b ^^^ 2 ^ r) = stp C b ^^^ tmN (BitVec.ofNat 16 (2 ^ r) <<< 8) 8 := by
  have h : (BitVec.ofNat 16 (b ^^^ 2 ^ r) : W16) = BitVec.ofNat 16 b ^^^ BitVec.ofNat 16 (2 ^ r) := by
    apply BitVec.eq_of_toNat_eq
    rw [BitVec.toNat_xor, BitVec.toNat_ofNat, BitVec.toNat_ofNat, BitVec.toNat_ofNat, Nat.xor_mod_two_pow]
  rw [stp_tm, stp_tm, ← tmN_xor, h, BitVec.shiftLeft_xor_distrib]
  congr 1
  ac_rfl
theorem one_bit : ∀ r : Fin 8, tmN (BitVec.ofNat 16 (2 ^ r.val) <<< 8) 8 = tmN 1#16 (r.val + 16) := by decide
def chk (C : W16) : Nat → Bool
  | 0 => true
  | n + 1 => !(tm C == 1#16) && chk (tm C) n
theorem chk_ne : ∀ (n : Nat) (C : W16), chk C n = true → ∀ d, 1 ≤ d → d ≤ n → tmN C d ≠ 1#16
  | 0, C, _, d, h1, h2 => by omega
  | n + 1, C, h, d, h1, h2 => by
    simp only [chk, Bool.and_eq_true, Bool.not_eq_true', beq_eq_false_iff_ne] at h
    obtain ⟨e1, e2⟩ := h
    cases d with
    | zero => omega
    | succ d =>
      cases d with
      | zero => exact e1
      | succ d =>
        have := chk_ne n (tm C) e2 (d + 1) (by omega) (by omega)
        have e : ∀ m, tmN (tm C) m = tmN C (m + 1) := fun m => by rw [Nat.add_comm, tmN_add]; rfl
        rw [e] at this
        exact this
theorem chk_1100 : chk 1#16 1100 = true := by decide +kernel
/-- Two different powers, not too far from one another. -/
theorem pow_ne {a b : Nat} (h1 : a < b) (h2 : b - a ≤ 1100) : tmN 1#16 a ^^^ tmN 1#16 b ≠ 0#16 := by
  intro h
  obtain ⟨d, rfl⟩ := Nat.exists_eq_add_of_lt h1
  have e : tmN 1#16 (a + d + 1) = tmN (tmN 1#16 (d + 1)) a := by rw [← tmN_add]; congr 1; omega
  rw [e, ← tmN_xor] at h
  have h0 := tmN_inj0 a h
  have h3 := BitVec.xor_eq_zero_iff.1 h0
  exact chk_ne 1100 1#16 chk_1100 (d + 1) (by omega) (by omega) h3.symm
theorem pow_ne0 (a : Nat) : tmN 1#16 a ≠ 0#16 := fun h => absurd (tmN_inj0 a h) (by decide)
/-! A bit of a text turned. -/
def flip1 (y : ByteArray) (i : Nat) : ByteArray := ⟨y.data.setIfInBounds (i / 8) (UInt8.ofNat (((y.data[i / 8]?).getD 0).toNat ^^^ 2 ^ (i % 8)))⟩
theorem flip1_size (y : ByteArray) (i : Nat) : (flip1 y i).size = y.size := by
  show (flip1 y i).data.size = y.data.size
  unfold flip1
  rw [Array.size_setIfInBounds]
theorem xor_lt {b r : Nat} (hb : b < 256) (hr : r < 8) : b ^^^ 2 ^ r < 256 := by
  have h2 : 2 ^ r < 2 ^ 8 := Nat.pow_lt_pow_right (by decide) hr
  exact Nat.xor_lt_two_pow (n := 8) hb h2
theorem flip1_at (y : ByteArray) (i : Nat) (h : i / 8 < y.size) : (((flip1 y i).data[i / 8]?).getD 0).toNat = ((y.data[i / 8]?).getD 0).toNat ^^^ 2 ^ (i % 8) := by
  have h' : i / 8 < y.data.size := h
  unfold flip1
  simp only [Array.getElem?_setIfInBounds_self_of_lt h', Option.getD_some]
  exact ofNat_toNat (xor_lt (UInt8.toNat_lt _) (by omega))
theorem flip1_ne (y : ByteArray) (i j : Nat) (h : i / 8 ≠ j) : (flip1 y i).data[j]? = y.data[j]? := by
  unfold flip1
  simp only [Array.getElem?_setIfInBounds_ne h]
theorem upd_flip (y : ByteArray) (i : Nat) (h : i / 8 < y.size) : ∀ n, n ≤ y.size → upd 0#16 (flip1 y i) n = upd 0#16 y n ^^^ (if i / 8 < n then tmN 1#16 (8 * (n - 1 - i / 8) + (i % 8 + 16)) else 0#16)
  | 0, _ => by rw [if_neg (by omega), BitVec.xor_zero]; rfl
  | n + 1, hn => by
    have ih := upd_flip y i h n (by omega)
    rw [upd, upd, ih]
    rcases Nat.lt_trichotomy (i / 8) n with h1 | h1 | h1
    · rw [if_pos h1, if_pos (by omega), flip1_ne y i n (by omega), stp_lin, ← tmN_add]
      congr 2
      omega
    · subst h1
      rw [if_neg (by omega), if_pos (by omega), BitVec.xor_zero, flip1_at y i h, stp_flip]
      have h1 : tmN (BitVec.ofNat 16 (2 ^ (i % 8)) <<< 8) 8 = tmN 1#16 (i % 8 + 16) := one_bit ⟨i % 8, by omega⟩
      rw [h1]
      congr 2
      omega
    · rw [if_neg (by omega), if_neg (by omega), BitVec.xor_zero, BitVec.xor_zero, flip1_ne y i n (by omega)]
/-- How far from the end a bit is. -/
def far (L i : Nat) : Nat := 8 * (L - 1 - i / 8) + (i % 8 + 16)
theorem crc_flip (y : ByteArray) (i : Nat) (h : i < 8 * y.size) : crcN (flip1 y i) = crcN y ^^^ tmN 1#16 (far y.size i) := by
  unfold crcN
  rw [flip1_size, upd_flip y i (by omega) _ (Nat.le_refl _), if_pos (by omega)]
  rfl
theorem far_inj {L i k : Nat} (hi : i < 8 * L) (hk : k < 8 * L) (h : far L i = far L k) : i = k := by
  unfold far at h; omega
theorem far_le {L i : Nat} (hi : i < 8 * L) : 16 ≤ far L i ∧ far L i ≤ 8 * L + 16 := by
  unfold far; omega
/-! The whole text's check sum. -/
theorem upd_same {x y : ByteArray} (c : W16) : ∀ n, (∀ i, i < n → x.data[i]? = y.data[i]?) → upd c x n = upd c y n
  | 0, _ => rfl
  | n + 1, h => by rw [upd, upd, upd_same c n (fun i hi => h i (by omega)), h n (by omega)]
theorem byte_up : ∀ b : Fin 256, tmN (BitVec.ofNat 16 b.val) 8 = (BitVec.ofNat 16 b.val : W16) <<< 8 := by decide +kernel
theorem or_xor {a b : Nat} (ha : a < 256) (hb : b < 256) : ((BitVec.ofNat 16 a : W16) <<< 8) ||| BitVec.ofNat 16 b = ((BitVec.ofNat 16 a : W16) <<< 8) ^^^ BitVec.ofNat 16 b := by
  apply BitVec.eq_of_getLsbD_eq
  intro i hi
  simp only [BitVec.getLsbD_or, BitVec.getLsbD_xor, BitVec.getLsbD_shiftLeft, BitVec.getLsbD_ofNat]
  by_cases h : i < 8
  · simp [h]
  · have : b.testBit i = false := Nat.testBit_lt_two_pow (Nat.lt_of_lt_of_le hb (show 2 ^ 8 ≤ 2 ^ i from Nat.pow_le_pow_right (by decide) (by omega)))
    simp [h, this]
theorem crc_whole {y : ByteArray} (h : 2 ≤ y.size) : crcN y = tmN (crcN (bdy y) ^^^ sdW y) 16 := by
  obtain ⟨z, hz⟩ : ∃ z, y.size = z + 2 := ⟨y.size - 2, by omega⟩
  have hsz : y.data.size = z + 2 := hz
  obtain ⟨a, hA⟩ : ∃ a, y.data[z]? = some a := ⟨_, Array.getElem?_eq_getElem (by omega)⟩
  obtain ⟨b, hB⟩ : ∃ b, y.data[z + 1]? = some b := ⟨_, Array.getElem?_eq_getElem (by omega)⟩
  have ha := UInt8.toNat_lt a
  have hb := UInt8.toNat_lt b
  have hc : crcN (bdy y) = upd 0#16 y z := by
    have hs : (bdy y).size = z := by rw [bdy_size]; omega
    unfold crcN
    rw [hs]
    apply upd_same
    intro i hi
    unfold bdy
    rw [ByteArray.data_extract, Array.getElem?_extract, hz]
    simp [hi, show i < y.data.size by omega]
    intro hm
    omega
  obtain ⟨C, hC⟩ : ∃ C, upd 0#16 y z = C := ⟨_, rfl⟩
  unfold crcN at hc ⊢
  rw [hc, hz]
  unfold sdW
  rw [hz, show z + 2 - 2 = z from rfl, show z + 2 - 1 = z + 1 from rfl, hA, hB, Option.getD_some, Option.getD_some, or_xor ha hb]
  rw [upd, upd, hA, hB, Option.getD_some, Option.getD_some, hC, stp_tm, stp_tm]
  have e16 : ∀ D : W16, tmN D 16 = tmN (tmN D 8) 8 := fun D => tmN_add D 8 8
  rw [e16]
  rw [show (BitVec.ofNat 16 b.toNat : W16) <<< 8 = tmN (BitVec.ofNat 16 b.toNat) 8 from (byte_up ⟨b.toNat, hb⟩).symm, ← tmN_xor, BitVec.xor_assoc]
theorem crc_zero {y : ByteArray} (h : 2 ≤ y.size) : crcN y = 0#16 ↔ crcN (bdy y) = sdW y := by
  rw [crc_whole h]
  constructor
  · intro e; exact BitVec.xor_eq_zero_iff.1 (tmN_inj0 _ e)
  · intro e; rw [BitVec.xor_eq_zero_iff.2 e, tmN_zero]
end Go.Sh
namespace Go.Sh
set_option linter.unusedSectionVars false
set_option linter.unnecessarySimpa false
set_option linter.unusedVariables false
set_option linter.unusedSimpArgs false
set_option maxRecDepth 100000
set_option maxHeartbeats 4000000
def xorI8 (a b : Int) : Int := IntKind.u8.wrap ((BitVec.ofInt 8 a ^^^ BitVec.ofInt 8 b).toNat)
@[go_sem high] theorem sb_xor8 (a b : Int) : sbin .xor (.int .u8 a) (.int .u8 b) = some (.int .u8 (xorI8 a b)) := by
  simp only [sbin, beq_self_eq_true, cond_true]; rfl
theorem xor8 {b r : Nat} (hb : b < 256) (hr : r < 8) : xorI8 (b : Int) (IntKind.u8.wrap (1 * 2 ^ min r 8)) = ((b ^^^ 2 ^ r : Nat) : Int) := by
  have h2 : 2 ^ r < 2 ^ 8 := Nat.pow_lt_pow_right (by decide) hr
  have h3 := xor_lt hb hr
  have h1 : ((1 : Int) * 2 ^ r) = ((2 ^ r : Nat) : Int) := by rw [Int.one_mul, Int.natCast_pow]; rfl
  obtain ⟨m, hm⟩ : ∃ m, 2 ^ r = m := ⟨_, rfl⟩
  unfold xorI8
  rw [Nat.min_eq_left (by omega), h1]
  rw [hm] at h2 h3 ⊢
  rw [wrap8 (n := (m : Int)) (by omega) (by omega), BitVec.toNat_xor, ofInt_nat8 _ hb, ofInt_nat8 _ h2]
  exact wrap8 (by omega) (by omega)
@[go_sem] theorem bytesL_len {y : ByteArray} : (bytesL y).length = y.size := by unfold bytesL; rw [List.length_map, Array.length_toList]; rfl
theorem bytesL_get {y : ByteArray} {j : Nat} (h : j < y.size) : (bytesL y)[j]? = some [.int .u8 (((y.data[j]?).getD 0).toNat : Nat)] := by
  have h' : j < y.data.size := h
  unfold bytesL
  rw [List.getElem?_map, Array.getElem?_toList, Array.getElem?_eq_getElem h', Option.map_some, Option.getD_some]
theorem bytesL_set {y : ByteArray} {i : Nat} (h : i / 8 < y.size) : (bytesL y).set (i / 8) [.int .u8 ((((y.data[i / 8]?).getD 0).toNat ^^^ 2 ^ (i % 8) : Nat) : Int)] = bytesL (flip1 y i) := by
  have h' : i / 8 < y.data.size := h
  have hx : ((y.data[i / 8]?).getD 0).toNat ^^^ 2 ^ (i % 8) < 256 := xor_lt (UInt8.toNat_lt _) (by omega)
  unfold bytesL flip1
  rw [Array.toList_setIfInBounds, List.map_set, ofNat_toNat hx]
theorem toB_bytesL (y : ByteArray) : toBytes (bytesL y) = some y.data.toList := by
  have key : ∀ l : List UInt8, toBytes (l.map fun b => [SV.int .u8 (b.toNat : Nat)]) = some l := by
    intro l
    induction l with
    | nil => rfl
    | cons b l ih => rw [List.map_cons, toB_cons, ih, Option.map_some, UInt8.ofNat_toNat]
  exact key _
theorem arr_list (y : ByteArray) : (⟨y.data.toList.toArray⟩ : ByteArray) = y := by rw [Array.toArray_toList]
theorem flip_twice (y : ByteArray) (i : Nat) (h : i / 8 < y.size) : flip1 (flip1 y i) i = y := by
  have h' : i / 8 < y.data.size := h
  have hv := flip1_at y i h
  have hd : (flip1 (flip1 y i) i).data = y.data := by
    rw [flip1]
    show (flip1 y i).data.setIfInBounds (i / 8) (UInt8.ofNat ((((flip1 y i).data[i / 8]?).getD 0).toNat ^^^ 2 ^ (i % 8))) = y.data
    rw [hv, Nat.xor_assoc, Nat.xor_self, Nat.xor_zero, UInt8.ofNat_toNat]
    apply Array.ext_getElem?
    intro j
    by_cases hj : i / 8 = j
    · subst hj
      rw [Array.getElem?_setIfInBounds_self_of_lt (by show i / 8 < (flip1 y i).size; rw [flip1_size]; exact h), Array.getElem?_eq_getElem h', Option.getD_some]
    · rw [Array.getElem?_setIfInBounds_ne hj, flip1_ne y i j hj]
  cases h2 : flip1 (flip1 y i) i with
  | mk d =>
    rw [h2] at hd
    cases y with
    | mk e => exact congrArg ByteArray.mk hd
theorem tmodN (a m : Nat) : ((a : Int)).tmod (m : Int) = ((a % m : Nat) : Int) := by rw [Int.tmod_eq_emod_of_nonneg (by omega)]; rfl
/-- A text whose check sum is wrong is refused. -/
theorem deV_bad {y : ByteArray} (h1 : y.size ≤ 127) (h2 : 2 ≤ y.size) (hc : crcN y ≠ 0#16) : deV y = .tup [.agg fZ, .int .i64 10] := by
  unfold deV
  rw [if_neg (by omega), if_neg (by omega), if_neg (fun e => hc ((crc_zero h2).2 e))]
theorem s8 (k a d q o c m e t u v : Int) (x : ByteArray) (A B : Nat) (hA : A < 65536) (hB : B < 65536) :
    call1 T 41 (.fn 8) [.agg (fr k a d q o c m e t u v x), .int .u16 A, .int .u16 B] heap0 = some (.bool true, heap0) := by
  refine call_pure e8 (by rfl) ?_
  cases hx : decide (100 < (x.size : Int)) with
  | true => simp only [c8, heap0, go_sem, Int.cast_ofNat_Int, Int.reduceToNat, Bool.true_xor, Bool.false_xor, Bool.xor_true, Bool.xor_false, Nat.reduceAdd, Nat.reduceBEq, Nat.reduceLeDiff, Nat.reduceLT, Nat.reduceMul, Nat.reduceSub, Int.reduceEq, Int.reduceLT, Int.reduceLE, Int.reduceNeg, s10, hx]
  | false =>
    have hX : x.size ≤ 10000 := by simp only [decide_eq_false_iff_not] at hx; omega
    have h11 := fun H => s11 32 H k a d q o c m e t u v x hX
    cases hk : okV k a d q o c m e t u v x with
    | false =>
      rw [enV_no _ _ _ _ _ _ _ _ _ _ _ _ hk] at h11
      have hn := erV_ne k a d q o c m e t u v x
      simp only [c8, heap0, go_sem, Int.cast_ofNat_Int, Int.reduceToNat, Bool.true_xor, Bool.false_xor, Bool.xor_true, Bool.xor_false, Nat.reduceAdd, Nat.reduceBEq, Nat.reduceLeDiff, Nat.reduceLT, Nat.reduceMul, Nat.reduceSub, Int.reduceEq, Int.reduceLT, Int.reduceLE, Int.reduceNeg, s10, hx, h11, hn]
    | true =>
      rw [enV_ok _ _ _ _ _ _ _ _ _ _ _ _ hk] at h11
      unfold okV at hk
      rw [Bool.and_eq_true, Bool.not_eq_true', Bool.or_eq_false_iff, decide_eq_false_iff_not, decide_eq_false_iff_not] at hk
      obtain ⟨hc, hx2, hP⟩ := hk
      obtain ⟨b1, b2⟩ := back hc (by omega)
      obtain ⟨S, hS⟩ : ∃ S, pkB (enBits k a d q o c m e t u v x) = S := ⟨_, rfl⟩
      rw [hS] at h11 b1 b2 hP
      have hsz := prot_size S
      have hdec := deV_prot S (by omega)
      rw [b1, b2] at hdec
      have hz : crcN (prot S) = 0#16 := (crc_zero (by omega)).2 (by rw [bdy_prot, sdW_prot])
      obtain ⟨y, hy⟩ : ∃ y, prot S = y := ⟨_, rfl⟩
      rw [hy] at h11 hdec hz hsz
      obtain ⟨L, hL⟩ : ∃ L, y.size = L := ⟨_, rfl⟩
      have hL2 : 2 ≤ L := by omega
      have hL7 : L ≤ 127 := by omega
      obtain ⟨i, hi⟩ : ∃ i, A % (8 * L) = i := ⟨_, rfl⟩
      obtain ⟨j, hj⟩ : ∃ j, B % (8 * L) = j := ⟨_, rfl⟩
      have hi2 : i < 8 * L := by rw [← hi]; exact Nat.mod_lt _ (by omega)
      have hj2 : j < 8 * L := by rw [← hj]; exact Nat.mod_lt _ (by omega)
      have w1 : w64 (8 * (L : Int)) = ((8 * L : Nat) : Int) := by rw [w64_id (by omega) (by omega)]; omega
      have w2 : w64 (A : Int) = (A : Int) := w64_id (by omega) (by omega)
      have w3 : w64 (B : Int) = (B : Int) := w64_id (by omega) (by omega)
      have d0 : decide (((8 * L : Nat) : Int) = 0) = false := decide_eq_false (by omega)
      have d1 : decide ((L : Int) = 0) = false := decide_eq_false (by omega)
      have t1 : ((A : Int)).tmod ((8 * L : Nat) : Int) = (i : Int) := by rw [tmodN, hi]
      have t2 : ((B : Int)).tmod ((8 * L : Nat) : Int) = (j : Int) := by rw [tmodN, hj]
      have w4 : w64 (i : Int) = (i : Int) := w64_id (by omega) (by omega)
      have w5 : w64 (j : Int) = (j : Int) := w64_id (by omega) (by omega)
      have w6 : w64 ((i / 8 : Nat) : Int) = ((i / 8 : Nat) : Int) := w64_id (by omega) (by omega)
      have w7 : w64 ((j / 8 : Nat) : Int) = ((j / 8 : Nat) : Int) := w64_id (by omega) (by omega)
      have w8 : w64 ((i % 8 : Nat) : Int) = ((i % 8 : Nat) : Int) := w64_id (by omega) (by omega)
      have w9 : w64 ((j % 8 : Nat) : Int) = ((j % 8 : Nat) : Int) := w64_id (by omega) (by omega)
      have l1 : decide (i / 8 < L) = true := decide_eq_true (by omega)
      have l2 : decide (j / 8 < L) = true := decide_eq_true (by omega)
      have s1 : (flip1 y i).size = L := by rw [flip1_size, hL]
      have s2 : (flip1 (flip1 y i) j).size = L := by rw [flip1_size, s1]
      have g1 := bytesL_get (y := y) (j := i / 8) (by omega)
      have g2 := bytesL_get (y := flip1 y i) (j := j / 8) (by omega)
      have q1 := bytesL_set (y := y) (i := i) (by omega)
      have q2 := bytesL_set (y := flip1 y i) (i := j) (by omega)
      have x1 := xor8 (b := ((y.data[i / 8]?).getD 0).toNat) (r := i % 8) (UInt8.toNat_lt _) (by omega)
      have x2 := xor8 (b := (((flip1 y i).data[j / 8]?).getD 0).toNat) (r := j % 8) (UInt8.toNat_lt _) (by omega)
      have c1 := crc_flip y i (by omega)
      rw [hz, BitVec.zero_xor, hL] at c1
      have c2 := crc_flip (flip1 y i) j (by omega)
      rw [c1, s1] at c2
      have v1 := deV_bad (y := flip1 y i) (by omega) (by omega) (by rw [c1]; exact pow_ne0 _)
      have r1 := fun H => s22 32 H (flip1 y i)
      rw [v1] at r1
      have r2 := fun H => s22 32 H (flip1 (flip1 y i) j)
      have tk : ∀ z : ByteArray, z.size = L → List.take L (bytesL z) = bytesL z := fun z hz => List.take_of_length_le (by rw [bytesL_len, hz]; exact Nat.le_refl _)
      have tk1 := tk _ s1
      have tk2 := tk _ s2
      have ll : decide (L ≤ L) = true := decide_eq_true (Nat.le_refl _)
      obtain ⟨y1, hy1⟩ : ∃ y1, flip1 y i = y1 := ⟨_, rfl⟩
      rw [hy1] at s1 s2 g2 q1 q2 x2 c2 r1 r2 tk1 tk2
      obtain ⟨y2, hy2⟩ : ∃ y2, flip1 y1 j = y2 := ⟨_, rfl⟩
      rw [hy2] at s2 q2 c2 r2 tk2
      obtain ⟨p1, hp1⟩ : ∃ p, ((y.data[i / 8]?).getD 0).toNat = p := ⟨_, rfl⟩
      obtain ⟨p2, hp2⟩ : ∃ p, ((y1.data[j / 8]?).getD 0).toNat = p := ⟨_, rfl⟩
      rw [hp1] at g1 q1 x1
      rw [hp2] at g2 q2 x2
      by_cases hij : i = j
      · have e2 : y2 = y := by rw [← hy2, ← hy1, ← hij]; exact flip_twice y i (by omega)
        rw [e2, hdec] at r2
        have dij : decide ((i : Int) = (j : Int)) = true := decide_eq_true (by omega)
        rw [e2] at q2 tk2
        simp only [c8, heap0, go_sem, Int.cast_ofNat_Int, Int.reduceToNat, Bool.true_xor, Bool.false_xor, Bool.xor_true, Bool.xor_false, Nat.reduceAdd, Nat.reduceBEq, Nat.reduceLeDiff, Nat.reduceLT, Nat.reduceMul, Nat.reduceSub, Int.reduceEq, Int.reduceLT, Int.reduceLE, Int.reduceNeg, s10, hx, h11, hL, w1, w2, w3, d0, d1, t1, t2, w4, w5, w6, w7, w8, w9, l1, l2, s1, g1, g2, q1, q2, x1, x2, r1, r2, tk1, tk2, ll, toB_bytesL, arr_list, dij, dself, Int.toNat_natCast]
      · have v2 : deV y2 = .tup [.agg fZ, .int .i64 10] := by
          refine deV_bad (by omega) (by omega) ?_
          rw [c2]
          have f1 := far_le (L := L) hi2
          have f2 := far_le (L := L) hj2
          rcases Nat.lt_trichotomy (far L i) (far L j) with h | h | h
          · exact pow_ne h (by omega)
          · exact absurd (far_inj hi2 hj2 h) hij
          · rw [BitVec.xor_comm]; exact pow_ne h (by omega)
        rw [v2] at r2
        have dij : decide ((i : Int) = (j : Int)) = false := decide_eq_false (by omega)
        simp only [c8, heap0, go_sem, Int.cast_ofNat_Int, Int.reduceToNat, Bool.true_xor, Bool.false_xor, Bool.xor_true, Bool.xor_false, Nat.reduceAdd, Nat.reduceBEq, Nat.reduceLeDiff, Nat.reduceLT, Nat.reduceMul, Nat.reduceSub, Int.reduceEq, Int.reduceLT, Int.reduceLE, Int.reduceNeg, s10, hx, h11, hL, w1, w2, w3, d0, d1, t1, t2, w4, w5, w6, w7, w8, w9, l1, l2, s1, s2, g1, g2, q1, q2, x1, x2, r1, r2, tk1, tk2, ll, toB_bytesL, arr_list, dij, dself, Int.toNat_natCast]
theorem law8 (ys : List SV) (h : FitsAll [frD, (false, [.int .u16]), (false, [.int .u16])] ys) : ∃ m, call1 T m (.fn 8) ys heap0 = some (.bool true, heap0) := by
  obtain ⟨x1, r1, rfl, h1, h⟩ := fitsAll_cons h
  obtain ⟨x2, r2, rfl, h2, h⟩ := fitsAll_cons h
  obtain ⟨x3, r3, rfl, h3, h⟩ := fitsAll_cons h
  cases fitsAll_nil h
  obtain ⟨k, s, d, q, o, c, m, e, t, u, v, x, rfl⟩ := fr_of h1
  obtain ⟨a, rfl, ha⟩ := fits_int (fitsA_one h2)
  obtain ⟨b, rfl, hb⟩ := fits_int (fitsA_one h3)
  simp only [Lit.wf, Bool.and_eq_true, decide_eq_true_eq] at ha hb
  have ha2 : 0 ≤ a ∧ a < 65536 := by have e1 : IntKind.u16.min = 0 := by decide
                                     have e2 : IntKind.u16.max = 65535 := by decide
                                     omega
  have hb2 : 0 ≤ b ∧ b < 65536 := by have e1 : IntKind.u16.min = 0 := by decide
                                     have e2 : IntKind.u16.max = 65535 := by decide
                                     omega
  obtain ⟨A, rfl⟩ := Int.eq_ofNat_of_zero_le ha2.1
  obtain ⟨B, rfl⟩ := Int.eq_ofNat_of_zero_le hb2.1
  exact ⟨41, s8 k s d q o c m e t u v x A B (by omega) (by omega)⟩
end Go.Sh
