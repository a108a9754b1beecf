

import Derived.Test.YtcfgikdpokjhpaaGreatC2
import Derived.Test.YtcfgikdpokjhpaaGreatC1
namespace Go.Sh
set_option linter.unusedSectionVars false
set_option linter.unnecessarySimpa false
set_option linter.unusedVariables false
set_option linter.unusedSimpArgs false
set_option maxRecDepth 100000
set_option maxHeartbeats 4000000
namespace C13
theorem s90 (n : Nat) (es : List (Nat × Nat)) (b0 : SBlk) : call1 T (n + 1) (.kfn 90) [] ⟨[b0], es, 0⟩ = some (.ptr 1 0 0 0, ⟨[b0, .box [.lst 0 [] true, .int .i64 0]], es, 0⟩) := by
  refine kcall_in e90 ?_
  simp only [c90, go_sem, Int.reduceToNat, Nat.reduceAdd, Nat.reduceBEq, Nat.reduceLeDiff, Nat.reduceLT, Nat.reduceMul, Nat.reduceSub, Int.reduceEq, Int.reduceLT, Int.reduceLE, Int.reduceNeg]
theorem s12_1a (n : Nat) (H : Heap) (s d q o c m e t u v : Int) (x : ByteArray) (hch : chB 1 s d q o c m e t u v x = true) (hx : x.size ≤ 127) (hd : 0 ≤ d) : call1 T (n + 5) (.fn 51) [.agg (fr 1 s d q o c m e t u v x)] H = some (enV 1 s d q o c m e t u v x, H) := by
  refine call_pure e51 (by rfl) ?_
  have h18 := fun H => s89 (n + 2) H 1 s d q o c m e t u v x
  rw [hch] at h18
  obtain ⟨hs, hd1, hd0, hq, ho, hk⟩ := chB_k hch
  obtain ⟨hcc, hmm⟩ : (0 ≤ c ∧ c ≤ 255) ∧ (0 ≤ m ∧ m ≤ 65535) := by rcases hk with h | h | h | h <;> first | exact h.2 | (exfalso; omega)
  have h29 := fun es b0 => s90 (n + 3) es b0
  obtain ⟨B0, hB0⟩ : ∃ B, B = [] ++ bits 3 1 := ⟨_, rfl⟩
  have lB0 : B0.length = 3 := by rw [hB0, List.length_append, bits_len] <;> rfl
  have h0 : ∀ es, call1 T (n + 4) (.fn 91) [.ptr 1 0 0 0, .int .i64 3, .int .i64 1] (⟨[.box (fr 1 s d q o c m e t u v x), .box [.slc 2 0 0 0, .int .i64 0], .arr 0 1 [] false], es, 0⟩) = some (.tup [], rH (.box (fr 1 s d q o c m e t u v x)) B0 [] (es ++ rk 3)) := fun es => by
    have := s91 (.box (fr 1 s d q o c m e t u v x)) [] es [] (n + 2) 3 1 (by omega) (by omega) (by omega) (by rw [List.length_nil]; omega)
    rw [hB0]; exact this
  obtain ⟨B1, hB1⟩ : ∃ B, B = B0 ++ bits 5 s.toNat := ⟨_, rfl⟩
  have lB1 : B1.length = 8 := by rw [hB1, List.length_append, bits_len, lB0]
  have h1 : ∀ es, call1 T (n + 4) (.fn 91) [.ptr 1 0 0 0, .int .i64 5, .int .i64 s] (rH (.box (fr 1 s d q o c m e t u v x)) B0 [] es) = some (.tup [], rH (.box (fr 1 s d q o c m e t u v x)) B1 [] (es ++ rk 5)) := fun es => by
    have := s91 (.box (fr 1 s d q o c m e t u v x)) [] es B0 (n + 2) 5 s.toNat (by omega) (by omega) (by omega) (by rw [lB0]; omega)
    rw [Int.toNat_of_nonneg hs.1] at this
    rw [hB1]; exact this
  obtain ⟨B2, hB2⟩ : ∃ B, B = B1 ++ bits 1 (bt true) := ⟨_, rfl⟩
  have lB2 : B2.length = 9 := by rw [hB2, List.length_append, bits_len, lB1]
  have h2 : ∀ es, call1 T (n + 4) (.fn 92) [.ptr 1 0 0 0, .bool true] (rH (.box (fr 1 s d q o c m e t u v x)) B1 [] es) = some (.tup [], rH (.box (fr 1 s d q o c m e t u v x)) B2 [] (es ++ rk 1)) := fun es => by
    have := s92 (.box (fr 1 s d q o c m e t u v x)) [] es B1 (n + 2) true (by rw [lB1]; omega)
    rw [hB2]; exact this
  obtain ⟨B3, hB3⟩ : ∃ B, B = B2 ++ bits 5 d.toNat := ⟨_, rfl⟩
  have lB3 : B3.length = 14 := by rw [hB3, List.length_append, bits_len, lB2]
  have h3 : ∀ es, call1 T (n + 4) (.fn 91) [.ptr 1 0 0 0, .int .i64 5, .int .i64 d] (rH (.box (fr 1 s d q o c m e t u v x)) B2 [] es) = some (.tup [], rH (.box (fr 1 s d q o c m e t u v x)) B3 [] (es ++ rk 5)) := fun es => by
    have := s91 (.box (fr 1 s d q o c m e t u v x)) [] es B2 (n + 2) 5 d.toNat (by omega) (by omega) (by omega) (by rw [lB2]; omega)
    rw [Int.toNat_of_nonneg hd] at this
    rw [hB3]; exact this
  obtain ⟨B4, hB4⟩ : ∃ B, B = B3 ++ bits 8 q.toNat := ⟨_, rfl⟩
  have lB4 : B4.length = 22 := by rw [hB4, List.length_append, bits_len, lB3]
  have h4 : ∀ es, call1 T (n + 4) (.fn 91) [.ptr 1 0 0 0, .int .i64 8, .int .i64 q] (rH (.box (fr 1 s d q o c m e t u v x)) B3 [] es) = some (.tup [], rH (.box (fr 1 s d q o c m e t u v x)) B4 [] (es ++ rk 8)) := fun es => by
    have := s91 (.box (fr 1 s d q o c m e t u v x)) [] es B3 (n + 2) 8 q.toNat (by omega) (by omega) (by omega) (by rw [lB3]; omega)
    rw [Int.toNat_of_nonneg hq.1] at this
    rw [hB4]; exact this
  obtain ⟨B5, hB5⟩ : ∃ B, B = B4 ++ bits 8 o.toNat := ⟨_, rfl⟩
  have lB5 : B5.length = 30 := by rw [hB5, List.length_append, bits_len, lB4]
  have h5 : ∀ es, call1 T (n + 4) (.fn 91) [.ptr 1 0 0 0, .int .i64 8, .int .i64 o] (rH (.box (fr 1 s d q o c m e t u v x)) B4 [] es) = some (.tup [], rH (.box (fr 1 s d q o c m e t u v x)) B5 [] (es ++ rk 8)) := fun es => by
    have := s91 (.box (fr 1 s d q o c m e t u v x)) [] es B4 (n + 2) 8 o.toNat (by omega) (by omega) (by omega) (by rw [lB4]; omega)
    rw [Int.toNat_of_nonneg ho.1] at this
    rw [hB5]; exact this
  obtain ⟨B6, hB6⟩ : ∃ B, B = B5 ++ bits 8 c.toNat := ⟨_, rfl⟩
  have lB6 : B6.length = 38 := by rw [hB6, List.length_append, bits_len, lB5]
  have h6 : ∀ es, call1 T (n + 4) (.fn 91) [.ptr 1 0 0 0, .int .i64 8, .int .i64 c] (rH (.box (fr 1 s d q o c m e t u v x)) B5 [] es) = some (.tup [], rH (.box (fr 1 s d q o c m e t u v x)) B6 [] (es ++ rk 8)) := fun es => by
    have := s91 (.box (fr 1 s d q o c m e t u v x)) [] es B5 (n + 2) 8 c.toNat (by omega) (by omega) (by omega) (by rw [lB5]; omega)
    rw [Int.toNat_of_nonneg hcc.1] at this
    rw [hB6]; exact this
  obtain ⟨B7, hB7⟩ : ∃ B, B = B6 ++ bits 16 m.toNat := ⟨_, rfl⟩
  have lB7 : B7.length = 54 := by rw [hB7, List.length_append, bits_len, lB6]
  have h7 : ∀ es, call1 T (n + 4) (.fn 91) [.ptr 1 0 0 0, .int .i64 16, .int .i64 m] (rH (.box (fr 1 s d q o c m e t u v x)) B6 [] es) = some (.tup [], rH (.box (fr 1 s d q o c m e t u v x)) B7 [] (es ++ rk 16)) := fun es => by
    have := s91 (.box (fr 1 s d q o c m e t u v x)) [] es B6 (n + 2) 16 m.toNat (by omega) (by omega) (by omega) (by rw [lB6]; omega)
    rw [Int.toNat_of_nonneg hmm.1] at this
    rw [hB7]; exact this
  obtain ⟨B8, hB8⟩ : ∃ B, B = B7 ++ bits 7 x.size ++ txB x x.size := ⟨_, rfl⟩
  have lB8 : B8.length = 61 + 8 * x.size := by rw [hB8, List.length_append, List.length_append, bits_len, lB7, txB_len]
  have h8 : ∀ es, call1 T (n + 4) (.fn 94) [.ptr 1 0 0 0, .int .i64 127, .str x] (rH (.box (fr 1 s d q o c m e t u v x)) B7 [] es) = some (.tup [], rH (.box (fr 1 s d q o c m e t u v x)) B8 [] (es ++ rk (7 + 8 * x.size))) := fun es => by
    rw [hB8]; exact s94 (.box (fr 1 s d q o c m e t u v x)) [] es B7 (n + 2) x hx (by rw [lB7]; omega)
  have hE : enBits 1 s d q o c m e t u v x = B8 := by
    have kd1 : decide ((1 : Int) = 1) = true := rfl
    have kd2 : decide ((1 : Int) = 2) = false := rfl
    have kd3 : decide ((1 : Int) = 3) = false := rfl
    have hd2 : decide (0 ≤ d) = true := decide_eq_true (by omega)
    rw [hB8, hB7, hB6, hB5, hB4, hB3, hB2, hB1, hB0]
    have h3 : ((1 : Int)).toNat = 1 := rfl
    simp only [enBits, bdBits, tgBits, kd1, kd2, kd3, hd2, h3, decide_true, decide_false, cond_true, cond_false, List.append_assoc, List.nil_append, List.append_nil]
  have h34 := fun es => s95 (n + 3) (.box (fr 1 s d q o c m e t u v x)) es B8 (by rw [lB8]; omega)
  have hps : (pkB B8).size ≤ 1000 := by rw [pkB_size, lB8]; unfold nb; omega
  obtain ⟨P, hP⟩ : ∃ P, pkB B8 = P := ⟨_, rfl⟩
  have h35 := fun H => s96 n H (pkB B8) hps
  have hsz : (prot P).size = P.size + 2 := prot_size _
  unfold enV
  rw [hE, hch, decide_eq_false (show ¬ 127 < x.size by omega)]
  rw [hP] at h34 h35 ⊢
  have xx : decide ((127 : Int) < (x.size : Int)) = false := decide_eq_false (by omega)
  have xd : decide ((0 : Int) ≤ d) = true := decide_eq_true (by omega)
  cases hp : decide (127 < P.size + 2) with
  | false =>
    have hp2 : decide ((127 : Int) < ((P.size + 2 : Nat) : Int)) = false := by simp only [decide_eq_false_iff_not] at hp ⊢; omega
    simp only [c51, heap0, go_sem, Int.reduceToNat, Nat.reduceAdd, Nat.reduceBEq, Nat.reduceLeDiff, Nat.reduceLT, Nat.reduceMul, Nat.reduceSub, Int.reduceEq, Int.reduceLT, Int.reduceLE, Int.reduceNeg, h18, h29, h0, h1, h2, h3, h4, h5, h6, h7, h8, h34, h35, xx, xd, hsz, hp, hp2, Nat.reduceMod, Nat.reduceDiv, List.length_cons, List.length_nil, List.filter_replicate, List.all_replicate, List.filter_append, List.all_append, Bool.and_self, ite_self, if_true]
  | true =>
    have hp2 : decide ((127 : Int) < ((P.size + 2 : Nat) : Int)) = true := by simp only [decide_eq_true_eq] at hp ⊢; omega
    simp only [c51, heap0, go_sem, Int.reduceToNat, Nat.reduceAdd, Nat.reduceBEq, Nat.reduceLeDiff, Nat.reduceLT, Nat.reduceMul, Nat.reduceSub, Int.reduceEq, Int.reduceLT, Int.reduceLE, Int.reduceNeg, h18, h29, h0, h1, h2, h3, h4, h5, h6, h7, h8, h34, h35, xx, xd, hsz, hp, hp2, Nat.reduceMod, Nat.reduceDiv, List.length_cons, List.length_nil, List.filter_replicate, List.all_replicate, List.filter_append, List.all_append, Bool.and_self, ite_self, if_true]
theorem s12_2a (n : Nat) (H : Heap) (s d q o c m e t u v : Int) (x : ByteArray) (hch : chB 2 s d q o c m e t u v x = true) (hx : x.size ≤ 127) (hd : 0 ≤ d) : call1 T (n + 5) (.fn 51) [.agg (fr 2 s d q o c m e t u v x)] H = some (enV 2 s d q o c m e t u v x, H) := by
  refine call_pure e51 (by rfl) ?_
  have h18 := fun H => s89 (n + 2) H 2 s d q o c m e t u v x
  rw [hch] at h18
  obtain ⟨hs, hd1, hd0, hq, ho, hk⟩ := chB_k hch
  obtain ⟨hee, hx0⟩ : (-32768 ≤ e ∧ e ≤ 32767) ∧ x = ⟨#[]⟩ := by rcases hk with h | h | h | h <;> first | exact h.2 | (exfalso; omega)
  have h29 := fun es b0 => s90 (n + 3) es b0
  obtain ⟨B0, hB0⟩ : ∃ B, B = [] ++ bits 3 2 := ⟨_, rfl⟩
  have lB0 : B0.length = 3 := by rw [hB0, List.length_append, bits_len] <;> rfl
  have h0 : ∀ es, call1 T (n + 4) (.fn 91) [.ptr 1 0 0 0, .int .i64 3, .int .i64 2] (⟨[.box (fr 2 s d q o c m e t u v x), .box [.slc 2 0 0 0, .int .i64 0], .arr 0 1 [] false], es, 0⟩) = some (.tup [], rH (.box (fr 2 s d q o c m e t u v x)) B0 [] (es ++ rk 3)) := fun es => by
    have := s91 (.box (fr 2 s d q o c m e t u v x)) [] es [] (n + 2) 3 2 (by omega) (by omega) (by omega) (by rw [List.length_nil]; omega)
    rw [hB0]; exact this
  obtain ⟨B1, hB1⟩ : ∃ B, B = B0 ++ bits 5 s.toNat := ⟨_, rfl⟩
  have lB1 : B1.length = 8 := by rw [hB1, List.length_append, bits_len, lB0]
  have h1 : ∀ es, call1 T (n + 4) (.fn 91) [.ptr 1 0 0 0, .int .i64 5, .int .i64 s] (rH (.box (fr 2 s d q o c m e t u v x)) B0 [] es) = some (.tup [], rH (.box (fr 2 s d q o c m e t u v x)) B1 [] (es ++ rk 5)) := fun es => by
    have := s91 (.box (fr 2 s d q o c m e t u v x)) [] es B0 (n + 2) 5 s.toNat (by omega) (by omega) (by omega) (by rw [lB0]; omega)
    rw [Int.toNat_of_nonneg hs.1] at this
    rw [hB1]; exact this
  obtain ⟨B2, hB2⟩ : ∃ B, B = B1 ++ bits 1 (bt true) := ⟨_, rfl⟩
  have lB2 : B2.length = 9 := by rw [hB2, List.length_append, bits_len, lB1]
  have h2 : ∀ es, call1 T (n + 4) (.fn 92) [.ptr 1 0 0 0, .bool true] (rH (.box (fr 2 s d q o c m e t u v x)) B1 [] es) = some (.tup [], rH (.box (fr 2 s d q o c m e t u v x)) B2 [] (es ++ rk 1)) := fun es => by
    have := s92 (.box (fr 2 s d q o c m e t u v x)) [] es B1 (n + 2) true (by rw [lB1]; omega)
    rw [hB2]; exact this
  obtain ⟨B3, hB3⟩ : ∃ B, B = B2 ++ bits 5 d.toNat := ⟨_, rfl⟩
  have lB3 : B3.length = 14 := by rw [hB3, List.length_append, bits_len, lB2]
  have h3 : ∀ es, call1 T (n + 4) (.fn 91) [.ptr 1 0 0 0, .int .i64 5, .int .i64 d] (rH (.box (fr 2 s d q o c m e t u v x)) B2 [] es) = some (.tup [], rH (.box (fr 2 s d q o c m e t u v x)) B3 [] (es ++ rk 5)) := fun es => by
    have := s91 (.box (fr 2 s d q o c m e t u v x)) [] es B2 (n + 2) 5 d.toNat (by omega) (by omega) (by omega) (by rw [lB2]; omega)
    rw [Int.toNat_of_nonneg hd] at this
    rw [hB3]; exact this
  obtain ⟨B4, hB4⟩ : ∃ B, B = B3 ++ bits 8 q.toNat := ⟨_, rfl⟩
  have lB4 : B4.length = 22 := by rw [hB4, List.length_append, bits_len, lB3]
  have h4 : ∀ es, call1 T (n + 4) (.fn 91) [.ptr 1 0 0 0, .int .i64 8, .int .i64 q] (rH (.box (fr 2 s d q o c m e t u v x)) B3 [] es) = some (.tup [], rH (.box (fr 2 s d q o c m e t u v x)) B4 [] (es ++ rk 8)) := fun es => by
    have := s91 (.box (fr 2 s d q o c m e t u v x)) [] es B3 (n + 2) 8 q.toNat (by omega) (by omega) (by omega) (by rw [lB3]; omega)
    rw [Int.toNat_of_nonneg hq.1] at this
    rw [hB4]; exact this
  obtain ⟨B5, hB5⟩ : ∃ B, B = B4 ++ bits 8 o.toNat := ⟨_, rfl⟩
  have lB5 : B5.length = 30 := by rw [hB5, List.length_append, bits_len, lB4]
  have h5 : ∀ es, call1 T (n + 4) (.fn 91) [.ptr 1 0 0 0, .int .i64 8, .int .i64 o] (rH (.box (fr 2 s d q o c m e t u v x)) B4 [] es) = some (.tup [], rH (.box (fr 2 s d q o c m e t u v x)) B5 [] (es ++ rk 8)) := fun es => by
    have := s91 (.box (fr 2 s d q o c m e t u v x)) [] es B4 (n + 2) 8 o.toNat (by omega) (by omega) (by omega) (by rw [lB4]; omega)
    rw [Int.toNat_of_nonneg ho.1] at this
    rw [hB5]; exact this
  obtain ⟨B6, hB6⟩ : ∃ B, B = B5 ++ bits 16 (sgN e) := ⟨_, rfl⟩
  have lB6 : B6.length = 46 := by rw [hB6, List.length_append, bits_len, lB5]
  have h6 : ∀ es, call1 T (n + 4) (.fn 93) [.ptr 1 0 0 0, .int .i64 16, .int .i64 e] (rH (.box (fr 2 s d q o c m e t u v x)) B5 [] es) = some (.tup [], rH (.box (fr 2 s d q o c m e t u v x)) B6 [] (es ++ rk 16)) := fun es => by
    have := s93 (.box (fr 2 s d q o c m e t u v x)) [] es B5 (n + 2) e hee.1 hee.2 (by rw [lB5]; omega)
    rw [hB6]; exact this
  have hE : enBits 2 s d q o c m e t u v x = B6 := by
    have kd1 : decide ((2 : Int) = 1) = false := rfl
    have kd2 : decide ((2 : Int) = 2) = true := rfl
    have kd3 : decide ((2 : Int) = 3) = false := rfl
    have hd2 : decide (0 ≤ d) = true := decide_eq_true (by omega)
    rw [hB6, hB5, hB4, hB3, hB2, hB1, hB0]
    have h3 : ((2 : Int)).toNat = 2 := rfl
    simp only [enBits, bdBits, tgBits, kd1, kd2, kd3, hd2, h3, decide_true, decide_false, cond_true, cond_false, List.append_assoc, List.nil_append, List.append_nil]
  have h34 := fun es => s95 (n + 3) (.box (fr 2 s d q o c m e t u v x)) es B6 (by rw [lB6]; omega)
  have hps : (pkB B6).size ≤ 1000 := by rw [pkB_size, lB6]; unfold nb; omega
  obtain ⟨P, hP⟩ : ∃ P, pkB B6 = P := ⟨_, rfl⟩
  have h35 := fun H => s96 n H (pkB B6) hps
  have hsz : (prot P).size = P.size + 2 := prot_size _
  unfold enV
  rw [hE, hch, decide_eq_false (show ¬ 127 < x.size by omega)]
  rw [hP] at h34 h35 ⊢
  have xx : decide ((127 : Int) < (x.size : Int)) = false := decide_eq_false (by omega)
  have xd : decide ((0 : Int) ≤ d) = true := decide_eq_true (by omega)
  cases hp : decide (127 < P.size + 2) with
  | false =>
    have hp2 : decide ((127 : Int) < ((P.size + 2 : Nat) : Int)) = false := by simp only [decide_eq_false_iff_not] at hp ⊢; omega
    simp only [c51, heap0, go_sem, Int.reduceToNat, Nat.reduceAdd, Nat.reduceBEq, Nat.reduceLeDiff, Nat.reduceLT, Nat.reduceMul, Nat.reduceSub, Int.reduceEq, Int.reduceLT, Int.reduceLE, Int.reduceNeg, h18, h29, h0, h1, h2, h3, h4, h5, h6, h34, h35, xx, xd, hsz, hp, hp2, Nat.reduceMod, Nat.reduceDiv, List.length_cons, List.length_nil, List.filter_replicate, List.all_replicate, List.filter_append, List.all_append, Bool.and_self, ite_self, if_true]
  | true =>
    have hp2 : decide ((127 : Int) < ((P.size + 2 : Nat) : Int)) = true := by simp only [decide_eq_true_eq] at hp ⊢; omega
    simp only [c51, heap0, go_sem, Int.reduceToNat, Nat.reduceAdd, Nat.reduceBEq, Nat.reduceLeDiff, Nat.reduceLT, Nat.reduceMul, Nat.reduceSub, Int.reduceEq, Int.reduceLT, Int.reduceLE, Int.reduceNeg, h18, h29, h0, h1, h2, h3, h4, h5, h6, h34, h35, xx, xd, hsz, hp, hp2, Nat.reduceMod, Nat.reduceDiv, List.length_cons, List.length_nil, List.filter_replicate, List.all_replicate, List.filter_append, List.all_append, Bool.and_self, ite_self, if_true]
theorem s12_3b (n : Nat) (H : Heap) (s d q o c m e t u v : Int) (x : ByteArray) (hch : chB 3 s d q o c m e t u v x = true) (hx : x.size ≤ 127) (hd : d = -1) : call1 T (n + 5) (.fn 51) [.agg (fr 3 s d q o c m e t u v x)] H = some (enV 3 s d q o c m e t u v x, H) := by
  refine call_pure e51 (by rfl) ?_
  have h18 := fun H => s89 (n + 2) H 3 s d q o c m e t u v x
  rw [hch] at h18
  obtain ⟨hs, hd1, hd0, hq, ho, hk⟩ := chB_k hch
  obtain ⟨htt, huu, hvv⟩ : (0 ≤ t ∧ t ≤ 109951162) ∧ (0 ≤ u ∧ u ≤ 65535) ∧ (0 ≤ v ∧ v ≤ 65535) := by rcases hk with h | h | h | h <;> first | exact h.2 | (exfalso; omega)
  have h29 := fun es b0 => s90 (n + 3) es b0
  obtain ⟨B0, hB0⟩ : ∃ B, B = [] ++ bits 3 3 := ⟨_, rfl⟩
  have lB0 : B0.length = 3 := by rw [hB0, List.length_append, bits_len] <;> rfl
  have h0 : ∀ es, call1 T (n + 4) (.fn 91) [.ptr 1 0 0 0, .int .i64 3, .int .i64 3] (⟨[.box (fr 3 s d q o c m e t u v x), .box [.slc 2 0 0 0, .int .i64 0], .arr 0 1 [] false], es, 0⟩) = some (.tup [], rH (.box (fr 3 s d q o c m e t u v x)) B0 [] (es ++ rk 3)) := fun es => by
    have := s91 (.box (fr 3 s d q o c m e t u v x)) [] es [] (n + 2) 3 3 (by omega) (by omega) (by omega) (by rw [List.length_nil]; omega)
    rw [hB0]; exact this
  obtain ⟨B1, hB1⟩ : ∃ B, B = B0 ++ bits 5 s.toNat := ⟨_, rfl⟩
  have lB1 : B1.length = 8 := by rw [hB1, List.length_append, bits_len, lB0]
  have h1 : ∀ es, call1 T (n + 4) (.fn 91) [.ptr 1 0 0 0, .int .i64 5, .int .i64 s] (rH (.box (fr 3 s d q o c m e t u v x)) B0 [] es) = some (.tup [], rH (.box (fr 3 s d q o c m e t u v x)) B1 [] (es ++ rk 5)) := fun es => by
    have := s91 (.box (fr 3 s d q o c m e t u v x)) [] es B0 (n + 2) 5 s.toNat (by omega) (by omega) (by omega) (by rw [lB0]; omega)
    rw [Int.toNat_of_nonneg hs.1] at this
    rw [hB1]; exact this
  obtain ⟨B2, hB2⟩ : ∃ B, B = B1 ++ bits 1 (bt false) := ⟨_, rfl⟩
  have lB2 : B2.length = 9 := by rw [hB2, List.length_append, bits_len, lB1]
  have h2 : ∀ es, call1 T (n + 4) (.fn 92) [.ptr 1 0 0 0, .bool false] (rH (.box (fr 3 s d q o c m e t u v x)) B1 [] es) = some (.tup [], rH (.box (fr 3 s d q o c m e t u v x)) B2 [] (es ++ rk 1)) := fun es => by
    have := s92 (.box (fr 3 s d q o c m e t u v x)) [] es B1 (n + 2) false (by rw [lB1]; omega)
    rw [hB2]; exact this
  obtain ⟨B3, hB3⟩ : ∃ B, B = B2 ++ bits 8 q.toNat := ⟨_, rfl⟩
  have lB3 : B3.length = 17 := by rw [hB3, List.length_append, bits_len, lB2]
  have h3 : ∀ es, call1 T (n + 4) (.fn 91) [.ptr 1 0 0 0, .int .i64 8, .int .i64 q] (rH (.box (fr 3 s d q o c m e t u v x)) B2 [] es) = some (.tup [], rH (.box (fr 3 s d q o c m e t u v x)) B3 [] (es ++ rk 8)) := fun es => by
    have := s91 (.box (fr 3 s d q o c m e t u v x)) [] es B2 (n + 2) 8 q.toNat (by omega) (by omega) (by omega) (by rw [lB2]; omega)
    rw [Int.toNat_of_nonneg hq.1] at this
    rw [hB3]; exact this
  obtain ⟨B4, hB4⟩ : ∃ B, B = B3 ++ bits 8 o.toNat := ⟨_, rfl⟩
  have lB4 : B4.length = 25 := by rw [hB4, List.length_append, bits_len, lB3]
  have h4 : ∀ es, call1 T (n + 4) (.fn 91) [.ptr 1 0 0 0, .int .i64 8, .int .i64 o] (rH (.box (fr 3 s d q o c m e t u v x)) B3 [] es) = some (.tup [], rH (.box (fr 3 s d q o c m e t u v x)) B4 [] (es ++ rk 8)) := fun es => by
    have := s91 (.box (fr 3 s d q o c m e t u v x)) [] es B3 (n + 2) 8 o.toNat (by omega) (by omega) (by omega) (by rw [lB3]; omega)
    rw [Int.toNat_of_nonneg ho.1] at this
    rw [hB4]; exact this
  obtain ⟨B5, hB5⟩ : ∃ B, B = B4 ++ bits 27 t.toNat := ⟨_, rfl⟩
  have lB5 : B5.length = 52 := by rw [hB5, List.length_append, bits_len, lB4]
  have h5 : ∀ es, call1 T (n + 4) (.fn 91) [.ptr 1 0 0 0, .int .i64 27, .int .i64 t] (rH (.box (fr 3 s d q o c m e t u v x)) B4 [] es) = some (.tup [], rH (.box (fr 3 s d q o c m e t u v x)) B5 [] (es ++ rk 27)) := fun es => by
    have := s91 (.box (fr 3 s d q o c m e t u v x)) [] es B4 (n + 2) 27 t.toNat (by omega) (by omega) (by omega) (by rw [lB4]; omega)
    rw [Int.toNat_of_nonneg htt.1] at this
    rw [hB5]; exact this
  obtain ⟨B6, hB6⟩ : ∃ B, B = B5 ++ bits 16 u.toNat := ⟨_, rfl⟩
  have lB6 : B6.length = 68 := by rw [hB6, List.length_append, bits_len, lB5]
  have h6 : ∀ es, call1 T (n + 4) (.fn 91) [.ptr 1 0 0 0, .int .i64 16, .int .i64 u] (rH (.box (fr 3 s d q o c m e t u v x)) B5 [] es) = some (.tup [], rH (.box (fr 3 s d q o c m e t u v x)) B6 [] (es ++ rk 16)) := fun es => by
    have := s91 (.box (fr 3 s d q o c m e t u v x)) [] es B5 (n + 2) 16 u.toNat (by omega) (by omega) (by omega) (by rw [lB5]; omega)
    rw [Int.toNat_of_nonneg huu.1] at this
    rw [hB6]; exact this
  obtain ⟨B7, hB7⟩ : ∃ B, B = B6 ++ bits 16 v.toNat := ⟨_, rfl⟩
  have lB7 : B7.length = 84 := by rw [hB7, List.length_append, bits_len, lB6]
  have h7 : ∀ es, call1 T (n + 4) (.fn 91) [.ptr 1 0 0 0, .int .i64 16, .int .i64 v] (rH (.box (fr 3 s d q o c m e t u v x)) B6 [] es) = some (.tup [], rH (.box (fr 3 s d q o c m e t u v x)) B7 [] (es ++ rk 16)) := fun es => by
    have := s91 (.box (fr 3 s d q o c m e t u v x)) [] es B6 (n + 2) 16 v.toNat (by omega) (by omega) (by omega) (by rw [lB6]; omega)
    rw [Int.toNat_of_nonneg hvv.1] at this
    rw [hB7]; exact this
  obtain ⟨B8, hB8⟩ : ∃ B, B = B7 ++ bits 7 x.size ++ txB x x.size := ⟨_, rfl⟩
  have lB8 : B8.length = 91 + 8 * x.size := by rw [hB8, List.length_append, List.length_append, bits_len, lB7, txB_len]
  have h8 : ∀ es, call1 T (n + 4) (.fn 94) [.ptr 1 0 0 0, .int .i64 127, .str x] (rH (.box (fr 3 s d q o c m e t u v x)) B7 [] es) = some (.tup [], rH (.box (fr 3 s d q o c m e t u v x)) B8 [] (es ++ rk (7 + 8 * x.size))) := fun es => by
    rw [hB8]; exact s94 (.box (fr 3 s d q o c m e t u v x)) [] es B7 (n + 2) x hx (by rw [lB7]; omega)
  have hE : enBits 3 s d q o c m e t u v x = B8 := by
    have kd1 : decide ((3 : Int) = 1) = false := rfl
    have kd2 : decide ((3 : Int) = 2) = false := rfl
    have kd3 : decide ((3 : Int) = 3) = true := rfl
    have hd2 : decide (0 ≤ d) = false := decide_eq_false (by omega)
    rw [hB8, hB7, hB6, hB5, hB4, hB3, hB2, hB1, hB0]
    have h3 : ((3 : Int)).toNat = 3 := rfl
    simp only [enBits, bdBits, tgBits, kd1, kd2, kd3, hd2, h3, decide_true, decide_false, cond_true, cond_false, List.append_assoc, List.nil_append, List.append_nil]
  have h34 := fun es => s95 (n + 3) (.box (fr 3 s d q o c m e t u v x)) es B8 (by rw [lB8]; omega)
  have hps : (pkB B8).size ≤ 1000 := by rw [pkB_size, lB8]; unfold nb; omega
  obtain ⟨P, hP⟩ : ∃ P, pkB B8 = P := ⟨_, rfl⟩
  have h35 := fun H => s96 n H (pkB B8) hps
  have hsz : (prot P).size = P.size + 2 := prot_size _
  unfold enV
  rw [hE, hch, decide_eq_false (show ¬ 127 < x.size by omega)]
  rw [hP] at h34 h35 ⊢
  have xx : decide ((127 : Int) < (x.size : Int)) = false := decide_eq_false (by omega)
  have xd : decide ((0 : Int) ≤ d) = false := decide_eq_false (by omega)
  cases hp : decide (127 < P.size + 2) with
  | false =>
    have hp2 : decide ((127 : Int) < ((P.size + 2 : Nat) : Int)) = false := by simp only [decide_eq_false_iff_not] at hp ⊢; omega
    simp only [c51, heap0, go_sem, Int.reduceToNat, Nat.reduceAdd, Nat.reduceBEq, Nat.reduceLeDiff, Nat.reduceLT, Nat.reduceMul, Nat.reduceSub, Int.reduceEq, Int.reduceLT, Int.reduceLE, Int.reduceNeg, h18, h29, h0, h1, h2, h3, h4, h5, h6, h7, h8, h34, h35, xx, xd, hsz, hp, hp2, Nat.reduceMod, Nat.reduceDiv, List.length_cons, List.length_nil, List.filter_replicate, List.all_replicate, List.filter_append, List.all_append, Bool.and_self, ite_self, if_true]
  | true =>
    have hp2 : decide ((127 : Int) < ((P.size + 2 : Nat) : Int)) = true := by simp only [decide_eq_true_eq] at hp ⊢; omega
    simp only [c51, heap0, go_sem, Int.reduceToNat, Nat.reduceAdd, Nat.reduceBEq, Nat.reduceLeDiff, Nat.reduceLT, Nat.reduceMul, Nat.reduceSub, Int.reduceEq, Int.reduceLT, Int.reduceLE, Int.reduceNeg, h18, h29, h0, h1, h2, h3, h4, h5, h6, h7, h8, h34, h35, xx, xd, hsz, hp, hp2, Nat.reduceMod, Nat.reduceDiv, List.length_cons, List.length_nil, List.filter_replicate, List.all_replicate, List.filter_append, List.all_append, Bool.and_self, ite_self, if_true]
theorem s12_4a (n : Nat) (H : Heap) (s d q o c m e t u v : Int) (x : ByteArray) (hch : chB 4 s d q o c m e t u v x = true) (hx : x.size ≤ 127) (hd : 0 ≤ d) : call1 T (n + 5) (.fn 51) [.agg (fr 4 s d q o c m e t u v x)] H = some (enV 4 s d q o c m e t u v x, H) := by
  refine call_pure e51 (by rfl) ?_
  have h18 := fun H => s89 (n + 2) H 4 s d q o c m e t u v x
  rw [hch] at h18
  obtain ⟨hs, hd1, hd0, hq, ho, hk⟩ := chB_k hch
  have h29 := fun es b0 => s90 (n + 3) es b0
  obtain ⟨B0, hB0⟩ : ∃ B, B = [] ++ bits 3 4 := ⟨_, rfl⟩
  have lB0 : B0.length = 3 := by rw [hB0, List.length_append, bits_len] <;> rfl
  have h0 : ∀ es, call1 T (n + 4) (.fn 91) [.ptr 1 0 0 0, .int .i64 3, .int .i64 4] (⟨[.box (fr 4 s d q o c m e t u v x), .box [.slc 2 0 0 0, .int .i64 0], .arr 0 1 [] false], es, 0⟩) = some (.tup [], rH (.box (fr 4 s d q o c m e t u v x)) B0 [] (es ++ rk 3)) := fun es => by
    have := s91 (.box (fr 4 s d q o c m e t u v x)) [] es [] (n + 2) 3 4 (by omega) (by omega) (by omega) (by rw [List.length_nil]; omega)
    rw [hB0]; exact this
  obtain ⟨B1, hB1⟩ : ∃ B, B = B0 ++ bits 5 s.toNat := ⟨_, rfl⟩
  have lB1 : B1.length = 8 := by rw [hB1, List.length_append, bits_len, lB0]
  have h1 : ∀ es, call1 T (n + 4) (.fn 91) [.ptr 1 0 0 0, .int .i64 5, .int .i64 s] (rH (.box (fr 4 s d q o c m e t u v x)) B0 [] es) = some (.tup [], rH (.box (fr 4 s d q o c m e t u v x)) B1 [] (es ++ rk 5)) := fun es => by
    have := s91 (.box (fr 4 s d q o c m e t u v x)) [] es B0 (n + 2) 5 s.toNat (by omega) (by omega) (by omega) (by rw [lB0]; omega)
    rw [Int.toNat_of_nonneg hs.1] at this
    rw [hB1]; exact this
  obtain ⟨B2, hB2⟩ : ∃ B, B = B1 ++ bits 1 (bt true) := ⟨_, rfl⟩
  have lB2 : B2.length = 9 := by rw [hB2, List.length_append, bits_len, lB1]
  have h2 : ∀ es, call1 T (n + 4) (.fn 92) [.ptr 1 0 0 0, .bool true] (rH (.box (fr 4 s d q o c m e t u v x)) B1 [] es) = some (.tup [], rH (.box (fr 4 s d q o c m e t u v x)) B2 [] (es ++ rk 1)) := fun es => by
    have := s92 (.box (fr 4 s d q o c m e t u v x)) [] es B1 (n + 2) true (by rw [lB1]; omega)
    rw [hB2]; exact this
  obtain ⟨B3, hB3⟩ : ∃ B, B = B2 ++ bits 5 d.toNat := ⟨_, rfl⟩
  have lB3 : B3.length = 14 := by rw [hB3, List.length_append, bits_len, lB2]
  have h3 : ∀ es, call1 T (n + 4) (.fn 91) [.ptr 1 0 0 0, .int .i64 5, .int .i64 d] (rH (.box (fr 4 s d q o c m e t u v x)) B2 [] es) = some (.tup [], rH (.box (fr 4 s d q o c m e t u v x)) B3 [] (es ++ rk 5)) := fun es => by
    have := s91 (.box (fr 4 s d q o c m e t u v x)) [] es B2 (n + 2) 5 d.toNat (by omega) (by omega) (by omega) (by rw [lB2]; omega)
    rw [Int.toNat_of_nonneg hd] at this
    rw [hB3]; exact this
  obtain ⟨B4, hB4⟩ : ∃ B, B = B3 ++ bits 8 q.toNat := ⟨_, rfl⟩
  have lB4 : B4.length = 22 := by rw [hB4, List.length_append, bits_len, lB3]
  have h4 : ∀ es, call1 T (n + 4) (.fn 91) [.ptr 1 0 0 0, .int .i64 8, .int .i64 q] (rH (.box (fr 4 s d q o c m e t u v x)) B3 [] es) = some (.tup [], rH (.box (fr 4 s d q o c m e t u v x)) B4 [] (es ++ rk 8)) := fun es => by
    have := s91 (.box (fr 4 s d q o c m e t u v x)) [] es B3 (n + 2) 8 q.toNat (by omega) (by omega) (by omega) (by rw [lB3]; omega)
    rw [Int.toNat_of_nonneg hq.1] at this
    rw [hB4]; exact this
  obtain ⟨B5, hB5⟩ : ∃ B, B = B4 ++ bits 8 o.toNat := ⟨_, rfl⟩
  have lB5 : B5.length = 30 := by rw [hB5, List.length_append, bits_len, lB4]
  have h5 : ∀ es, call1 T (n + 4) (.fn 91) [.ptr 1 0 0 0, .int .i64 8, .int .i64 o] (rH (.box (fr 4 s d q o c m e t u v x)) B4 [] es) = some (.tup [], rH (.box (fr 4 s d q o c m e t u v x)) B5 [] (es ++ rk 8)) := fun es => by
    have := s91 (.box (fr 4 s d q o c m e t u v x)) [] es B4 (n + 2) 8 o.toNat (by omega) (by omega) (by omega) (by rw [lB4]; omega)
    rw [Int.toNat_of_nonneg ho.1] at this
    rw [hB5]; exact this
  obtain ⟨B6, hB6⟩ : ∃ B, B = B5 ++ bits 7 x.size ++ txB x x.size := ⟨_, rfl⟩
  have lB6 : B6.length = 37 + 8 * x.size := by rw [hB6, List.length_append, List.length_append, bits_len, lB5, txB_len]
  have h6 : ∀ es, call1 T (n + 4) (.fn 94) [.ptr 1 0 0 0, .int .i64 127, .str x] (rH (.box (fr 4 s d q o c m e t u v x)) B5 [] es) = some (.tup [], rH (.box (fr 4 s d q o c m e t u v x)) B6 [] (es ++ rk (7 + 8 * x.size))) := fun es => by
    rw [hB6]; exact s94 (.box (fr 4 s d q o c m e t u v x)) [] es B5 (n + 2) x hx (by rw [lB5]; omega)
  have hE : enBits 4 s d q o c m e t u v x = B6 := by
    have kd1 : decide ((4 : Int) = 1) = false := rfl
    have kd2 : decide ((4 : Int) = 2) = false := rfl
    have kd3 : decide ((4 : Int) = 3) = false := rfl
    have hd2 : decide (0 ≤ d) = true := decide_eq_true (by omega)
    rw [hB6, hB5, hB4, hB3, hB2, hB1, hB0]
    have h3 : ((4 : Int)).toNat = 4 := rfl
    simp only [enBits, bdBits, tgBits, kd1, kd2, kd3, hd2, h3, decide_true, decide_false, cond_true, cond_false, List.append_assoc, List.nil_append, List.append_nil]
  have h34 := fun es => s95 (n + 3) (.box (fr 4 s d q o c m e t u v x)) es B6 (by rw [lB6]; omega)
  have hps : (pkB B6).size ≤ 1000 := by rw [pkB_size, lB6]; unfold nb; omega
  obtain ⟨P, hP⟩ : ∃ P, pkB B6 = P := ⟨_, rfl⟩
  have h35 := fun H => s96 n H (pkB B6) hps
  have hsz : (prot P).size = P.size + 2 := prot_size _
  unfold enV
  rw [hE, hch, decide_eq_false (show ¬ 127 < x.size by omega)]
  rw [hP] at h34 h35 ⊢
  have xx : decide ((127 : Int) < (x.size : Int)) = false := decide_eq_false (by omega)
  have xd : decide ((0 : Int) ≤ d) = true := decide_eq_true (by omega)
  cases hp : decide (127 < P.size + 2) with
  | false =>
    have hp2 : decide ((127 : Int) < ((P.size + 2 : Nat) : Int)) = false := by simp only [decide_eq_false_iff_not] at hp ⊢; omega
    simp only [c51, heap0, go_sem, Int.reduceToNat, Nat.reduceAdd, Nat.reduceBEq, Nat.reduceLeDiff, Nat.reduceLT, Nat.reduceMul, Nat.reduceSub, Int.reduceEq, Int.reduceLT, Int.reduceLE, Int.reduceNeg, h18, h29, h0, h1, h2, h3, h4, h5, h6, h34, h35, xx, xd, hsz, hp, hp2, Nat.reduceMod, Nat.reduceDiv, List.length_cons, List.length_nil, List.filter_replicate, List.all_replicate, List.filter_append, List.all_append, Bool.and_self, ite_self, if_true]
  | true =>
    have hp2 : decide ((127 : Int) < ((P.size + 2 : Nat) : Int)) = true := by simp only [decide_eq_true_eq] at hp ⊢; omega
    simp only [c51, heap0, go_sem, Int.reduceToNat, Nat.reduceAdd, Nat.reduceBEq, Nat.reduceLeDiff, Nat.reduceLT, Nat.reduceMul, Nat.reduceSub, Int.reduceEq, Int.reduceLT, Int.reduceLE, Int.reduceNeg, h18, h29, h0, h1, h2, h3, h4, h5, h6, h34, h35, xx, xd, hsz, hp, hp2, Nat.reduceMod, Nat.reduceDiv, List.length_cons, List.length_nil, List.filter_replicate, List.all_replicate, List.filter_append, List.all_append, Bool.and_self, ite_self, if_true]
theorem s12_4b (n : Nat) (H : Heap) (s d q o c m e t u v : Int) (x : ByteArray) (hch : chB 4 s d q o c m e t u v x = true) (hx : x.size ≤ 127) (hd : d = -1) : call1 T (n + 5) (.fn 51) [.agg (fr 4 s d q o c m e t u v x)] H = some (enV 4 s d q o c m e t u v x, H) := by
  refine call_pure e51 (by rfl) ?_
  have h18 := fun H => s89 (n + 2) H 4 s d q o c m e t u v x
  rw [hch] at h18
  obtain ⟨hs, hd1, hd0, hq, ho, hk⟩ := chB_k hch
  have h29 := fun es b0 => s90 (n + 3) es b0
  obtain ⟨B0, hB0⟩ : ∃ B, B = [] ++ bits 3 4 := ⟨_, rfl⟩
  have lB0 : B0.length = 3 := by rw [hB0, List.length_append, bits_len] <;> rfl
  have h0 : ∀ es, call1 T (n + 4) (.fn 91) [.ptr 1 0 0 0, .int .i64 3, .int .i64 4] (⟨[.box (fr 4 s d q o c m e t u v x), .box [.slc 2 0 0 0, .int .i64 0], .arr 0 1 [] false], es, 0⟩) = some (.tup [], rH (.box (fr 4 s d q o c m e t u v x)) B0 [] (es ++ rk 3)) := fun es => by
    have := s91 (.box (fr 4 s d q o c m e t u v x)) [] es [] (n + 2) 3 4 (by omega) (by omega) (by omega) (by rw [List.length_nil]; omega)
    rw [hB0]; exact this
  obtain ⟨B1, hB1⟩ : ∃ B, B = B0 ++ bits 5 s.toNat := ⟨_, rfl⟩
  have lB1 : B1.length = 8 := by rw [hB1, List.length_append, bits_len, lB0]
  have h1 : ∀ es, call1 T (n + 4) (.fn 91) [.ptr 1 0 0 0, .int .i64 5, .int .i64 s] (rH (.box (fr 4 s d q o c m e t u v x)) B0 [] es) = some (.tup [], rH (.box (fr 4 s d q o c m e t u v x)) B1 [] (es ++ rk 5)) := fun es => by
    have := s91 (.box (fr 4 s d q o c m e t u v x)) [] es B0 (n + 2) 5 s.toNat (by omega) (by omega) (by omega) (by rw [lB0]; omega)
    rw [Int.toNat_of_nonneg hs.1] at this
    rw [hB1]; exact this
  obtain ⟨B2, hB2⟩ : ∃ B, B = B1 ++ bits 1 (bt false) := ⟨_, rfl⟩
  have lB2 : B2.length = 9 := by rw [hB2, List.length_append, bits_len, lB1]
  have h2 : ∀ es, call1 T (n + 4) (.fn 92) [.ptr 1 0 0 0, .bool false] (rH (.box (fr 4 s d q o c m e t u v x)) B1 [] es) = some (.tup [], rH (.box (fr 4 s d q o c m e t u v x)) B2 [] (es ++ rk 1)) := fun es => by
    have := s92 (.box (fr 4 s d q o c m e t u v x)) [] es B1 (n + 2) false (by rw [lB1]; omega)
    rw [hB2]; exact this
  obtain ⟨B3, hB3⟩ : ∃ B, B = B2 ++ bits 8 q.toNat := ⟨_, rfl⟩
  have lB3 : B3.length = 17 := by rw [hB3, List.length_append, bits_len, lB2]
  have h3 : ∀ es, call1 T (n + 4) (.fn 91) [.ptr 1 0 0 0, .int .i64 8, .int .i64 q] (rH (.box (fr 4 s d q o c m e t u v x)) B2 [] es) = some (.tup [], rH (.box (fr 4 s d q o c m e t u v x)) B3 [] (es ++ rk 8)) := fun es => by
    have := s91 (.box (fr 4 s d q o c m e t u v x)) [] es B2 (n + 2) 8 q.toNat (by omega) (by omega) (by omega) (by rw [lB2]; omega)
    rw [Int.toNat_of_nonneg hq.1] at this
    rw [hB3]; exact this
  obtain ⟨B4, hB4⟩ : ∃ B, B = B3 ++ bits 8 o.toNat := ⟨_, rfl⟩
  have lB4 : B4.length = 25 := by rw [hB4, List.length_append, bits_len, lB3]
  have h4 : ∀ es, call1 T (n + 4) (.fn 91) [.ptr 1 0 0 0, .int .i64 8, .int .i64 o] (rH (.box (fr 4 s d q o c m e t u v x)) B3 [] es) = some (.tup [], rH (.box (fr 4 s d q o c m e t u v x)) B4 [] (es ++ rk 8)) := fun es => by
    have := s91 (.box (fr 4 s d q o c m e t u v x)) [] es B3 (n + 2) 8 o.toNat (by omega) (by omega) (by omega) (by rw [lB3]; omega)
    rw [Int.toNat_of_nonneg ho.1] at this
    rw [hB4]; exact this
  obtain ⟨B5, hB5⟩ : ∃ B, B = B4 ++ bits 7 x.size ++ txB x x.size := ⟨_, rfl⟩
  have lB5 : B5.length = 32 + 8 * x.size := by rw [hB5, List.length_append, List.length_append, bits_len, lB4, txB_len]
  have h5 : ∀ es, call1 T (n + 4) (.fn 94) [.ptr 1 0 0 0, .int .i64 127, .str x] (rH (.box (fr 4 s d q o c m e t u v x)) B4 [] es) = some (.tup [], rH (.box (fr 4 s d q o c m e t u v x)) B5 [] (es ++ rk (7 + 8 * x.size))) := fun es => by
    rw [hB5]; exact s94 (.box (fr 4 s d q o c m e t u v x)) [] es B4 (n + 2) x hx (by rw [lB4]; omega)
  have hE : enBits 4 s d q o c m e t u v x = B5 := by
    have kd1 : decide ((4 : Int) = 1) = false := rfl
    have kd2 : decide ((4 : Int) = 2) = false := rfl
    have kd3 : decide ((4 : Int) = 3) = false := rfl
    have hd2 : decide (0 ≤ d) = false := decide_eq_false (by omega)
    rw [hB5, hB4, hB3, hB2, hB1, hB0]
    have h3 : ((4 : Int)).toNat = 4 := rfl
    simp only [enBits, bdBits, tgBits, kd1, kd2, kd3, hd2, h3, decide_true, decide_false, cond_true, cond_false, List.append_assoc, List.nil_append, List.append_nil]
  have h34 := fun es => s95 (n + 3) (.box (fr 4 s d q o c m e t u v x)) es B5 (by rw [lB5]; omega)
  have hps : (pkB B5).size ≤ 1000 := by rw [pkB_size, lB5]; unfold nb; omega
  obtain ⟨P, hP⟩ : ∃ P, pkB B5 = P := ⟨_, rfl⟩
  have h35 := fun H => s96 n H (pkB B5) hps
  have hsz : (prot P).size = P.size + 2 := prot_size _
  unfold enV
  rw [hE, hch, decide_eq_false (show ¬ 127 < x.size by omega)]
  rw [hP] at h34 h35 ⊢
  have xx : decide ((127 : Int) < (x.size : Int)) = false := decide_eq_false (by omega)
  have xd : decide ((0 : Int) ≤ d) = false := decide_eq_false (by omega)
  cases hp : decide (127 < P.size + 2) with
  | false =>
    have hp2 : decide ((127 : Int) < ((P.size + 2 : Nat) : Int)) = false := by simp only [decide_eq_false_iff_not] at hp ⊢; omega
    simp only [c51, heap0, go_sem, Int.reduceToNat, Nat.reduceAdd, Nat.reduceBEq, Nat.reduceLeDiff, Nat.reduceLT, Nat.reduceMul, Nat.reduceSub, Int.reduceEq, Int.reduceLT, Int.reduceLE, Int.reduceNeg, h18, h29, h0, h1, h2, h3, h4, h5, h34, h35, xx, xd, hsz, hp, hp2, Nat.reduceMod, Nat.reduceDiv, List.length_cons, List.length_nil, List.filter_replicate, List.all_replicate, List.filter_append, List.all_append, Bool.and_self, ite_self, if_true]
  | true =>
    have hp2 : decide ((127 : Int) < ((P.size + 2 : Nat) : Int)) = true := by simp only [decide_eq_true_eq] at hp ⊢; omega
    simp only [c51, heap0, go_sem, Int.reduceToNat, Nat.reduceAdd, Nat.reduceBEq, Nat.reduceLeDiff, Nat.reduceLT, Nat.reduceMul, Nat.reduceSub, Int.reduceEq, Int.reduceLT, Int.reduceLE, Int.reduceNeg, h18, h29, h0, h1, h2, h3, h4, h5, h34, h35, xx, xd, hsz, hp, hp2, Nat.reduceMod, Nat.reduceDiv, List.length_cons, List.length_nil, List.filter_replicate, List.all_replicate, List.filter_append, List.all_append, Bool.and_self, ite_self, if_true]
end C13
end Go.Sh
namespace Go.Sh
set_option linter.unusedSectionVars false
set_option linter.unnecessarySimpa false
set_option linter.unusedVariables false
set_option linter.unusedSimpArgs false
set_option maxRecDepth 100000
set_option maxHeartbeats 4000000
namespace C13
section
variable (k s d q o c m e t u v : Int) (x : ByteArray)
theorem s51 (n : Nat) (H : Heap) : call1 T (n + 5) (.fn 51) [.agg (fr k s d q o c m e t u v x)] H = some (enV k s d q o c m e t u v x, H) := by
  cases hch : chB k s d q o c m e t u v x with
  | false =>
    refine call_pure e51 (by rfl) ?_
    have h18 := fun H => s89 (n + 2) H k s d q o c m e t u v x
    unfold enV
    rw [hch] at h18
    rw [hch]
    simp only [c51, heap0, go_sem, Int.reduceToNat, Nat.reduceAdd, Nat.reduceBEq, Nat.reduceLeDiff, Nat.reduceLT, Nat.reduceMul, Nat.reduceSub, Int.reduceEq, Int.reduceLT, Int.reduceLE, Int.reduceNeg, h18]
  | true =>
    rcases Nat.lt_or_ge 127 x.size with hx | hx
    · refine call_pure e51 (by rfl) ?_
      have h18 := fun H => s89 (n + 2) H k s d q o c m e t u v x
      unfold enV
      rw [hch] at h18
      rw [hch, decide_eq_true hx]
      have hd : decide ((127 : Int) < (x.size : Int)) = true := decide_eq_true (by omega)
      simp only [c51, heap0, go_sem, Int.reduceToNat, Nat.reduceAdd, Nat.reduceBEq, Nat.reduceLeDiff, Nat.reduceLT, Nat.reduceMul, Nat.reduceSub, Int.reduceEq, Int.reduceLT, Int.reduceLE, Int.reduceNeg, h18, hd]
    · obtain ⟨hs, hd1, hd0, hq, ho, hk⟩ := chB_k hch
      rcases hk with ⟨rfl, _, _⟩ | ⟨rfl, _, _⟩ | ⟨rfl, _, _⟩ | rfl
      · have hdd : 0 ≤ d := by rw [chB_1, decide_eq_true_eq] at hch; omega
        exact s12_1a n H s d q o c m e t u v x hch hx hdd
      · have hdd : 0 ≤ d := by rw [chB_2, Bool.and_eq_true, decide_eq_true_eq, decide_eq_true_eq] at hch; have := hch.2; omega
        exact s12_2a n H s d q o c m e t u v x hch hx hdd
      · have hdd : d = -1 := by rw [chB_3, decide_eq_true_eq] at hch; omega
        exact s12_3b n H s d q o c m e t u v x hch hx hdd
      · by_cases hdd : 0 ≤ d
        · exact s12_4a n H s d q o c m e t u v x hch hx hdd
        · exact s12_4b n H s d q o c m e t u v x hch hx (by omega)
end
end C13
end Go.Sh
namespace Go.Sh
set_option linter.unusedSectionVars false
set_option linter.unnecessarySimpa false
set_option linter.unusedVariables false
set_option linter.unusedSimpArgs false
set_option maxRecDepth 100000
set_option maxHeartbeats 4000000
structure Ac where
  kd : Int
  of : Int
  k : Int
  s : Int
  d : Int
  q : Int
  o : Int
  c : Int
  m : Int
  e : Int
  t : Int
  u : Int
  v : Int
  x : ByteArray
abbrev acC (a : Ac) : List SV := [.int .i64 a.kd, .int .i64 a.of, .int .i64 a.k, .int .i64 a.s, .int .i64 a.d, .int .i64 a.q, .int .i64 a.o, .int .i64 a.c, .int .i64 a.m, .int .i64 a.e, .int .i64 a.t, .int .i64 a.u, .int .i64 a.v, .str a.x]
def acS (L : List Ac) : List (List SV) := L.map acC
@[go_sem] theorem acS_len {L : List Ac} : (acS L).length = L.length := by simp [acS]
@[go_sem] theorem acS_get {L : List Ac} {i : Nat} : (acS L)[i]? = (L[i]?).map acC := by simp [acS]
structure Fi where
  N : List (Int × Int)
  P : List Int
  W : List G.Wl
  f1 : Bool
  f2 : Bool
  f3 : Bool
  ex : Int
  no : Int
  th : Int
  S : List U.Src
  g1 : Bool
  F : List U.Fd
  g2 : Bool
  K : List (Int × Int)
  h1 : Bool
  v : Int
  a : Int
  b : Int
  C : List Int
  h2 : Bool
abbrev fiC (f : Fi) : List SV := [.lst 2 (G.ptsS f.N) f.f1, .lst 1 (G.intsS f.P) f.f2, .lst 5 (G.wlsS f.W) f.f3, .int .i64 f.ex, .int .i64 f.no, .int .i64 f.th,
  .lst 7 (U.srsS f.S) f.g1, .lst 6 (U.fdsS f.F) f.g2, .lst 2 (G.ptsS f.K) f.h1, .int .i64 f.v, .int .i64 f.a, .int .i64 f.b, .lst 1 (iS f.C) f.h2]
theorem dle40 (n : Nat) : decide ((n : Int) ≤ 40) = decide (n ≤ 40) := by rw [decide_eq_decide]; omega
theorem dle20 (n : Nat) : decide ((n : Int) ≤ 20) = decide (n ≤ 20) := by rw [decide_eq_decide]; omega
theorem dlt40 (n : Nat) : decide ((n : Int) < 40) = decide (n < 40) := by rw [decide_eq_decide]; omega
theorem dgt200 (n : Nat) : decide (200 < (n : Int)) = decide (200 < n) := by rw [decide_eq_decide]; omega
theorem deqn (n k : Nat) : decide ((n : Int) = (k : Int)) = decide (n = k) := by rw [decide_eq_decide]; omega
def fewF (f : Fi) : Bool := G.fewI f.N f.P f.W && U.fewB f.S f.F && decide (f.K.length ≤ 40) && decide (f.C.length ≤ 20)
theorem s48 (n : Nat) (H : Heap) (f : Fi) (hS : f.S.length ≤ maxLen) : call1 T (n + 3) (.fn 48) [.agg (fiC f)] H = some (.bool (fewF f), H) := by
  have h1 := fun H => G.s86 (n + 1) H f.N f.P f.W f.f1 f.f2 f.f3 f.ex f.no f.th
  have h2 := fun H => U.s87 n H f.S f.F f.g1 f.g2 hS
  refine call_pure e48 (by rfl) ?_
  unfold fewF
  cases a1 : G.fewI f.N f.P f.W <;> cases a2 : U.fewB f.S f.F <;> cases a3 : decide (f.K.length ≤ 40) <;> rw [a1] at h1 <;> rw [a2] at h2 <;> simp only [c48, heap0, go_sem, Int.reduceToNat, Nat.reduceAdd, Nat.reduceBEq, Nat.reduceLeDiff, Nat.reduceLT, Nat.reduceMul, Nat.reduceSub, Int.reduceEq, Int.reduceLT, Int.reduceLE, Int.reduceNeg, h1, h2, dle40, dle20, a3, G.ptsS_len', Bool.true_and, Bool.false_and]
def fewA (A : List Ac) : Bool := bif (A.take 40).any (fun a => decide (200 < a.x.size)) then false else decide (A.length ≤ 40)
theorem fewA_at {A : List Ac} {i : Nat} (hP : ∀ (j : Nat) a, j < i → A[j]? = some a → decide (200 < a.x.size) = false) (h : A.length ≤ i ∨ i = 40) : fewA A = decide (A.length ≤ 40) := by
  unfold fewA
  have : (A.take 40).any (fun a => decide (200 < a.x.size)) = false := by
    rw [List.any_eq_false]
    intro a ha
    obtain ⟨j, hj⟩ := List.getElem?_of_mem ha
    rw [List.getElem?_take] at hj
    split at hj
    · rename_i h40
      have hl := (List.getElem?_eq_some_iff.1 hj).1
      rw [hP j a (by omega) hj]
      exact Bool.false_ne_true
    · cases hj
  rw [this]
  rfl
theorem s49 (n : Nat) (H : Heap) (A : List Ac) (f : Bool) (hA : A.length ≤ maxLen) : call1 T (n + 1) (.fn 49) [.lst 14 (acS A) f] H = some (.bool (fewA A), H) := by
  refine call_pure e49 (by rfl) ?_
  simp only [c49, heap0, go_sem, Int.reduceToNat, Nat.reduceAdd, Nat.reduceBEq, Nat.reduceLeDiff, Nat.reduceLT, Nat.reduceMul, Nat.reduceSub, Int.reduceEq, Int.reduceLT, Int.reduceLE, Int.reduceNeg]
  refine loop_rule (fun i => ([(0, .lst 14 (acS A) f), (3, .int .i64 i)], ⟨[], [], 0⟩)) (fun i => ∀ (j : Nat) a, j < i → A[j]? = some a → decide (200 < a.x.size) = false) 40 ?_ (fun j a h => by omega) ?_
  · simp only [go_sem, Int.reduceToNat, Nat.reduceAdd, Nat.reduceBEq, Nat.reduceLeDiff, Nat.reduceLT, Nat.reduceMul, Nat.reduceSub, Int.reduceEq, Int.reduceLT, Int.reduceLE, Int.reduceNeg] <;> rfl
  · intro i hi hP
    rcases Nat.lt_or_ge i A.length with hlt | hge
    · rcases Nat.lt_or_ge i 40 with h40 | h40
      · obtain ⟨a, ha⟩ : ∃ a, A[i]? = some a := ⟨A[i], List.getElem?_eq_getElem hlt⟩
        have hw := w64_suc hlt hA
        cases hd : decide (200 < a.x.size) with
        | true =>
          have hx : fewA A = false := by
            unfold fewA
            rw [List.any_eq_true.2 ⟨a, List.mem_of_getElem? (i := i) (by rw [List.getElem?_take, if_pos h40]; exact ha), hd⟩]
            rfl
          simp only [go_sem, Int.reduceToNat, Nat.reduceAdd, Nat.reduceBEq, Nat.reduceLeDiff, Nat.reduceLT, Nat.reduceMul, Nat.reduceSub, Int.reduceEq, Int.reduceLT, Int.reduceLE, Int.reduceNeg, hlt, dlt40, h40, ha, dgt200, hd, hx]
        | false =>
          simp only [go_sem, Int.reduceToNat, Nat.reduceAdd, Nat.reduceBEq, Nat.reduceLeDiff, Nat.reduceLT, Nat.reduceMul, Nat.reduceSub, Int.reduceEq, Int.reduceLT, Int.reduceLE, Int.reduceNeg, hlt, dlt40, h40, ha, dgt200, hd, hw]
          refine ⟨by first | trivial | omega, by first | trivial | rfl, fun j b hj hb => ?_⟩
          rcases Nat.lt_or_ge j i with h | h
          · exact hP j b h hb
          · obtain rfl : j = i := by omega
            rw [ha] at hb
            cases hb
            exact hd
      · have hx : fewA A = decide (A.length ≤ 40) := fewA_at hP (.inr (by omega))
        have h41 : ¬ i < 40 := by omega
        simp only [go_sem, Int.reduceToNat, Nat.reduceAdd, Nat.reduceBEq, Nat.reduceLeDiff, Nat.reduceLT, Nat.reduceMul, Nat.reduceSub, Int.reduceEq, Int.reduceLT, Int.reduceLE, Int.reduceNeg, hlt, dlt40, dle40, h41, hx]
    · have hx : fewA A = decide (A.length ≤ 40) := fewA_at hP (.inl hge)
      have hlt : ¬ i < A.length := by omega
      simp only [go_sem, Int.reduceToNat, Nat.reduceAdd, Nat.reduceBEq, Nat.reduceLeDiff, Nat.reduceLT, Nat.reduceMul, Nat.reduceSub, Int.reduceEq, Int.reduceLT, Int.reduceLE, Int.reduceNeg, hlt, dlt40, dle40, hx]
end Go.Sh
namespace Go.Sh
set_option linter.unusedSectionVars false
set_option linter.unnecessarySimpa false
set_option linter.unusedVariables false
set_option linter.unusedSimpArgs false
set_option maxRecDepth 100000
set_option maxHeartbeats 4000000
theorem x63 : T 63 = some (stdCF 120) := e63
theorem x120 : T 120 = some (stdIdxF true 2) := e120
theorem s59 (n : Nat) (H : Heap) (a b : Int) : call1 T (n + 2) (.fn 59) [.agg [.int .i64 a, .int .i64 b]] H = some (.bool (!ckC a b), H) := by
  have h := fun H => s60 n H a b
  unfold ckCI at h
  refine call_pure e59 (by rfl) ?_
  cases hc : ckC a b <;> rw [hc] at h <;> simp only [c59, heap0, go_sem, Int.reduceToNat, Nat.reduceAdd, Nat.reduceBEq, Nat.reduceLeDiff, Nat.reduceLT, Nat.reduceMul, Nat.reduceSub, Int.reduceEq, Int.reduceLT, Int.reduceLE, Int.reduceNeg, h]
def toK : List SV → Int × Int
  | [.int _ a, .int _ b] => (a, b)
  | _ => (0, 0)
theorem s63 (n : Nat) (H : Heap) (K : List (Int × Int)) (f : Bool) (hK : K.length ≤ maxLen) : call1 T (n + 4) (.fn 63) [.lst 2 (G.ptsS K) f, .fn 59 []] H = some (.bool (K.any fun p => !ckC p.1 p.2), H) := by
  have h := stdCF_ok (T := T) (f := 63) (n := n + 2) (H := H) (ag := true) (z := 2) (id := 59) (caps := []) (v := .lst 2 (G.ptsS K) f) (L := G.ptsS K) (p := fun r => !ckC (toK r).1 (toK r).2) x63 x120 (.lst 2 f (.inl rfl)) G.ptsS_len (fun h => by cases h) (by simpa [G.ptsS] using hK)
    (fun r hr bl ro _ => by
      simp only [G.ptsS, List.mem_map] at hr
      obtain ⟨p, _, rfl⟩ := hr
      exact s59 n ⟨bl, [], ro⟩ p.1 p.2) (by simp [SV.refs.refsL])
  rw [G.ptsS_any (q := fun p => !ckC p.1 p.2) (fun a b => rfl)] at h
  exact h
structure Bd (f : Fi) : Prop where
  N : f.N.length ≤ maxLen
  P : f.P.length ≤ maxLen
  W : f.W.length ≤ maxLen
  S : U.okS f.S
  F : f.F.length ≤ maxLen
  K : f.K.length ≤ maxLen
  C : f.C.length ≤ 1000
theorem Bd.C' {f : Fi} (h : Bd f) : f.C.length ≤ maxLen := Nat.le_trans h.C (by decide)
def okF (f : Fi) : Bool := G.okI f.N f.P f.W f.ex f.no f.th && U.ckB f.S f.F && decide (f.K.length = f.N.length) && !(f.K.any fun p => !ckC p.1 p.2) && C11.okH f.v f.a f.b f.C
def chF (f : Fi) : Int := bif okF f then 0 else 1
theorem s22 (n : Nat) (H : Heap) (f : Fi) (hb : Bd f) : call1 T (n + 8) (.fn 22) [.agg (fiC f)] H = some (.int .i64 (chF f), H) := by
  have h1 := fun H => G.s61 (n + 1) H f.N f.P f.W f.f1 f.f2 f.f3 f.ex f.no f.th hb.N hb.P hb.W
  have h2 := fun H => U.s62 n H f.S f.F f.g1 f.g2 hb.S hb.F
  have h3 := fun H => s63 (n + 3) H f.K f.h1 hb.K
  have h4 := fun H => C11.s64 (n + 3) H f.v f.a f.b f.C f.h2 hb.C'
  unfold G.chkI at h1
  unfold U.ck at h2
  unfold C11.ckH at h4
  unfold chF okF
  refine call_pure e22 (by rfl) ?_
  generalize (f.K.any fun p => !ckC p.1 p.2) = B at h3 ⊢
  cases a1 : G.okI f.N f.P f.W f.ex f.no f.th with
  | false => rw [a1] at h1; simp only [c22, heap0, go_sem, Int.reduceToNat, Nat.reduceAdd, Nat.reduceBEq, Nat.reduceLeDiff, Nat.reduceLT, Nat.reduceMul, Nat.reduceSub, Int.reduceEq, Int.reduceLT, Int.reduceLE, Int.reduceNeg, h1, Bool.false_and]
  | true =>
    rw [a1] at h1
    cases a2 : U.ckB f.S f.F with
    | false => rw [a2] at h2; simp only [c22, heap0, go_sem, Int.reduceToNat, Nat.reduceAdd, Nat.reduceBEq, Nat.reduceLeDiff, Nat.reduceLT, Nat.reduceMul, Nat.reduceSub, Int.reduceEq, Int.reduceLT, Int.reduceLE, Int.reduceNeg, h1, h2, Bool.false_and, Bool.true_and]
    | true =>
      rw [a2] at h2
      cases a3 : decide (f.K.length = f.N.length) with
      | false => simp only [c22, heap0, go_sem, Int.reduceToNat, Nat.reduceAdd, Nat.reduceBEq, Nat.reduceLeDiff, Nat.reduceLT, Nat.reduceMul, Nat.reduceSub, Int.reduceEq, Int.reduceLT, Int.reduceLE, Int.reduceNeg, h1, h2, deqn, a3, G.ptsS_len', Bool.false_and, Bool.true_and]
      | true =>
        cases B with
        | true => simp only [c22, heap0, go_sem, Int.reduceToNat, Nat.reduceAdd, Nat.reduceBEq, Nat.reduceLeDiff, Nat.reduceLT, Nat.reduceMul, Nat.reduceSub, Int.reduceEq, Int.reduceLT, Int.reduceLE, Int.reduceNeg, h1, h2, h3, deqn, a3, G.ptsS_len', Bool.false_and, Bool.true_and]
        | false =>
          cases a4 : C11.okH f.v f.a f.b f.C <;> rw [a4] at h4 <;> simp only [c22, heap0, go_sem, Int.reduceToNat, Nat.reduceAdd, Nat.reduceBEq, Nat.reduceLeDiff, Nat.reduceLT, Nat.reduceMul, Nat.reduceSub, Int.reduceEq, Int.reduceLT, Int.reduceLE, Int.reduceNeg, h1, h2, h3, h4, deqn, a3, G.ptsS_len', Bool.false_and, Bool.true_and, Bool.not_false]
theorem s35 (n : Nat) (H : Heap) (f : Fi) (hb : Bd f) : call1 T (n + 7) (.fn 35) [.agg (fiC f)] H = some (.int .i64 (chF f), H) := by
  have h1 := fun H => G.s75 n H f.N f.P f.W f.f1 f.f2 f.f3 f.ex f.no f.th hb.W hb.N
  have h2 := fun H => U.s76 (n + 3) H f.S f.F f.g1 f.g2 hb.S hb.F
  have h3 := fun H a b => s69 (n + 5) H a b
  have h4 := fun H => C11.s72 (n + 3) H f.v f.a f.b f.C f.h2 hb.C'
  unfold G.chkI at h1
  unfold U.ck at h2
  unfold C11.ckH at h4
  unfold chF okF
  refine call_pure e35 (by rfl) ?_
  obtain ⟨B, hB⟩ : ∃ B, (f.K.any fun p => !ckC p.1 p.2) = B := ⟨_, rfl⟩
  rw [hB]
  cases a1 : G.okI f.N f.P f.W f.ex f.no f.th with
  | false => rw [a1] at h1; simp only [c35, heap0, go_sem, Int.reduceToNat, Nat.reduceAdd, Nat.reduceBEq, Nat.reduceLeDiff, Nat.reduceLT, Nat.reduceMul, Nat.reduceSub, Int.reduceEq, Int.reduceLT, Int.reduceLE, Int.reduceNeg, h1, Bool.false_and]
  | true =>
    rw [a1] at h1
    cases a2 : U.ckB f.S f.F with
    | false => rw [a2] at h2; simp only [c35, heap0, go_sem, Int.reduceToNat, Nat.reduceAdd, Nat.reduceBEq, Nat.reduceLeDiff, Nat.reduceLT, Nat.reduceMul, Nat.reduceSub, Int.reduceEq, Int.reduceLT, Int.reduceLE, Int.reduceNeg, h1, h2, Bool.false_and, Bool.true_and]
    | true =>
      rw [a2] at h2
      cases a3 : decide (f.K.length = f.N.length) with
      | false => simp only [c35, heap0, go_sem, Int.reduceToNat, Nat.reduceAdd, Nat.reduceBEq, Nat.reduceLeDiff, Nat.reduceLT, Nat.reduceMul, Nat.reduceSub, Int.reduceEq, Int.reduceLT, Int.reduceLE, Int.reduceNeg, h1, h2, deqn, a3, G.ptsS_len', Bool.false_and, Bool.true_and]
      | true =>
        cases a4 : C11.okH f.v f.a f.b f.C with
        | false => rw [a4] at h4; simp only [c35, heap0, go_sem, Int.reduceToNat, Nat.reduceAdd, Nat.reduceBEq, Nat.reduceLeDiff, Nat.reduceLT, Nat.reduceMul, Nat.reduceSub, Int.reduceEq, Int.reduceLT, Int.reduceLE, Int.reduceNeg, h1, h2, h4, deqn, a3, G.ptsS_len', Bool.and_false]
        | true =>
          rw [a4] at h4
          simp only [c35, heap0, go_sem, Int.reduceToNat, Nat.reduceAdd, Nat.reduceBEq, Nat.reduceLeDiff, Nat.reduceLT, Nat.reduceMul, Nat.reduceSub, Int.reduceEq, Int.reduceLT, Int.reduceLE, Int.reduceNeg, h1, h2, h4, deqn, a3, G.ptsS_len', Bool.true_and, Bool.and_true]
          refine loop_rule (fun i => ([(1, .ptr 0 0 0 0), (3, .int .i64 i)], ⟨[.box (fiC f)], [], 0⟩)) (fun i => ∀ (j : Nat) p, j < i → f.K[j]? = some p → ckC p.1 p.2 = true) f.K.length ?_ (fun j p h => by omega) ?_
          · simp only [go_sem, Int.reduceToNat, Nat.reduceAdd, Nat.reduceBEq, Nat.reduceLeDiff, Nat.reduceLT, Nat.reduceMul, Nat.reduceSub, Int.reduceEq, Int.reduceLT, Int.reduceLE, Int.reduceNeg] <;> rfl
          · intro i hi hP
            rcases Nat.lt_or_ge i f.K.length with hlt | hge
            · obtain ⟨p, hp⟩ : ∃ p, f.K[i]? = some p := ⟨f.K[i], List.getElem?_eq_getElem hlt⟩
              have hw := w64_suc hlt hb.K
              have hg : (G.ptsS f.K)[i]? = some [.int .i64 p.1, .int .i64 p.2] := by simp [G.ptsS, hp]
              have h3 := fun H => h3 H p.1 p.2
              unfold ckCI at h3
              cases hc : ckC p.1 p.2 with
              | false =>
                have hx : B = true := by rw [← hB]; exact List.any_eq_true.2 ⟨p, List.mem_of_getElem? hp, by rw [hc]; rfl⟩
                rw [hc] at h3
                simp only [go_sem, Int.reduceToNat, Nat.reduceAdd, Nat.reduceBEq, Nat.reduceLeDiff, Nat.reduceLT, Nat.reduceMul, Nat.reduceSub, Int.reduceEq, Int.reduceLT, Int.reduceLE, Int.reduceNeg, hlt, G.ptsS_len', hp, h3, hx]
              | true =>
                rw [hc] at h3
                simp only [go_sem, Int.reduceToNat, Nat.reduceAdd, Nat.reduceBEq, Nat.reduceLeDiff, Nat.reduceLT, Nat.reduceMul, Nat.reduceSub, Int.reduceEq, Int.reduceLT, Int.reduceLE, Int.reduceNeg, hlt, G.ptsS_len', hp, h3, hw]
                refine ⟨by first | trivial | omega, by first | trivial | rfl, fun j b hj hb => ?_⟩
                rcases Nat.lt_or_ge j i with h | h
                · exact hP j b h hb
                · obtain rfl : j = i := by omega
                  rw [hp] at hb
                  cases hb
                  exact hc
            · have hx : B = false := by
                rw [← hB, List.any_eq_false]
                intro p hp
                obtain ⟨j, hj⟩ := List.getElem?_of_mem hp
                have hl := (List.getElem?_eq_some_iff.1 hj).1
                rw [hP j p (by omega) hj]
                exact Bool.false_ne_true
              have hlt : ¬ i < f.K.length := by omega
              simp only [go_sem, Int.reduceToNat, Nat.reduceAdd, Nat.reduceBEq, Nat.reduceLeDiff, Nat.reduceLT, Nat.reduceMul, Nat.reduceSub, Int.reduceEq, Int.reduceLT, Int.reduceLE, Int.reduceNeg, hlt, G.ptsS_len', hx]
def inF (f : Fi) (s : Int) : Bool := decide (f.a ≤ s) && decide (s < f.b)
theorem s65 (n : Nat) (H : Heap) (f : Fi) (s : Int) : call1 T (n + 1) (.fn 65) [.agg (fiC f), .int .i64 s] H = some (.bool (inF f s), H) := by
  unfold inF
  refine call_pure e65 (by rfl) ?_
  cases h : decide (f.a ≤ s) <;> simp only [c65, heap0, go_sem, Int.reduceToNat, Nat.reduceAdd, Nat.reduceBEq, Nat.reduceLeDiff, Nat.reduceLT, Nat.reduceMul, Nat.reduceSub, Int.reduceEq, Int.reduceLT, Int.reduceLE, Int.reduceNeg, h]
theorem s73 (n : Nat) (H : Heap) (f : Fi) (s : Int) : call1 T (n + 1) (.fn 73) [.agg (fiC f), .int .i64 s] H = some (.bool (inF f s), H) := by
  unfold inF
  refine call_pure e73 (by rfl) ?_
  cases h : decide (f.a ≤ s) <;> simp only [c73, heap0, go_sem, Int.reduceToNat, Nat.reduceAdd, Nat.reduceBEq, Nat.reduceLeDiff, Nat.reduceLT, Nat.reduceMul, Nat.reduceSub, Int.reduceEq, Int.reduceLT, Int.reduceLE, Int.reduceNeg, h]
end Go.Sh
namespace Go.Sh
set_option linter.unusedSectionVars false
set_option linter.unnecessarySimpa false
set_option linter.unusedVariables false
set_option linter.unusedSimpArgs false
set_option maxRecDepth 100000
set_option maxHeartbeats 4000000
def enS (a : Ac) : ByteArray :=
  bif !C13.chB a.k a.s a.d a.q a.o a.c a.m a.e a.t a.u a.v a.x then ⟨#[]⟩
  else bif decide (127 < a.x.size) || decide (127 < (C13.pkB (C13.enBits a.k a.s a.d a.q a.o a.c a.m a.e a.t a.u a.v a.x)).size + 2) then ⟨#[]⟩
  else C13.prot (C13.pkB (C13.enBits a.k a.s a.d a.q a.o a.c a.m a.e a.t a.u a.v a.x))
def enE (a : Ac) : Int :=
  bif !C13.chB a.k a.s a.d a.q a.o a.c a.m a.e a.t a.u a.v a.x then 1
  else bif decide (127 < a.x.size) || decide (127 < (C13.pkB (C13.enBits a.k a.s a.d a.q a.o a.c a.m a.e a.t a.u a.v a.x)).size + 2) then 8
  else 0
theorem enV_eq (a : Ac) : C13.enV a.k a.s a.d a.q a.o a.c a.m a.e a.t a.u a.v a.x = .tup [.str (enS a), .int .i64 (enE a)] := by
  unfold C13.enV enS enE
  cases C13.chB a.k a.s a.d a.q a.o a.c a.m a.e a.t a.u a.v a.x with
  | false => rfl
  | true =>
    simp only [Bool.not_true, cond_false]
    cases (decide (127 < a.x.size) || decide (127 < (C13.pkB (C13.enBits a.k a.s a.d a.q a.o a.c a.m a.e a.t a.u a.v a.x)).size + 2)) <;> rfl
def fmI (nc : Nat) (i : Int) (a : Ac) : Int :=
  bif decide (a.kd = 0) then 0 else bif decide (a.kd = 1) || decide (a.kd = 2) then (bif decide (a.of < 0) || decide ((nc : Int) ≤ a.of) then 2 else bif decide (a.kd = 1) && (!decide (enE a = 0) || (decide (a.k = 2) || !decide (a.s = i))) then 1 else 0) else 1
theorem kd_cases (x : Int) : (decide (x = 0) = true ∧ decide (x = 1) = false ∧ decide (x = 2) = false) ∨ (decide (x = 0) = false ∧ decide (x = 1) = true ∧ decide (x = 2) = false) ∨ (decide (x = 0) = false ∧ decide (x = 1) = false ∧ decide (x = 2) = true) ∨
    (decide (x = 0) = false ∧ decide (x = 1) = false ∧ decide (x = 2) = false) := by
  simp only [decide_eq_true_eq, decide_eq_false_iff_not]; omega
theorem s77 (n : Nat) (H : Heap) (f : Fi) (i : Int) (a : Ac) (hx : a.x.size ≤ 10000) : call1 T (n + 9) (.fn 77) [.agg (fiC f), .int .i64 i, .agg (acC a)] H = some (.int .i64 (fmI f.C.length i a), H) := by
  have h := fun H => C13.s133 n H a.k a.s a.d a.q a.o a.c a.m a.e a.t a.u a.v a.x hx
  rw [enV_eq] at h
  unfold fmI
  refine call_pure e77 (by rfl) ?_
  rcases kd_cases a.kd with ⟨e0, e1, e2⟩ | ⟨e0, e1, e2⟩ | ⟨e0, e1, e2⟩ | ⟨e0, e1, e2⟩
  · simp only [c77, heap0, go_sem, Int.reduceToNat, Nat.reduceAdd, Nat.reduceBEq, Nat.reduceLeDiff, Nat.reduceLT, Nat.reduceMul, Nat.reduceSub, Int.reduceEq, Int.reduceLT, Int.reduceLE, Int.reduceNeg, e0, e1, e2]
  · cases e3 : decide (a.of < 0)
    · cases e4 : decide ((f.C.length : Int) ≤ a.of)
      · cases e5 : decide (enE a = 0)
        · simp only [c77, heap0, go_sem, Int.reduceToNat, Nat.reduceAdd, Nat.reduceBEq, Nat.reduceLeDiff, Nat.reduceLT, Nat.reduceMul, Nat.reduceSub, Int.reduceEq, Int.reduceLT, Int.reduceLE, Int.reduceNeg, e0, e1, e2, e3, e4, e5, h, Bool.or_self, Bool.or_false, Bool.or_true, Bool.false_or, Bool.true_or, Bool.not_false, Bool.not_true, Bool.and_true, Bool.and_false]
        · cases e6 : decide (a.k = 2)
          · cases e7 : decide (a.s = i) <;> simp only [c77, heap0, go_sem, Int.reduceToNat, Nat.reduceAdd, Nat.reduceBEq, Nat.reduceLeDiff, Nat.reduceLT, Nat.reduceMul, Nat.reduceSub, Int.reduceEq, Int.reduceLT, Int.reduceLE, Int.reduceNeg, e0, e1, e2, e3, e4, e5, e6, e7, h, Bool.or_self, Bool.or_false, Bool.or_true, Bool.false_or, Bool.true_or, Bool.not_false, Bool.not_true, Bool.and_true, Bool.and_false]
          · simp only [c77, heap0, go_sem, Int.reduceToNat, Nat.reduceAdd, Nat.reduceBEq, Nat.reduceLeDiff, Nat.reduceLT, Nat.reduceMul, Nat.reduceSub, Int.reduceEq, Int.reduceLT, Int.reduceLE, Int.reduceNeg, e0, e1, e2, e3, e4, e5, e6, h, Bool.or_self, Bool.or_false, Bool.or_true, Bool.false_or, Bool.true_or, Bool.not_false, Bool.not_true, Bool.and_true, Bool.and_false]
      · simp only [c77, heap0, go_sem, Int.reduceToNat, Nat.reduceAdd, Nat.reduceBEq, Nat.reduceLeDiff, Nat.reduceLT, Nat.reduceMul, Nat.reduceSub, Int.reduceEq, Int.reduceLT, Int.reduceLE, Int.reduceNeg, e0, e1, e2, e3, e4, Bool.or_self, Bool.or_false, Bool.or_true, Bool.false_or, Bool.true_or]
    · simp only [c77, heap0, go_sem, Int.reduceToNat, Nat.reduceAdd, Nat.reduceBEq, Nat.reduceLeDiff, Nat.reduceLT, Nat.reduceMul, Nat.reduceSub, Int.reduceEq, Int.reduceLT, Int.reduceLE, Int.reduceNeg, e0, e1, e2, e3, Bool.or_self, Bool.or_false, Bool.or_true, Bool.false_or, Bool.true_or]
  · cases e3 : decide (a.of < 0)
    · cases e4 : decide ((f.C.length : Int) ≤ a.of)
      · simp only [c77, heap0, go_sem, Int.reduceToNat, Nat.reduceAdd, Nat.reduceBEq, Nat.reduceLeDiff, Nat.reduceLT, Nat.reduceMul, Nat.reduceSub, Int.reduceEq, Int.reduceLT, Int.reduceLE, Int.reduceNeg, e0, e1, e2, e3, e4, h, Bool.or_self, Bool.or_false, Bool.or_true, Bool.false_or, Bool.true_or, Bool.not_false, Bool.not_true, Bool.and_true, Bool.and_false, Bool.false_and]
      · simp only [c77, heap0, go_sem, Int.reduceToNat, Nat.reduceAdd, Nat.reduceBEq, Nat.reduceLeDiff, Nat.reduceLT, Nat.reduceMul, Nat.reduceSub, Int.reduceEq, Int.reduceLT, Int.reduceLE, Int.reduceNeg, e0, e1, e2, e3, e4, Bool.or_self, Bool.or_false, Bool.or_true, Bool.false_or, Bool.true_or]
    · simp only [c77, heap0, go_sem, Int.reduceToNat, Nat.reduceAdd, Nat.reduceBEq, Nat.reduceLeDiff, Nat.reduceLT, Nat.reduceMul, Nat.reduceSub, Int.reduceEq, Int.reduceLT, Int.reduceLE, Int.reduceNeg, e0, e1, e2, e3, Bool.or_self, Bool.or_false, Bool.or_true, Bool.false_or, Bool.true_or]
  · simp only [c77, heap0, go_sem, Int.reduceToNat, Nat.reduceAdd, Nat.reduceBEq, Nat.reduceLeDiff, Nat.reduceLT, Nat.reduceMul, Nat.reduceSub, Int.reduceEq, Int.reduceLT, Int.reduceLE, Int.reduceNeg, e0, e1, e2, Bool.or_self]
theorem s74 (n : Nat) (H : Heap) (f : Fi) (i : Int) (a : Ac) : call1 T (n + 6) (.fn 74) [.agg (fiC f), .int .i64 i, .agg (acC a)] H = some (.int .i64 (fmI f.C.length i a), H) := by
  have h := fun H => C13.s51 a.k a.s a.d a.q a.o a.c a.m a.e a.t a.u a.v a.x n H
  rw [enV_eq] at h
  unfold fmI
  refine call_pure e74 (by rfl) ?_
  rcases kd_cases a.kd with ⟨e0, e1, e2⟩ | ⟨e0, e1, e2⟩ | ⟨e0, e1, e2⟩ | ⟨e0, e1, e2⟩
  · simp only [c74, heap0, go_sem, Int.reduceToNat, Nat.reduceAdd, Nat.reduceBEq, Nat.reduceLeDiff, Nat.reduceLT, Nat.reduceMul, Nat.reduceSub, Int.reduceEq, Int.reduceLT, Int.reduceLE, Int.reduceNeg, e0, e1, e2]
  · cases e3 : decide (a.of < 0)
    · cases e4 : decide ((f.C.length : Int) ≤ a.of)
      · cases e5 : decide (enE a = 0)
        · simp only [c74, heap0, go_sem, Int.reduceToNat, Nat.reduceAdd, Nat.reduceBEq, Nat.reduceLeDiff, Nat.reduceLT, Nat.reduceMul, Nat.reduceSub, Int.reduceEq, Int.reduceLT, Int.reduceLE, Int.reduceNeg, e0, e1, e2, e3, e4, e5, h, Bool.or_self, Bool.or_false, Bool.or_true, Bool.false_or, Bool.true_or, Bool.not_false, Bool.not_true, Bool.and_true, Bool.and_false]
        · cases e6 : decide (a.k = 2)
          · cases e7 : decide (a.s = i) <;> simp only [c74, heap0, go_sem, Int.reduceToNat, Nat.reduceAdd, Nat.reduceBEq, Nat.reduceLeDiff, Nat.reduceLT, Nat.reduceMul, Nat.reduceSub, Int.reduceEq, Int.reduceLT, Int.reduceLE, Int.reduceNeg, e0, e1, e2, e3, e4, e5, e6, e7, h, Bool.or_self, Bool.or_false, Bool.or_true, Bool.false_or, Bool.true_or, Bool.not_false, Bool.not_true, Bool.and_true, Bool.and_false]
          · simp only [c74, heap0, go_sem, Int.reduceToNat, Nat.reduceAdd, Nat.reduceBEq, Nat.reduceLeDiff, Nat.reduceLT, Nat.reduceMul, Nat.reduceSub, Int.reduceEq, Int.reduceLT, Int.reduceLE, Int.reduceNeg, e0, e1, e2, e3, e4, e5, e6, h, Bool.or_self, Bool.or_false, Bool.or_true, Bool.false_or, Bool.true_or, Bool.not_false, Bool.not_true, Bool.and_true, Bool.and_false]
      · simp only [c74, heap0, go_sem, Int.reduceToNat, Nat.reduceAdd, Nat.reduceBEq, Nat.reduceLeDiff, Nat.reduceLT, Nat.reduceMul, Nat.reduceSub, Int.reduceEq, Int.reduceLT, Int.reduceLE, Int.reduceNeg, e0, e1, e2, e3, e4, Bool.or_self, Bool.or_false, Bool.or_true, Bool.false_or, Bool.true_or]
    · simp only [c74, heap0, go_sem, Int.reduceToNat, Nat.reduceAdd, Nat.reduceBEq, Nat.reduceLeDiff, Nat.reduceLT, Nat.reduceMul, Nat.reduceSub, Int.reduceEq, Int.reduceLT, Int.reduceLE, Int.reduceNeg, e0, e1, e2, e3, Bool.or_self, Bool.or_false, Bool.or_true, Bool.false_or, Bool.true_or]
  · cases e3 : decide (a.of < 0)
    · cases e4 : decide ((f.C.length : Int) ≤ a.of)
      · simp only [c74, heap0, go_sem, Int.reduceToNat, Nat.reduceAdd, Nat.reduceBEq, Nat.reduceLeDiff, Nat.reduceLT, Nat.reduceMul, Nat.reduceSub, Int.reduceEq, Int.reduceLT, Int.reduceLE, Int.reduceNeg, e0, e1, e2, e3, e4, h, Bool.or_self, Bool.or_false, Bool.or_true, Bool.false_or, Bool.true_or, Bool.not_false, Bool.not_true, Bool.and_true, Bool.and_false, Bool.false_and]
      · simp only [c74, heap0, go_sem, Int.reduceToNat, Nat.reduceAdd, Nat.reduceBEq, Nat.reduceLeDiff, Nat.reduceLT, Nat.reduceMul, Nat.reduceSub, Int.reduceEq, Int.reduceLT, Int.reduceLE, Int.reduceNeg, e0, e1, e2, e3, e4, Bool.or_self, Bool.or_false, Bool.or_true, Bool.false_or, Bool.true_or]
    · simp only [c74, heap0, go_sem, Int.reduceToNat, Nat.reduceAdd, Nat.reduceBEq, Nat.reduceLeDiff, Nat.reduceLT, Nat.reduceMul, Nat.reduceSub, Int.reduceEq, Int.reduceLT, Int.reduceLE, Int.reduceNeg, e0, e1, e2, e3, Bool.or_self, Bool.or_false, Bool.or_true, Bool.false_or, Bool.true_or]
  · simp only [c74, heap0, go_sem, Int.reduceToNat, Nat.reduceAdd, Nat.reduceBEq, Nat.reduceLeDiff, Nat.reduceLT, Nat.reduceMul, Nat.reduceSub, Int.reduceEq, Int.reduceLT, Int.reduceLE, Int.reduceNeg, e0, e1, e2, Bool.or_self]
end Go.Sh
namespace Go.Sh
set_option linter.unusedSectionVars false
set_option linter.unnecessarySimpa false
set_option linter.unusedVariables false
set_option linter.unusedSimpArgs false
set_option maxRecDepth 100000
set_option maxHeartbeats 4000000
def fms (nc : Nat) : Nat → List Ac → Int
  | _, [] => 0
  | i, a :: r => bif decide (fmI nc i a = 0) then fms nc (i + 1) r else fmI nc i a
def stE (f : Fi) (s : Int) (A : List Ac) : Int := bif okF f then (bif decide (A.length = f.K.length) then (bif inF f s then fms f.C.length 0 A else 12) else 11) else 1
theorem drop_get {A : Type} {L : List A} {i : Nat} {a : A} (h : L[i]? = some a) : L.drop i = a :: L.drop (i + 1) := by
  obtain ⟨h1, h2⟩ := List.getElem?_eq_some_iff.1 h
  rw [List.drop_eq_getElem_cons h1, h2]
theorem s38 (n : Nat) (H : Heap) (f : Fi) (s : Int) (A : List Ac) (fl : Bool) (hb : Bd f) (hA : A.length ≤ maxLen) (hx : ∀ a ∈ A, a.x.size ≤ 10000) :
    call1 T (n + 10) (.fn 38) [.agg (fiC f), .int .i64 s, .lst 14 (acS A) fl] H = some (.int .i64 (stE f s A), H) := by
  have h1 := fun H => s22 (n + 1) H f hb
  have h2 := fun H => s65 (n + 8) H f s
  have h3 := fun H i a hx => s77 n H f i a hx
  unfold chF at h1
  refine call_pure e38 (by rfl) ?_
  unfold stE
  cases a1 : okF f with
  | false => rw [a1] at h1; simp only [c38, heap0, go_sem, Int.reduceToNat, Nat.reduceAdd, Nat.reduceBEq, Nat.reduceLeDiff, Nat.reduceLT, Nat.reduceMul, Nat.reduceSub, Int.reduceEq, Int.reduceLT, Int.reduceLE, Int.reduceNeg, h1]
  | true =>
    rw [a1] at h1
    cases a2 : decide (A.length = f.K.length) with
    | false => simp only [c38, heap0, go_sem, Int.reduceToNat, Nat.reduceAdd, Nat.reduceBEq, Nat.reduceLeDiff, Nat.reduceLT, Nat.reduceMul, Nat.reduceSub, Int.reduceEq, Int.reduceLT, Int.reduceLE, Int.reduceNeg, h1, G.ptsS_len', deqn, a2]
    | true =>
      cases a3 : inF f s with
      | false => rw [a3] at h2; simp only [c38, heap0, go_sem, Int.reduceToNat, Nat.reduceAdd, Nat.reduceBEq, Nat.reduceLeDiff, Nat.reduceLT, Nat.reduceMul, Nat.reduceSub, Int.reduceEq, Int.reduceLT, Int.reduceLE, Int.reduceNeg, h1, h2, G.ptsS_len', deqn, a2]
      | true =>
        rw [a3] at h2
        simp only [c38, heap0, go_sem, Int.reduceToNat, Nat.reduceAdd, Nat.reduceBEq, Nat.reduceLeDiff, Nat.reduceLT, Nat.reduceMul, Nat.reduceSub, Int.reduceEq, Int.reduceLT, Int.reduceLE, Int.reduceNeg, h1, h2, G.ptsS_len', deqn, a2]
        obtain ⟨X, hX⟩ : ∃ X, fms f.C.length 0 A = X := ⟨_, rfl⟩
        rw [hX]
        refine loop_rule (fun i => ([(3, .ptr 0 0 0 0), (26, .lst 14 (acS A) fl), (27, .int .i64 A.length), (28, .int .i64 i)], ⟨[.box (fiC f)], [], 0⟩)) (fun i => fms f.C.length i (A.drop i) = X) A.length ?_ hX ?_
        · simp only [go_sem, Int.reduceToNat, Nat.reduceAdd, Nat.reduceBEq, Nat.reduceLeDiff, Nat.reduceLT, Nat.reduceMul, Nat.reduceSub, Int.reduceEq, Int.reduceLT, Int.reduceLE, Int.reduceNeg] <;> rfl
        · intro i hi hP
          rcases Nat.lt_or_ge i A.length with hlt | hge
          · obtain ⟨a, ha⟩ : ∃ a, A[i]? = some a := ⟨A[i], List.getElem?_eq_getElem hlt⟩
            have hw := w64_suc hlt hA
            have h3 := fun H => h3 H i a (hx a (List.mem_of_getElem? ha))
            rw [drop_get ha, fms] at hP
            cases hc : decide (fmI f.C.length i a = 0) with
            | false =>
              rw [hc] at hP
              simp only [go_sem, Int.reduceToNat, Nat.reduceAdd, Nat.reduceBEq, Nat.reduceLeDiff, Nat.reduceLT, Nat.reduceMul, Nat.reduceSub, Int.reduceEq, Int.reduceLT, Int.reduceLE, Int.reduceNeg, hlt, ha, h3, hc, put1, hP]
              simp only [cond_false] at hP
              rw [hP]
            | true =>
              rw [hc] at hP
              simp only [go_sem, Int.reduceToNat, Nat.reduceAdd, Nat.reduceBEq, Nat.reduceLeDiff, Nat.reduceLT, Nat.reduceMul, Nat.reduceSub, Int.reduceEq, Int.reduceLT, Int.reduceLE, Int.reduceNeg, hlt, ha, h3, hc, put1, hw]
              refine ⟨by first | trivial | omega, by first | trivial | rfl, hP⟩
          · have hlt : ¬ i < A.length := by omega
            have hx : X = 0 := by rw [← hP, List.drop_eq_nil_of_le hge]; rfl
            simp only [go_sem, Int.reduceToNat, Nat.reduceAdd, Nat.reduceBEq, Nat.reduceLeDiff, Nat.reduceLT, Nat.reduceMul, Nat.reduceSub, Int.reduceEq, Int.reduceLT, Int.reduceLE, Int.reduceNeg, hlt, hx]
def cvA (f : Fi) (s : Int) (a : Ac) : Int := bif decide (a.kd = 0) then -1 else C11.chV f.v f.a f.b f.C s a.of
def chsA (f : Fi) (s : Int) (A : List Ac) : List Int := A.map (cvA f s)
theorem chsA_succ {f : Fi} {s : Int} {A : List Ac} {i : Nat} {a : Ac} (h : A[i]? = some a) : chsA f s (A.take (i + 1)) = chsA f s (A.take i) ++ [cvA f s a] := by
  unfold chsA
  rw [List.take_add_one, h]
  simp
theorem chsA_len {f : Fi} {s : Int} {A : List Ac} {i : Nat} (h : i ≤ A.length) : (iS (chsA f s (A.take i))).length = i := by
  simp [iS, chsA]; omega
abbrev plC (f : Fi) (s : Int) (A : List Ac) (fl : Bool) (x y z : SV) : List SV := [.lst 2 (G.ptsS f.N) f.f1, .lst 1 (G.intsS f.P) f.f2, .lst 5 (G.wlsS f.W) f.f3, .int .i64 f.ex, .int .i64 f.no, .int .i64 f.th,
  .lst 7 (U.srsS f.S) f.g1, .lst 6 (U.fdsS f.F) f.g2, .lst 2 (G.ptsS f.K) f.h1, .int .i64 f.v, .int .i64 f.a, .int .i64 f.b, .lst 1 (iS f.C) f.h2, .int .i64 s, .lst 14 (acS A) fl, x, y, z]
theorem s58 (n b i : Nat) (H : Heap) (f : Fi) (s : Int) (A : List Ac) (fl : Bool) (x y z : SV) (a : Ac) (hC : f.C.length ≤ 1000) (hb : H.bl[b]? = some (.box (plC f s A fl x y z))) (ha : A[i]? = some a) (hi : i < A.length) :
    call1 T (n + 6) (.fn 58) [.ptr b 0 0 0, .int .i64 i] H = some (.int .i64 (C11.chV f.v f.a f.b f.C s a.of), H) := by
  refine call_rox e58 rfl rfl (fun R k bl ro r hbl hk => ?_)
  obtain rfl : bl = H.bl := by
    rcases hbl with ⟨rfl, h0⟩ | rfl
    · simp [SV.refs.refsL, SV.refs] at h0
    · rfl
  have h6 := fun H' => C11.s105 n H' f.v f.a f.b f.C f.h2 s a.of hC
  simp only [c58, fr_get0, fr_getk, fr_set0, fr_setk, fr_take0, fr_takek, fr_drop0, fr_dropk, fr_le, fr_le0, fr_lt, fr_lt0, fr_lt1, fr_min, fr_mink, fr_beq, fr_beq0, fr_beq1, fr_maxle, fr_refl, fr_z, fr_s, List.append_assoc, List.length_append, Nat.add_assoc, go_sem, Int.reduceToNat, Nat.reduceAdd, Nat.reduceBEq, Nat.reduceLeDiff, Nat.reduceLT, Nat.reduceMul, Nat.reduceSub, Int.reduceEq, Int.reduceLT, Int.reduceLE, Int.reduceNeg, hb, ha, h6, hi]
  have := hk []
  rw [List.append_nil] at this
  exact this
end Go.Sh
namespace Go.Sh
set_option linter.unusedSectionVars false
set_option linter.unnecessarySimpa false
set_option linter.unusedVariables false
set_option linter.unusedSimpArgs false
set_option maxRecDepth 100000
set_option maxHeartbeats 4000000
theorem room8 {n : Nat} (h : n ≤ 1000) : decide ((n + 1) * 8 ≤ mostLen) = true := by
  rw [decide_eq_true_eq]
  exact Nat.le_trans (show (n + 1) * 8 ≤ 10000 by omega) (by decide)
def rsL (f : Fi) (s : Int) (A : List Ac) : SV := bif decide (stE f s A = 0) then .lst 1 (iS (chsA f s A)) false else .lst 0 [] true
theorem s20 (n : Nat) (H : Heap) (f : Fi) (s : Int) (A : List Ac) (fl : Bool) (hb : Bd f) (hA : A.length ≤ 1000) (hx : ∀ a ∈ A, a.x.size ≤ 10000) :
    call1 T (n + 11) (.fn 20) [.agg (fiC f), .int .i64 s, .lst 14 (acS A) fl] H = some (.tup [rsL f s A, .int .i64 (stE f s A)], H) := by
  have hA' : A.length ≤ maxLen := Nat.le_trans hA (by decide)
  have h1 := fun H => s38 n H f s A fl hb hA' hx
  refine call_pure e20 (by rfl) ?_
  unfold rsL
  cases he : decide (stE f s A = 0) with
  | false => simp only [c20, heap0, go_sem, Int.reduceToNat, Nat.reduceAdd, Nat.reduceBEq, Nat.reduceLeDiff, Nat.reduceLT, Nat.reduceMul, Nat.reduceSub, Int.reduceEq, Int.reduceLT, Int.reduceLE, Int.reduceNeg, h1, he]
  | true =>
    have he0 := of_decide_eq_true he
    rw [he0] at h1
    simp only [c20, heap0, go_sem, Int.reduceToNat, Nat.reduceAdd, Nat.reduceBEq, Nat.reduceLeDiff, Nat.reduceLT, Nat.reduceMul, Nat.reduceSub, Int.reduceEq, Int.reduceLT, Int.reduceLE, Int.reduceNeg, h1]
    refine loop_rule (fun i => ([(9, .ptr 1 0 0 0), (10, .slc 2 i 0 i), (25, .lst 14 (acS A) fl), (26, .int .i64 A.length), (27, .int .i64 i)], ⟨[.box (fiC f), .box (plC f s A fl (.lst 0 [] true) (.lst 0 [] true) (.lst 0 [] true)), .arr i 1 (iS (chsA f s (A.take i))) false], [], 0⟩)) (fun _ => True) A.length ?_ trivial ?_
    · simp only [go_sem, Int.reduceToNat, Nat.reduceAdd, Nat.reduceBEq, Nat.reduceLeDiff, Nat.reduceLT, Nat.reduceMul, Nat.reduceSub, Int.reduceEq, Int.reduceLT, Int.reduceLE, Int.reduceNeg] <;> rfl
    · intro i hi _
      rcases Nat.lt_or_ge i A.length with hlt | hge
      · obtain ⟨a, ha⟩ : ∃ a, A[i]? = some a := ⟨A[i], List.getElem?_eq_getElem hlt⟩
        have hw := w64_suc hlt hA'
        have hc := chsA_succ (f := f) (s := s) ha
        unfold cvA at hc
        have h5 := fun H hv => s58 (n + 4) 1 i H f s A fl (.lst 0 [] true) (.lst 0 [] true) (.lst 0 [] true) a hb.C hv ha hlt
        have hg := fun H X => apB_grow 1 H 2 i i X (iS (chsA f s (A.take i))) (chsA_len (by omega))
        cases hk : decide (a.kd = 0) with
        | true =>
          rw [hk] at hc
          simp only [cond_true] at hc
          simp only [go_sem, Int.reduceToNat, Nat.reduceAdd, Nat.reduceBEq, Nat.reduceLeDiff, Nat.reduceLT, Nat.reduceMul, Nat.reduceSub, Int.reduceEq, Int.reduceLT, Int.reduceLE, Int.reduceNeg, hlt, ha, hk, put1, hg, room8 (show i ≤ 1000 by omega), iS_snoc, ← hc, hw]
          exact ⟨by first | trivial | omega, by first | trivial | rfl, trivial⟩
        | false =>
          rw [hk] at hc
          simp only [cond_false] at hc
          simp only [go_sem, Int.reduceToNat, Nat.reduceAdd, Nat.reduceBEq, Nat.reduceLeDiff, Nat.reduceLT, Nat.reduceMul, Nat.reduceSub, Int.reduceEq, Int.reduceLT, Int.reduceLE, Int.reduceNeg, hlt, ha, hk, put1, h5, hg, room8 (show i ≤ 1000 by omega), iS_snoc, ← hc, hw]
          exact ⟨by first | trivial | omega, by first | trivial | rfl, trivial⟩
      · obtain rfl : i = A.length := by omega
        have hlt : ¬ A.length < A.length := by omega
        rw [List.take_length]
        have hfz := fun H v => (Still.ints (chsA f s A)).fz 0 H 5 v A.length 1 false (by simp [iS, chsA])
        simp only [go_sem, Int.reduceToNat, Nat.reduceAdd, Nat.reduceBEq, Nat.reduceLeDiff, Nat.reduceLT, Nat.reduceMul, Nat.reduceSub, Int.reduceEq, Int.reduceLT, Int.reduceLE, Int.reduceNeg, hlt, hfz, he0]
theorem s33 (n : Nat) (H : Heap) (f : Fi) (s : Int) (A : List Ac) (fl : Bool) (hb : Bd f) (hA : A.length ≤ 1000) :
    call1 T (n + 8) (.fn 33) [.agg (fiC f), .int .i64 s, .lst 14 (acS A) fl] H = some (.tup [rsL f s A, .int .i64 (stE f s A)], H) := by
  have hA' : A.length ≤ maxLen := Nat.le_trans hA (by decide)
  have h1 := fun H => s35 n H f hb
  have h2 := fun H => s73 (n + 6) H f s
  have h3 := fun H i a => s74 (n + 1) H f i a
  have h4 := fun H o => C11.s29 (n + 3) H f.v f.a f.b f.C f.h2 s o hb.C
  unfold chF at h1
  refine call_pure e33 (by rfl) ?_
  obtain ⟨X, hX⟩ : ∃ X, fms f.C.length 0 A = X := ⟨_, rfl⟩
  have hE : stE f s A = bif okF f then (bif decide (A.length = f.K.length) then (bif inF f s then X else 12) else 11) else 1 := by rw [← hX]; rfl
  unfold rsL
  rw [hE]
  cases a1 : okF f with
  | false => rw [a1] at h1; simp only [c33, heap0, go_sem, Int.reduceToNat, Nat.reduceAdd, Nat.reduceBEq, Nat.reduceLeDiff, Nat.reduceLT, Nat.reduceMul, Nat.reduceSub, Int.reduceEq, Int.reduceLT, Int.reduceLE, Int.reduceNeg, h1]
  | true =>
    rw [a1] at h1
    cases a2 : decide (A.length = f.K.length) with
    | false => simp only [c33, heap0, go_sem, Int.reduceToNat, Nat.reduceAdd, Nat.reduceBEq, Nat.reduceLeDiff, Nat.reduceLT, Nat.reduceMul, Nat.reduceSub, Int.reduceEq, Int.reduceLT, Int.reduceLE, Int.reduceNeg, h1, G.ptsS_len', deqn, a2]
    | true =>
      cases a3 : inF f s with
      | false => rw [a3] at h2; simp only [c33, heap0, go_sem, Int.reduceToNat, Nat.reduceAdd, Nat.reduceBEq, Nat.reduceLeDiff, Nat.reduceLT, Nat.reduceMul, Nat.reduceSub, Int.reduceEq, Int.reduceLT, Int.reduceLE, Int.reduceNeg, h1, h2, G.ptsS_len', deqn, a2]
      | true =>
        rw [a3] at h2
        simp only [c33, heap0, go_sem, Int.reduceToNat, Nat.reduceAdd, Nat.reduceBEq, Nat.reduceLeDiff, Nat.reduceLT, Nat.reduceMul, Nat.reduceSub, Int.reduceEq, Int.reduceLT, Int.reduceLE, Int.reduceNeg, h1, h2, G.ptsS_len', deqn, a2]
        refine loop_rule (fun i => ([(1, .int .i64 s), (2, .lst 14 (acS A) fl), (3, .ptr 0 0 0 0), (8, .slc 1 i 0 i), (9, .int .i64 i)], ⟨[.box (fiC f), .arr i 1 (iS (chsA f s (A.take i))) false], [], 0⟩)) (fun i => fms f.C.length i (A.drop i) = X) A.length ?_ hX ?_
        · simp only [go_sem, Int.reduceToNat, Nat.reduceAdd, Nat.reduceBEq, Nat.reduceLeDiff, Nat.reduceLT, Nat.reduceMul, Nat.reduceSub, Int.reduceEq, Int.reduceLT, Int.reduceLE, Int.reduceNeg] <;> rfl
        · intro i hi hP
          rcases Nat.lt_or_ge i A.length with hlt | hge
          · obtain ⟨a, ha⟩ : ∃ a, A[i]? = some a := ⟨A[i], List.getElem?_eq_getElem hlt⟩
            have hw := w64_suc hlt hA'
            have hc := chsA_succ (f := f) (s := s) ha
            unfold cvA at hc
            have h3 := fun H => h3 H i a
            have hg := fun H X => apB_grow 1 H 1 i i X (iS (chsA f s (A.take i))) (chsA_len (by omega))
            rw [drop_get ha, fms] at hP
            cases hf : decide (fmI f.C.length i a = 0) with
            | false =>
              rw [hf] at hP
              simp only [cond_false] at hP
              have hX0 : decide (X = 0) = false := by rw [← hP]; exact hf
              simp only [go_sem, Int.reduceToNat, Nat.reduceAdd, Nat.reduceBEq, Nat.reduceLeDiff, Nat.reduceLT, Nat.reduceMul, Nat.reduceSub, Int.reduceEq, Int.reduceLT, Int.reduceLE, Int.reduceNeg, hlt, ha, h3, hP, hX0]
            | true =>
              rw [hf] at hP
              cases hk : decide (a.kd = 0) with
              | true =>
                rw [hk] at hc
                simp only [cond_true] at hc
                simp only [go_sem, Int.reduceToNat, Nat.reduceAdd, Nat.reduceBEq, Nat.reduceLeDiff, Nat.reduceLT, Nat.reduceMul, Nat.reduceSub, Int.reduceEq, Int.reduceLT, Int.reduceLE, Int.reduceNeg, hlt, ha, h3, hf, hk, hg, room8 (show i ≤ 1000 by omega), iS_snoc, ← hc, hw]
                exact ⟨by first | trivial | omega, by first | trivial | rfl, hP⟩
              | false =>
                rw [hk] at hc
                simp only [cond_false] at hc
                simp only [go_sem, Int.reduceToNat, Nat.reduceAdd, Nat.reduceBEq, Nat.reduceLeDiff, Nat.reduceLT, Nat.reduceMul, Nat.reduceSub, Int.reduceEq, Int.reduceLT, Int.reduceLE, Int.reduceNeg, hlt, ha, h3, hf, hk, h4, hg, room8 (show i ≤ 1000 by omega), iS_snoc, ← hc, hw]
                exact ⟨by first | trivial | omega, by first | trivial | rfl, hP⟩
          · obtain rfl : i = A.length := by omega
            have hlt : ¬ A.length < A.length := by omega
            have hx : X = 0 := by rw [← hP, List.drop_eq_nil_of_le hge]; rfl
            rw [List.take_length]
            have hfz := fun H v => (Still.ints (chsA f s A)).fz 0 H 5 v A.length 1 false (by simp [iS, chsA])
            simp only [go_sem, Int.reduceToNat, Nat.reduceAdd, Nat.reduceBEq, Nat.reduceLeDiff, Nat.reduceLT, Nat.reduceMul, Nat.reduceSub, Int.reduceEq, Int.reduceLT, Int.reduceLE, Int.reduceNeg, hlt, hfz, hx, decide_true]
end Go.Sh
namespace Go.Sh
set_option linter.unusedSectionVars false
set_option linter.unnecessarySimpa false
set_option linter.unusedVariables false
set_option linter.unusedSimpArgs false
set_option maxRecDepth 100000
set_option maxHeartbeats 4000000
def inK (f : Fi) (i : Int) : Bool := decide (0 ≤ i) && decide (i < (f.K.length : Int))
def clk (f : Fi) (i : Int) : Int × Int := f.K.getD i.toNat (0, 0)
def cnE (f : Fi) (s x y : Int) : Int := bif okF f then (bif inK f x && inK f y then (bif inF f s then (bif decide (snE (clk f x).1 (clk f x).2 s = 0) && decide (wnE (clk f y).1 (clk f y).2 s = 0) then 0 else 15) else 12) else 7) else 1
def cnB (f : Fi) (s x y : Int) : Bool := decide (cnE f s x y = 0) && (decide (wnA (clk f y).1 (clk f y).2 s ≤ snV (clk f x).1 (clk f x).2 s) && decide (snV (clk f x).1 (clk f x).2 s ≤ wnB (clk f y).1 (clk f y).2 s))
theorem inK_no {f : Fi} {i : Int} (h : inK f i = false) : decide (i < 0) = true ∨ decide (i < 0) = false ∧ decide ((f.K.length : Int) ≤ i) = true := by
  simp only [inK, Bool.and_eq_false_iff, decide_eq_false_iff_not, decide_eq_true_eq] at *; omega
theorem inK_yes {f : Fi} {i : Int} (h : inK f i = true) : decide (i < 0) = false ∧ decide ((f.K.length : Int) ≤ i) = false ∧ ∃ j : Nat, i = j ∧ j < f.K.length ∧ f.K[j]? = some (clk f i) := by
  simp only [inK, Bool.and_eq_true, decide_eq_true_eq] at h
  refine ⟨decide_eq_false (by omega), decide_eq_false (by omega), ?_⟩
  obtain ⟨j, rfl⟩ := Int.eq_ofNat_of_zero_le h.1
  have hj : j < f.K.length := by omega
  exact ⟨j, rfl, hj, by rw [clk, List.getD_eq_getElem?_getD, Int.toNat_natCast, List.getElem?_eq_getElem hj]; rfl⟩
theorem s23 (n : Nat) (H : Heap) (f : Fi) (s x y : Int) (hb : Bd f) : call1 T (n + 9) (.fn 23) [.agg (fiC f), .int .i64 s, .int .i64 x, .int .i64 y] H = some (.tup [.bool (cnB f s x y), .int .i64 (cnE f s x y)], H) := by
  have h1 := fun H => s22 n H f hb
  have h2 := fun H => s65 (n + 7) H f s
  unfold chF at h1
  refine call_pure e23 (by rfl) ?_
  unfold cnB cnE
  cases a1 : okF f with
  | false => rw [a1] at h1; simp only [c23, heap0, go_sem, Int.reduceToNat, Nat.reduceAdd, Nat.reduceBEq, Nat.reduceLeDiff, Nat.reduceLT, Nat.reduceMul, Nat.reduceSub, Int.reduceEq, Int.reduceLT, Int.reduceLE, Int.reduceNeg, h1, G.ptsS_len', Bool.false_and]
  | true =>
    rw [a1] at h1
    cases b1 : inK f x with
    | false =>
      rcases inK_no b1 with g1 | ⟨g1, g2⟩
      · simp only [c23, heap0, go_sem, Int.reduceToNat, Nat.reduceAdd, Nat.reduceBEq, Nat.reduceLeDiff, Nat.reduceLT, Nat.reduceMul, Nat.reduceSub, Int.reduceEq, Int.reduceLT, Int.reduceLE, Int.reduceNeg, h1, G.ptsS_len', g1, Bool.false_and]
      · simp only [c23, heap0, go_sem, Int.reduceToNat, Nat.reduceAdd, Nat.reduceBEq, Nat.reduceLeDiff, Nat.reduceLT, Nat.reduceMul, Nat.reduceSub, Int.reduceEq, Int.reduceLT, Int.reduceLE, Int.reduceNeg, h1, G.ptsS_len', g1, g2, Bool.false_and]
    | true =>
      obtain ⟨g1, g2, i, hi, hil, hig⟩ := inK_yes b1
      cases b2 : inK f y with
      | false =>
        rcases inK_no b2 with g3 | ⟨g3, g4⟩
        · simp only [c23, heap0, go_sem, Int.reduceToNat, Nat.reduceAdd, Nat.reduceBEq, Nat.reduceLeDiff, Nat.reduceLT, Nat.reduceMul, Nat.reduceSub, Int.reduceEq, Int.reduceLT, Int.reduceLE, Int.reduceNeg, h1, G.ptsS_len', g1, g2, g3, Bool.false_and, Bool.and_false]
        · simp only [c23, heap0, go_sem, Int.reduceToNat, Nat.reduceAdd, Nat.reduceBEq, Nat.reduceLeDiff, Nat.reduceLT, Nat.reduceMul, Nat.reduceSub, Int.reduceEq, Int.reduceLT, Int.reduceLE, Int.reduceNeg, h1, G.ptsS_len', g1, g2, g3, g4, Bool.false_and, Bool.and_false]
      | true =>
        obtain ⟨g3, g4, j, hj, hjl, hjg⟩ := inK_yes b2
        cases a3 : inF f s with
        | false => rw [a3] at h2; simp only [c23, heap0, go_sem, Int.reduceToNat, Nat.reduceAdd, Nat.reduceBEq, Nat.reduceLeDiff, Nat.reduceLT, Nat.reduceMul, Nat.reduceSub, Int.reduceEq, Int.reduceLT, Int.reduceLE, Int.reduceNeg, h1, h2, G.ptsS_len', g1, g2, g3, g4, Bool.and_self, Bool.false_and]
        | true =>
          rw [a3] at h2
          have h5 := fun H a b => s66 (n + 2) H a b s
          have h6 := fun H a b => s67 (n + 2) H a b s
          generalize clk f x = p at hig ⊢
          generalize clk f y = q at hjg ⊢
          subst hi
          subst hj
          cases b5 : decide (snE p.1 p.2 s = 0) with
          | false => simp only [c23, heap0, go_sem, Int.reduceToNat, Nat.reduceAdd, Nat.reduceBEq, Nat.reduceLeDiff, Nat.reduceLT, Nat.reduceMul, Nat.reduceSub, Int.reduceEq, Int.reduceLT, Int.reduceLE, Int.reduceNeg, h1, h2, G.ptsS_len', g1, g2, g3, g4, hil, hjl, hig, hjg, h5, h6, b5, Bool.and_self, Bool.false_and]
          | true =>
            cases b6 : decide (wnE q.1 q.2 s = 0) with
            | false => simp only [c23, heap0, go_sem, Int.reduceToNat, Nat.reduceAdd, Nat.reduceBEq, Nat.reduceLeDiff, Nat.reduceLT, Nat.reduceMul, Nat.reduceSub, Int.reduceEq, Int.reduceLT, Int.reduceLE, Int.reduceNeg, h1, h2, G.ptsS_len', g1, g2, g3, g4, hil, hjl, hig, hjg, h5, h6, b5, b6, Bool.and_self, Bool.false_and, Bool.and_false]
            | true =>
              cases b7 : decide (wnA q.1 q.2 s ≤ snV p.1 p.2 s) <;> simp only [c23, heap0, go_sem, Int.reduceToNat, Nat.reduceAdd, Nat.reduceBEq, Nat.reduceLeDiff, Nat.reduceLT, Nat.reduceMul, Nat.reduceSub, Int.reduceEq, Int.reduceLT, Int.reduceLE, Int.reduceNeg, h1, h2, G.ptsS_len', g1, g2, g3, g4, hil, hjl, hig, hjg, h5, h6, b5, b6, b7, Bool.and_self, Bool.true_and, Bool.false_and]
theorem s34 (n : Nat) (H : Heap) (f : Fi) (s x y : Int) (hb : Bd f) : call1 T (n + 8) (.fn 34) [.agg (fiC f), .int .i64 s, .int .i64 x, .int .i64 y] H = some (.tup [.bool (cnB f s x y), .int .i64 (cnE f s x y)], H) := by
  have h1 := fun H => s35 n H f hb
  have h2 := fun H => s73 (n + 6) H f s
  unfold chF at h1
  refine call_pure e34 (by rfl) ?_
  unfold cnB cnE
  cases a1 : okF f with
  | false => rw [a1] at h1; simp only [c34, heap0, go_sem, Int.reduceToNat, Nat.reduceAdd, Nat.reduceBEq, Nat.reduceLeDiff, Nat.reduceLT, Nat.reduceMul, Nat.reduceSub, Int.reduceEq, Int.reduceLT, Int.reduceLE, Int.reduceNeg, h1, G.ptsS_len', Bool.false_and]
  | true =>
    rw [a1] at h1
    cases b1 : inK f x with
    | false =>
      rcases inK_no b1 with g1 | ⟨g1, g2⟩
      · simp only [c34, heap0, go_sem, Int.reduceToNat, Nat.reduceAdd, Nat.reduceBEq, Nat.reduceLeDiff, Nat.reduceLT, Nat.reduceMul, Nat.reduceSub, Int.reduceEq, Int.reduceLT, Int.reduceLE, Int.reduceNeg, h1, G.ptsS_len', g1, Bool.false_and]
      · simp only [c34, heap0, go_sem, Int.reduceToNat, Nat.reduceAdd, Nat.reduceBEq, Nat.reduceLeDiff, Nat.reduceLT, Nat.reduceMul, Nat.reduceSub, Int.reduceEq, Int.reduceLT, Int.reduceLE, Int.reduceNeg, h1, G.ptsS_len', g1, g2, Bool.false_and]
    | true =>
      obtain ⟨g1, g2, i, hi, hil, hig⟩ := inK_yes b1
      cases b2 : inK f y with
      | false =>
        rcases inK_no b2 with g3 | ⟨g3, g4⟩
        · simp only [c34, heap0, go_sem, Int.reduceToNat, Nat.reduceAdd, Nat.reduceBEq, Nat.reduceLeDiff, Nat.reduceLT, Nat.reduceMul, Nat.reduceSub, Int.reduceEq, Int.reduceLT, Int.reduceLE, Int.reduceNeg, h1, G.ptsS_len', g1, g2, g3, Bool.false_and, Bool.and_false]
        · simp only [c34, heap0, go_sem, Int.reduceToNat, Nat.reduceAdd, Nat.reduceBEq, Nat.reduceLeDiff, Nat.reduceLT, Nat.reduceMul, Nat.reduceSub, Int.reduceEq, Int.reduceLT, Int.reduceLE, Int.reduceNeg, h1, G.ptsS_len', g1, g2, g3, g4, Bool.false_and, Bool.and_false]
      | true =>
        obtain ⟨g3, g4, j, hj, hjl, hjg⟩ := inK_yes b2
        cases a3 : inF f s with
        | false => rw [a3] at h2; simp only [c34, heap0, go_sem, Int.reduceToNat, Nat.reduceAdd, Nat.reduceBEq, Nat.reduceLeDiff, Nat.reduceLT, Nat.reduceMul, Nat.reduceSub, Int.reduceEq, Int.reduceLT, Int.reduceLE, Int.reduceNeg, h1, h2, G.ptsS_len', g1, g2, g3, g4, Bool.and_self, Bool.false_and]
        | true =>
          rw [a3] at h2
          have h5 := fun H a b => s13 (n + 2) H a b s
          have h6 := fun H a b => s54 (n + 2) H a b s
          generalize clk f x = p at hig ⊢
          generalize clk f y = q at hjg ⊢
          subst hi
          subst hj
          cases b5 : decide (snE p.1 p.2 s = 0) with
          | false => simp only [c34, heap0, go_sem, Int.reduceToNat, Nat.reduceAdd, Nat.reduceBEq, Nat.reduceLeDiff, Nat.reduceLT, Nat.reduceMul, Nat.reduceSub, Int.reduceEq, Int.reduceLT, Int.reduceLE, Int.reduceNeg, h1, h2, G.ptsS_len', g1, g2, g3, g4, hil, hjl, hig, hjg, h5, h6, b5, Bool.and_self, Bool.false_and]
          | true =>
            cases b6 : decide (wnE q.1 q.2 s = 0) with
            | false => simp only [c34, heap0, go_sem, Int.reduceToNat, Nat.reduceAdd, Nat.reduceBEq, Nat.reduceLeDiff, Nat.reduceLT, Nat.reduceMul, Nat.reduceSub, Int.reduceEq, Int.reduceLT, Int.reduceLE, Int.reduceNeg, h1, h2, G.ptsS_len', g1, g2, g3, g4, hil, hjl, hig, hjg, h5, h6, b5, b6, Bool.and_self, Bool.false_and, Bool.and_false]
            | true =>
              cases b7 : decide (wnA q.1 q.2 s ≤ snV p.1 p.2 s) <;> simp only [c34, heap0, go_sem, Int.reduceToNat, Nat.reduceAdd, Nat.reduceBEq, Nat.reduceLeDiff, Nat.reduceLT, Nat.reduceMul, Nat.reduceSub, Int.reduceEq, Int.reduceLT, Int.reduceLE, Int.reduceNeg, h1, h2, G.ptsS_len', g1, g2, g3, g4, hil, hjl, hig, hjg, h5, h6, b5, b6, b7, Bool.and_self, Bool.true_and, Bool.false_and]
end Go.Sh
