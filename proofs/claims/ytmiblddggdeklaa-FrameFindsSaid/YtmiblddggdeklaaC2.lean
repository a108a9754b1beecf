

import Derived.Test.YtmiblddggdeklaaC1
namespace Go.Sh
set_option linter.unusedSectionVars false
set_option linter.unnecessarySimpa false
set_option linter.unusedVariables false
set_option linter.unusedSimpArgs false
set_option maxRecDepth 100000
set_option maxHeartbeats 4000000
/-- The number of a number's bits. -/
def lenN (x : Nat) : Nat := if x = 0 then 0 else x.log2 + 1
theorem lenN_le {x w : Nat} : lenN x ≤ w ↔ x < 2 ^ w := by
  unfold lenN
  by_cases h : x = 0
  · subst h; simp; exact Nat.pow_pos (by decide)
  · rw [if_neg h, Nat.succ_le_iff, Nat.log2_lt h]
theorem lenN_div {x k : Nat} (h : 2 ^ k ≤ x) : lenN (x / 2 ^ k) + k = lenN x := by
  have key : ∀ w, lenN (x / 2 ^ k) + k ≤ w ↔ lenN x ≤ w := fun w => by
    by_cases hw : k ≤ w
    · obtain ⟨d, rfl⟩ := Nat.exists_eq_add_of_le hw
      rw [show (lenN (x / 2 ^ k) + k ≤ k + d) ↔ lenN (x / 2 ^ k) ≤ d by omega, lenN_le, lenN_le, Nat.pow_add, Nat.div_lt_iff_lt_mul (Nat.pow_pos (by decide)), Nat.mul_comm]
    · rw [lenN_le]
      have h2 : 2 ^ w ≤ 2 ^ k := Nat.pow_le_pow_right (by decide) (by omega)
      omega
  exact Nat.le_antisymm ((key _).2 (Nat.le_refl _)) ((key _).1 (Nat.le_refl _))
theorem lenN_le64 {x : Nat} (h : x < 2 ^ 64) : lenN x ≤ 64 := lenN_le.2 h
def lenS : ByteArray := ⟨⟨[0, 1, 2, 2, 3, 3, 3, 3, 4, 4, 4, 4, 4, 4, 4, 4, 5, 5, 5, 5, 5, 5, 5, 5, 5, 5, 5, 5, 5, 5, 5, 5, 6, 6, 6, 6, 6, 6, 6, 6, 6, 6, 6, 6, 6, 6, 6, 6, 6, 6, 6, 6, 6, 6, 6, 6, 6, 6, 6, 6, 6, 6, 6, 6, 7, 7, 7, 7, 7, 7, 7, 7, 7, 7, 7, 7, 7, 7, 7, 7, 7, 7, 7, 7, 7, 7, 7, 7, 7, 7, 7, 7, 7, 7, 7, 7, 7, 7, 7, 7, 7, 7, 7, 7, 7, 7, 7, 7, 7, 7, 7, 7, 7, 7, 7, 7, 7, 7, 7, 7, 7, 7, 7, 7, 7, 7, 7, 7, 8, 8, 8, 8, 8, 8, 8, 8, 8, 8, 8, 8, 8, 8, 8, 8, 8, 8, 8, 8, 8, 8, 8, 8, 8, 8, 8, 8, 8, 8, 8, 8, 8, 8, 8, 8, 8, 8, 8, 8, 8, 8, 8, 8, 8, 8, 8, 8, 8, 8, 8, 8, 8, 8, 8, 8, 8, 8, 8, 8, 8, 8, 8, 8, 8, 8, 8, 8, 8, 8, 8, 8, 8, 8, 8, 8, 8, 8, 8, 8, 8, 8, 8, 8, 8, 8, 8, 8, 8, 8, 8, 8, 8, 8, 8, 8, 8, 8, 8, 8, 8, 8, 8, 8, 8, 8, 8, 8, 8, 8, 8, 8, 8, 8, 8, 8, 8, 8, 8, 8, 8, 8, 8, 8, 8, 8, 8, 8]⟩⟩
theorem lenS_get : ∀ i : Fin 256, lenS.data[(i : Nat)]? = some (UInt8.ofNat (lenN i)) := by decide
theorem fd32 (x : Nat) : (x : Int).fdiv (2 ^ min 32 64) = ((x / 2 ^ 32 : Nat) : Int) := by rw [show min 32 64 = 32 from rfl, fdiv_nat]
theorem fd16 (x : Nat) : (x : Int).fdiv (2 ^ min 16 64) = ((x / 2 ^ 16 : Nat) : Int) := by rw [show min 16 64 = 16 from rfl, fdiv_nat]
theorem fd8 (x : Nat) : (x : Int).fdiv (2 ^ min 8 64) = ((x / 2 ^ 8 : Nat) : Int) := by rw [show min 8 64 = 8 from rfl, fdiv_nat]
theorem u8N {x : Nat} (h : x < 256) : IntKind.u8.wrap (x : Int) = x := wrap8 (by omega) (by omega)
theorem lenS_at {x : Nat} (h : x < 256) : lenS.data[x]? = some (UInt8.ofNat (lenN x)) := lenS_get ⟨x, h⟩
theorem ofNat_toNat {a : Nat} (h : a < 256) : (UInt8.ofNat a).toNat = a := by
  simp [UInt8.toNat_ofNat, Nat.mod_eq_of_lt h]
theorem wn1 : w64 (32 + 16) = 48 := by decide
theorem wn2 : w64 (48 + 8) = 56 := by decide
theorem wn3 : w64 (0 + 16) = 16 := by decide
theorem wn4 : w64 (16 + 8) = 24 := by decide
theorem wn5 : w64 (32 + 8) = 40 := by decide
theorem wn6 : w64 (0 + 8) = 8 := by decide
theorem lenS_size : lenS.size = 256 := by rfl
theorem s106 (n : Nat) (H : Heap) (x : Nat) (h : x < 2 ^ 64) : call1 T (n + 1) (.fn 106) [.int .u64 x] H = some (.int .i64 (lenN x), H) := by
  refine call_pure e106 (by rfl) ?_
  simp only [c106, heap0, go_sem, Int.cast_ofNat_Int, Int.reduceToNat, Bool.true_xor, Bool.false_xor, Bool.xor_true, Bool.xor_false, Nat.reduceAdd, Nat.reduceBEq, Nat.reduceLeDiff, Nat.reduceLT, Nat.reduceMul, Nat.reduceSub, Int.reduceEq, Int.reduceLT, Int.reduceLE, Int.reduceNeg]
  rw [← lenS]
  by_cases h32 : 4294967296 ≤ x
  · have hd32 : decide ((4294967296 : Int) ≤ (x : Int)) = true := decide_eq_true (by omega)
    have hl32 := lenN_div (x := x) (k := 32) (by omega)
    obtain ⟨y32, hy32⟩ : ∃ z, x / 2 ^ 32 = z := ⟨_, rfl⟩
    rw [hy32] at hl32
    have hb32 : y32 < 4294967296 := by omega
    by_cases h16 : 65536 ≤ y32
    · have hd16 : decide ((65536 : Int) ≤ (y32 : Int)) = true := decide_eq_true (by omega)
      have hl16 := lenN_div (x := y32) (k := 16) (by omega)
      obtain ⟨y16, hy16⟩ : ∃ z, y32 / 2 ^ 16 = z := ⟨_, rfl⟩
      rw [hy16] at hl16
      have hb16 : y16 < 65536 := by omega
      by_cases h8 : 256 ≤ y16
      · have hd8 : decide ((256 : Int) ≤ (y16 : Int)) = true := decide_eq_true (by omega)
        have hl8 := lenN_div (x := y16) (k := 8) (by omega)
        obtain ⟨y8, hy8⟩ : ∃ z, y16 / 2 ^ 8 = z := ⟨_, rfl⟩
        rw [hy8] at hl8
        have hb8 : y8 < 256 := by omega
        have hu := u8N (x := y8) (by omega)
        have hg := lenS_at (x := y8) (by omega)
        have hn : (UInt8.ofNat (lenN y8)).toNat = lenN y8 := by have := (lenN_le (x := y8) (w := 8)).2 (by omega); exact ofNat_toNat (by omega)
        have hn2 : lenN y8 ≤ 8 := (lenN_le (x := y8) (w := 8)).2 (by omega)
        have hz : decide ((y8 : Int) < 256) = true := decide_eq_true (by omega)
        have hz0 : decide ((0 : Int) ≤ (y8 : Int)) = true := decide_eq_true (by omega)
        have hw1 : w64 ((lenN y8 : Nat) : Int) = (lenN y8 : Nat) := w64_id (by omega) (by omega)
        have hw2 : w64 (56 + ((lenN y8 : Nat) : Int)) = (lenN x : Nat) := by rw [w64_id (by omega) (by omega)]; omega
        simp only [go_sem, Int.cast_ofNat_Int, Int.reduceToNat, Bool.true_xor, Bool.false_xor, Bool.xor_true, Bool.xor_false, Nat.reduceAdd, Nat.reduceBEq, Nat.reduceLeDiff, Nat.reduceLT, Nat.reduceMul, Nat.reduceSub, Int.reduceEq, Int.reduceLT, Int.reduceLE, Int.reduceNeg, hd32, fd32, hy32, hd16, fd16, hy16, hd8, fd8, hy8, hu, hg, hn, hz, hz0, hw1, hw2, lenS_size, Int.toNat_natCast, wn1, wn2, wn3, wn4, wn5, wn6]
        try rfl
      · have hd8 : decide ((256 : Int) ≤ (y16 : Int)) = false := decide_eq_false (by omega)
        have hu := u8N (x := y16) (by omega)
        have hg := lenS_at (x := y16) (by omega)
        have hn : (UInt8.ofNat (lenN y16)).toNat = lenN y16 := by have := (lenN_le (x := y16) (w := 8)).2 (by omega); exact ofNat_toNat (by omega)
        have hn2 : lenN y16 ≤ 8 := (lenN_le (x := y16) (w := 8)).2 (by omega)
        have hz : decide ((y16 : Int) < 256) = true := decide_eq_true (by omega)
        have hz0 : decide ((0 : Int) ≤ (y16 : Int)) = true := decide_eq_true (by omega)
        have hw1 : w64 ((lenN y16 : Nat) : Int) = (lenN y16 : Nat) := w64_id (by omega) (by omega)
        have hw2 : w64 (48 + ((lenN y16 : Nat) : Int)) = (lenN x : Nat) := by rw [w64_id (by omega) (by omega)]; omega
        simp only [go_sem, Int.cast_ofNat_Int, Int.reduceToNat, Bool.true_xor, Bool.false_xor, Bool.xor_true, Bool.xor_false, Nat.reduceAdd, Nat.reduceBEq, Nat.reduceLeDiff, Nat.reduceLT, Nat.reduceMul, Nat.reduceSub, Int.reduceEq, Int.reduceLT, Int.reduceLE, Int.reduceNeg, hd32, fd32, hy32, hd16, fd16, hy16, hd8, hu, hg, hn, hz, hz0, hw1, hw2, lenS_size, Int.toNat_natCast, wn1, wn2, wn3, wn4, wn5, wn6]
        try rfl
    · have hd16 : decide ((65536 : Int) ≤ (y32 : Int)) = false := decide_eq_false (by omega)
      by_cases h8 : 256 ≤ y32
      · have hd8 : decide ((256 : Int) ≤ (y32 : Int)) = true := decide_eq_true (by omega)
        have hl8 := lenN_div (x := y32) (k := 8) (by omega)
        obtain ⟨y8, hy8⟩ : ∃ z, y32 / 2 ^ 8 = z := ⟨_, rfl⟩
        rw [hy8] at hl8
        have hb8 : y8 < 256 := by omega
        have hu := u8N (x := y8) (by omega)
        have hg := lenS_at (x := y8) (by omega)
        have hn : (UInt8.ofNat (lenN y8)).toNat = lenN y8 := by have := (lenN_le (x := y8) (w := 8)).2 (by omega); exact ofNat_toNat (by omega)
        have hn2 : lenN y8 ≤ 8 := (lenN_le (x := y8) (w := 8)).2 (by omega)
        have hz : decide ((y8 : Int) < 256) = true := decide_eq_true (by omega)
        have hz0 : decide ((0 : Int) ≤ (y8 : Int)) = true := decide_eq_true (by omega)
        have hw1 : w64 ((lenN y8 : Nat) : Int) = (lenN y8 : Nat) := w64_id (by omega) (by omega)
        have hw2 : w64 (40 + ((lenN y8 : Nat) : Int)) = (lenN x : Nat) := by rw [w64_id (by omega) (by omega)]; omega
        simp only [go_sem, Int.cast_ofNat_Int, Int.reduceToNat, Bool.true_xor, Bool.false_xor, Bool.xor_true, Bool.xor_false, Nat.reduceAdd, Nat.reduceBEq, Nat.reduceLeDiff, Nat.reduceLT, Nat.reduceMul, Nat.reduceSub, Int.reduceEq, Int.reduceLT, Int.reduceLE, Int.reduceNeg, hd32, fd32, hy32, hd16, hd8, fd8, hy8, hu, hg, hn, hz, hz0, hw1, hw2, lenS_size, Int.toNat_natCast, wn1, wn2, wn3, wn4, wn5, wn6]
        try rfl
      · have hd8 : decide ((256 : Int) ≤ (y32 : Int)) = false := decide_eq_false (by omega)
        have hu := u8N (x := y32) (by omega)
        have hg := lenS_at (x := y32) (by omega)
        have hn : (UInt8.ofNat (lenN y32)).toNat = lenN y32 := by have := (lenN_le (x := y32) (w := 8)).2 (by omega); exact ofNat_toNat (by omega)
        have hn2 : lenN y32 ≤ 8 := (lenN_le (x := y32) (w := 8)).2 (by omega)
        have hz : decide ((y32 : Int) < 256) = true := decide_eq_true (by omega)
        have hz0 : decide ((0 : Int) ≤ (y32 : Int)) = true := decide_eq_true (by omega)
        have hw1 : w64 ((lenN y32 : Nat) : Int) = (lenN y32 : Nat) := w64_id (by omega) (by omega)
        have hw2 : w64 (32 + ((lenN y32 : Nat) : Int)) = (lenN x : Nat) := by rw [w64_id (by omega) (by omega)]; omega
        simp only [go_sem, Int.cast_ofNat_Int, Int.reduceToNat, Bool.true_xor, Bool.false_xor, Bool.xor_true, Bool.xor_false, Nat.reduceAdd, Nat.reduceBEq, Nat.reduceLeDiff, Nat.reduceLT, Nat.reduceMul, Nat.reduceSub, Int.reduceEq, Int.reduceLT, Int.reduceLE, Int.reduceNeg, hd32, fd32, hy32, hd16, hd8, hu, hg, hn, hz, hz0, hw1, hw2, lenS_size, Int.toNat_natCast, wn1, wn2, wn3, wn4, wn5, wn6]
        try rfl
  · have hd32 : decide ((4294967296 : Int) ≤ (x : Int)) = false := decide_eq_false (by omega)
    by_cases h16 : 65536 ≤ x
    · have hd16 : decide ((65536 : Int) ≤ (x : Int)) = true := decide_eq_true (by omega)
      have hl16 := lenN_div (x := x) (k := 16) (by omega)
      obtain ⟨y16, hy16⟩ : ∃ z, x / 2 ^ 16 = z := ⟨_, rfl⟩
      rw [hy16] at hl16
      have hb16 : y16 < 65536 := by omega
      by_cases h8 : 256 ≤ y16
      · have hd8 : decide ((256 : Int) ≤ (y16 : Int)) = true := decide_eq_true (by omega)
        have hl8 := lenN_div (x := y16) (k := 8) (by omega)
        obtain ⟨y8, hy8⟩ : ∃ z, y16 / 2 ^ 8 = z := ⟨_, rfl⟩
        rw [hy8] at hl8
        have hb8 : y8 < 256 := by omega
        have hu := u8N (x := y8) (by omega)
        have hg := lenS_at (x := y8) (by omega)
        have hn : (UInt8.ofNat (lenN y8)).toNat = lenN y8 := by have := (lenN_le (x := y8) (w := 8)).2 (by omega); exact ofNat_toNat (by omega)
        have hn2 : lenN y8 ≤ 8 := (lenN_le (x := y8) (w := 8)).2 (by omega)
        have hz : decide ((y8 : Int) < 256) = true := decide_eq_true (by omega)
        have hz0 : decide ((0 : Int) ≤ (y8 : Int)) = true := decide_eq_true (by omega)
        have hw1 : w64 ((lenN y8 : Nat) : Int) = (lenN y8 : Nat) := w64_id (by omega) (by omega)
        have hw2 : w64 (24 + ((lenN y8 : Nat) : Int)) = (lenN x : Nat) := by rw [w64_id (by omega) (by omega)]; omega
        simp only [go_sem, Int.cast_ofNat_Int, Int.reduceToNat, Bool.true_xor, Bool.false_xor, Bool.xor_true, Bool.xor_false, Nat.reduceAdd, Nat.reduceBEq, Nat.reduceLeDiff, Nat.reduceLT, Nat.reduceMul, Nat.reduceSub, Int.reduceEq, Int.reduceLT, Int.reduceLE, Int.reduceNeg, hd32, hd16, fd16, hy16, hd8, fd8, hy8, hu, hg, hn, hz, hz0, hw1, hw2, lenS_size, Int.toNat_natCast, wn1, wn2, wn3, wn4, wn5, wn6]
        try rfl
      · have hd8 : decide ((256 : Int) ≤ (y16 : Int)) = false := decide_eq_false (by omega)
        have hu := u8N (x := y16) (by omega)
        have hg := lenS_at (x := y16) (by omega)
        have hn : (UInt8.ofNat (lenN y16)).toNat = lenN y16 := by have := (lenN_le (x := y16) (w := 8)).2 (by omega); exact ofNat_toNat (by omega)
        have hn2 : lenN y16 ≤ 8 := (lenN_le (x := y16) (w := 8)).2 (by omega)
        have hz : decide ((y16 : Int) < 256) = true := decide_eq_true (by omega)
        have hz0 : decide ((0 : Int) ≤ (y16 : Int)) = true := decide_eq_true (by omega)
        have hw1 : w64 ((lenN y16 : Nat) : Int) = (lenN y16 : Nat) := w64_id (by omega) (by omega)
        have hw2 : w64 (16 + ((lenN y16 : Nat) : Int)) = (lenN x : Nat) := by rw [w64_id (by omega) (by omega)]; omega
        simp only [go_sem, Int.cast_ofNat_Int, Int.reduceToNat, Bool.true_xor, Bool.false_xor, Bool.xor_true, Bool.xor_false, Nat.reduceAdd, Nat.reduceBEq, Nat.reduceLeDiff, Nat.reduceLT, Nat.reduceMul, Nat.reduceSub, Int.reduceEq, Int.reduceLT, Int.reduceLE, Int.reduceNeg, hd32, hd16, fd16, hy16, hd8, hu, hg, hn, hz, hz0, hw1, hw2, lenS_size, Int.toNat_natCast, wn1, wn2, wn3, wn4, wn5, wn6]
        try rfl
    · have hd16 : decide ((65536 : Int) ≤ (x : Int)) = false := decide_eq_false (by omega)
      by_cases h8 : 256 ≤ x
      · have hd8 : decide ((256 : Int) ≤ (x : Int)) = true := decide_eq_true (by omega)
        have hl8 := lenN_div (x := x) (k := 8) (by omega)
        obtain ⟨y8, hy8⟩ : ∃ z, x / 2 ^ 8 = z := ⟨_, rfl⟩
        rw [hy8] at hl8
        have hb8 : y8 < 256 := by omega
        have hu := u8N (x := y8) (by omega)
        have hg := lenS_at (x := y8) (by omega)
        have hn : (UInt8.ofNat (lenN y8)).toNat = lenN y8 := by have := (lenN_le (x := y8) (w := 8)).2 (by omega); exact ofNat_toNat (by omega)
        have hn2 : lenN y8 ≤ 8 := (lenN_le (x := y8) (w := 8)).2 (by omega)
        have hz : decide ((y8 : Int) < 256) = true := decide_eq_true (by omega)
        have hz0 : decide ((0 : Int) ≤ (y8 : Int)) = true := decide_eq_true (by omega)
        have hw1 : w64 ((lenN y8 : Nat) : Int) = (lenN y8 : Nat) := w64_id (by omega) (by omega)
        have hw2 : w64 (8 + ((lenN y8 : Nat) : Int)) = (lenN x : Nat) := by rw [w64_id (by omega) (by omega)]; omega
        simp only [go_sem, Int.cast_ofNat_Int, Int.reduceToNat, Bool.true_xor, Bool.false_xor, Bool.xor_true, Bool.xor_false, Nat.reduceAdd, Nat.reduceBEq, Nat.reduceLeDiff, Nat.reduceLT, Nat.reduceMul, Nat.reduceSub, Int.reduceEq, Int.reduceLT, Int.reduceLE, Int.reduceNeg, hd32, hd16, hd8, fd8, hy8, hu, hg, hn, hz, hz0, hw1, hw2, lenS_size, Int.toNat_natCast, wn1, wn2, wn3, wn4, wn5, wn6]
        try rfl
      · have hd8 : decide ((256 : Int) ≤ (x : Int)) = false := decide_eq_false (by omega)
        have hu := u8N (x := x) (by omega)
        have hg := lenS_at (x := x) (by omega)
        have hn : (UInt8.ofNat (lenN x)).toNat = lenN x := by have := (lenN_le (x := x) (w := 8)).2 (by omega); exact ofNat_toNat (by omega)
        have hn2 : lenN x ≤ 8 := (lenN_le (x := x) (w := 8)).2 (by omega)
        have hz : decide ((x : Int) < 256) = true := decide_eq_true (by omega)
        have hz0 : decide ((0 : Int) ≤ (x : Int)) = true := decide_eq_true (by omega)
        have hw1 : w64 ((lenN x : Nat) : Int) = (lenN x : Nat) := w64_id (by omega) (by omega)
        have hw2 : w64 (0 + ((lenN x : Nat) : Int)) = (lenN x : Nat) := by rw [w64_id (by omega) (by omega)]; omega
        simp only [go_sem, Int.cast_ofNat_Int, Int.reduceToNat, Bool.true_xor, Bool.false_xor, Bool.xor_true, Bool.xor_false, Nat.reduceAdd, Nat.reduceBEq, Nat.reduceLeDiff, Nat.reduceLT, Nat.reduceMul, Nat.reduceSub, Int.reduceEq, Int.reduceLT, Int.reduceLE, Int.reduceNeg, hd32, hd16, hd8, hu, hg, hn, hz, hz0, hw1, hw2, lenS_size, Int.toNat_natCast, wn1, wn2, wn3, wn4, wn5, wn6]
        try rfl
end Go.Sh
namespace Go.Sh
set_option linter.unusedSectionVars false
set_option linter.unnecessarySimpa false
set_option linter.unusedVariables false
set_option linter.unusedSimpArgs false
set_option maxRecDepth 100000
set_option maxHeartbeats 4000000
abbrev wH (b0 : SBlk) (bs : List Bool) (tl : List SBlk) (es : List (Nat × Nat)) : Heap := ⟨b0 :: wB bs :: wA bs :: tl, es, 0⟩
/-- What a store into the writer's box leaves behind. -/
abbrev ek (bs : List Bool) (w : Nat) : List (Nat × Nat) := List.replicate (nb (bs.length + w) - nb bs.length) (1, 3)
theorem s97 (n : Nat) (H : Heap) (x : Nat) (h : x < 2 ^ 64) : call1 T (n + 2) (.fn 97) [.int .u64 x] H = some (.int .i64 (lenN x), H) := by
  refine call_pure e97 (by rfl) ?_
  simp only [c97, heap0, go_sem, Int.cast_ofNat_Int, Int.reduceToNat, Bool.true_xor, Bool.false_xor, Bool.xor_true, Bool.xor_false, Nat.reduceAdd, Nat.reduceBEq, Nat.reduceLeDiff, Nat.reduceLT, Nat.reduceMul, Nat.reduceSub, Int.reduceEq, Int.reduceLT, Int.reduceLE, Int.reduceNeg, s106 _ _ _ h]
theorem s101 (n : Nat) (H : Heap) (x : Int) : call1 T (n + 1) (.fn 101) [.int .i64 x] H = some (.bool (decide (1 ≤ x) && decide (x ≤ 4095)), H) := by
  refine call_pure e101 (by rfl) ?_
  simp only [c101, heap0, go_sem, Int.cast_ofNat_Int, Int.reduceToNat, Bool.true_xor, Bool.false_xor, Bool.xor_true, Bool.xor_false, Nat.reduceAdd, Nat.reduceBEq, Nat.reduceLeDiff, Nat.reduceLT, Nat.reduceMul, Nat.reduceSub, Int.reduceEq, Int.reduceLT, Int.reduceLE, Int.reduceNeg]
  repeat' (with_reducible refine fork_split (fun _ => ?_) (fun _ => ?_) <;> simp only [*, go_sem, Int.cast_ofNat_Int, Int.reduceToNat, Bool.true_xor, Bool.false_xor, Bool.xor_true, Bool.xor_false, Nat.reduceAdd, Nat.reduceBEq, Nat.reduceLeDiff, Nat.reduceLT, Nat.reduceMul, Nat.reduceSub, Int.reduceEq, Int.reduceLT, Int.reduceLE, Int.reduceNeg])
theorem s102 (n : Nat) (H : Heap) : call1 T (n + 3) (.fn 102) [.int .i64 127] H = some (.int .i64 7, H) := by
  refine call_pure e102 (by rfl) ?_
  have h : ∀ H, call1 T (n + 2) (.fn 97) [.int .u64 127] H = some (.int .i64 7, H) := fun H => s97 n H 127 (by decide)
  have e : IntKind.u64.wrap 127 = 127 := by decide
  have e3 : max (1 : Int) 7 = 7 := by decide
  simp only [c102, heap0, go_sem, Int.cast_ofNat_Int, Int.reduceToNat, Bool.true_xor, Bool.false_xor, Bool.xor_true, Bool.xor_false, Nat.reduceAdd, Nat.reduceBEq, Nat.reduceLeDiff, Nat.reduceLT, Nat.reduceMul, Nat.reduceSub, Int.reduceEq, Int.reduceLT, Int.reduceLE, Int.reduceNeg, e, h, e3]
section
variable (b0 : SBlk) (tl : List SBlk) (es : List (Nat × Nat)) (bs : List Bool)
theorem s95 (n : Nat) (w v : Nat) (v' : Int) (hw : w ≤ 63) (hv : v < 2 ^ 64) (hv' : IntKind.u64.wrap v' = v) (hb : bs.length + w ≤ 524288) :
    call1 T (n + 2) (.fn 95) [.ptr 1 0 0 0, .bool true, .bool true, .int .i64 w, .int .i64 v'] (wH b0 bs tl es) = some (.tup [], wH b0 (bs ++ bits w v) tl (es ++ ek bs w)) := by
  refine call_in e95 (by rfl) ?_
  have h := fun es => s103 n b0 tl es bs w v hw hv (by omega)
  have hx : decide (((bs.length : Int)) + w > 524288) = false := decide_eq_false (by omega)
  have hx2 : decide ((524288 : Int) < (bs.length : Int) + w) = false := decide_eq_false (by omega)
  have hs : w64 ((bs.length : Int) + w) = bs.length + w := w64_id (by omega) (by omega)
  have l0 : decide (0 < tl.length + 1 + 1 + 1) = true := decide_eq_true (by omega)
  have l1 : decide (1 < tl.length + 1 + 1 + 1) = true := decide_eq_true (by omega)
  have l2 : decide (2 < tl.length + 1 + 1 + 1) = true := decide_eq_true (by omega)
  have l3' : decide (tl.length + 1 + 1 + 1 < 3) = false := decide_eq_false (by omega)
  have l3 : decide (3 ≤ tl.length + 1 + 1 + 1) = true := decide_eq_true (by omega)
  simp only [c95, go_sem, Int.cast_ofNat_Int, Int.reduceToNat, Bool.true_xor, Bool.false_xor, Bool.xor_true, Bool.xor_false, Nat.reduceAdd, Nat.reduceBEq, Nat.reduceLeDiff, Nat.reduceLT, Nat.reduceMul, Nat.reduceSub, Int.reduceEq, Int.reduceLT, Int.reduceLE, Int.reduceNeg, hs, hx, hx2, hv', h, l0, l1, l2, l3, l3', List.filter_replicate, List.all_replicate, ite_self, if_true]
theorem s87 (n : Nat) (f : Bool) (hb : bs.length + 1 ≤ 524288) :
    call1 T (n + 3) (.fn 87) [.ptr 1 0 0 0, .bool f] (wH b0 bs tl es) = some (.tup [], wH b0 (bs ++ bits 1 (bt f)) tl (es ++ ek bs 1)) := by
  refine call_in e87 (by rfl) ?_
  have h := fun es => s95 b0 tl es bs n 1 (bt f) (bt f) (by omega) (by have := bt_le f; omega) (by have := bt_le f; exact wrapU64 (by omega) (by omega)) hb
  have l1 : decide (1 < tl.length + 1 + 1 + 1) = true := decide_eq_true (by omega)
  have l3' : decide (tl.length + 1 + 1 + 1 < 3) = false := decide_eq_false (by omega)
  have l3 : decide (3 ≤ tl.length + 1 + 1 + 1) = true := decide_eq_true (by omega)
  cases f with
  | false =>
    have h : ∀ es, call1 T (n + 2) (.fn 95) [.ptr 1 0 0 0, .bool true, .bool true, .int .i64 1, .int .i64 0] (wH b0 bs tl es) = some (.tup [], wH b0 (bs ++ bits 1 0) tl (es ++ ek bs 1)) := h
    simp only [c87, bt, go_sem, Int.cast_ofNat_Int, Int.reduceToNat, Bool.true_xor, Bool.false_xor, Bool.xor_true, Bool.xor_false, Nat.reduceAdd, Nat.reduceBEq, Nat.reduceLeDiff, Nat.reduceLT, Nat.reduceMul, Nat.reduceSub, Int.reduceEq, Int.reduceLT, Int.reduceLE, Int.reduceNeg, h, l1, l3, l3', List.filter_replicate, List.all_replicate, ite_self, if_true]
  | true =>
    have h : ∀ es, call1 T (n + 2) (.fn 95) [.ptr 1 0 0 0, .bool true, .bool true, .int .i64 1, .int .i64 1] (wH b0 bs tl es) = some (.tup [], wH b0 (bs ++ bits 1 1) tl (es ++ ek bs 1)) := h
    simp only [c87, bt, go_sem, Int.cast_ofNat_Int, Int.reduceToNat, Bool.true_xor, Bool.false_xor, Bool.xor_true, Bool.xor_false, Nat.reduceAdd, Nat.reduceBEq, Nat.reduceLeDiff, Nat.reduceLT, Nat.reduceMul, Nat.reduceSub, Int.reduceEq, Int.reduceLT, Int.reduceLE, Int.reduceNeg, h, l1, l3, l3', List.filter_replicate, List.all_replicate, ite_self, if_true]
theorem s85 (n : Nat) (w v : Nat) (h1 : 1 ≤ w) (hw : w ≤ 62) (hv : v < 2 ^ w) (hb : bs.length + w ≤ 524288) :
    call1 T (n + 3) (.fn 85) [.ptr 1 0 0 0, .int .i64 w, .int .i64 v] (wH b0 bs tl es) = some (.tup [], wH b0 (bs ++ bits w v) tl (es ++ ek bs w)) := by
  refine call_in e85 (by rfl) ?_
  have h63 : 2 ^ w ≤ 2 ^ 62 := Nat.pow_le_pow_right (by decide) hw
  have hv' : IntKind.u64.wrap (v : Int) = v := wrapU64 (by omega) (by omega)
  have h := fun es => s95 b0 tl es bs n w v v (by omega) (by omega) hv' hb
  have h97 := fun H => s97 n H v (by omega)
  have hl := (lenN_le (x := v) (w := w)).2 hv
  have x1 : decide ((1 : Int) ≤ w) = true := decide_eq_true (by omega)
  have x2 : decide ((w : Int) ≤ 63) = true := decide_eq_true (by omega)
  have x3 : decide (((lenN v : Nat) : Int) ≤ w) = true := decide_eq_true (by omega)
  have l1 : decide (1 < tl.length + 1 + 1 + 1) = true := decide_eq_true (by omega)
  have l3' : decide (tl.length + 1 + 1 + 1 < 3) = false := decide_eq_false (by omega)
  have l3 : decide (3 ≤ tl.length + 1 + 1 + 1) = true := decide_eq_true (by omega)
  simp only [c85, go_sem, Int.cast_ofNat_Int, Int.reduceToNat, Bool.true_xor, Bool.false_xor, Bool.xor_true, Bool.xor_false, Nat.reduceAdd, Nat.reduceBEq, Nat.reduceLeDiff, Nat.reduceLT, Nat.reduceMul, Nat.reduceSub, Int.reduceEq, Int.reduceLT, Int.reduceLE, Int.reduceNeg, h, h97, hv', x1, x2, x3, l1, l3, l3', List.filter_replicate, List.all_replicate, ite_self, if_true]
end
end Go.Sh
namespace Go.Sh
set_option linter.unusedSectionVars false
set_option linter.unnecessarySimpa false
set_option linter.unusedVariables false
set_option linter.unusedSimpArgs false
set_option maxRecDepth 100000
set_option maxHeartbeats 4000000
def sgN (x : Int) : Nat := (x % 18446744073709551616).toNat
theorem sgN_lt (x : Int) : sgN x < 2 ^ 64 := by unfold sgN; omega
theorem sgN_wrap (x : Int) : IntKind.u64.wrap x = (sgN x : Nat) := by
  have e : IntKind.u64.wrap x = x % 18446744073709551616 := by simp [IntKind.wrap, IntKind.bits, IntKind.signed]
  unfold sgN; rw [e]; omega
theorem ek_add {bs bs' : List Bool} {a b : Nat} (h : bs'.length = bs.length + a) : ek bs a ++ ek bs' b = ek bs (a + b) := by
  unfold ek
  rw [List.replicate_append_replicate, h]
  congr 1
  unfold nb; omega
section
variable (b0 : SBlk) (tl : List SBlk) (es : List (Nat × Nat)) (bs : List Bool)
theorem s83 (n : Nat) (x : Int) (h0 : -32768 ≤ x) (h1 : x ≤ 32767) (hb : bs.length + 16 ≤ 524288) :
    call1 T (n + 3) (.fn 83) [.ptr 1 0 0 0, .int .i64 16, .int .i64 x] (wH b0 bs tl es) = some (.tup [], wH b0 (bs ++ bits 16 (sgN x)) tl (es ++ ek bs 16)) := by
  refine call_in e83 (by rfl) ?_
  have h : ∀ es, call1 T (n + 2) (.fn 95) [.ptr 1 0 0 0, .bool true, .bool true, .int .i64 16, .int .i64 x] (wH b0 bs tl es) = some (.tup [], wH b0 (bs ++ bits 16 (sgN x)) tl (es ++ ek bs 16)) := fun es => s95 b0 tl es bs n 16 (sgN x) x (by omega) (sgN_lt x) (sgN_wrap x) hb
  have x1 : decide (-32768 ≤ x) = true := decide_eq_true h0
  have x2 : decide (x ≤ 32767) = true := decide_eq_true h1
  have m1 : max (16 : Int) 1 = 16 := by decide
  have m2 : w64 (16 - 1) = 15 := by decide
  have m3 : w64 (-1 * 2 ^ min 15 64) = -32768 := by decide
  have m4 : w64 (1 * 2 ^ min 15 64) = 32768 := by decide
  have m5 : w64 (32768 - 1) = 32767 := by decide
  have l1 : decide (1 < tl.length + 1 + 1 + 1) = true := decide_eq_true (by omega)
  have l3' : decide (tl.length + 1 + 1 + 1 < 3) = false := decide_eq_false (by omega)
  have l3 : decide (3 ≤ tl.length + 1 + 1 + 1) = true := decide_eq_true (by omega)
  simp only [c83, go_sem, Int.cast_ofNat_Int, Int.reduceToNat, Bool.true_xor, Bool.false_xor, Bool.xor_true, Bool.xor_false, Nat.reduceAdd, Nat.reduceBEq, Nat.reduceLeDiff, Nat.reduceLT, Nat.reduceMul, Nat.reduceSub, Int.reduceEq, Int.reduceLT, Int.reduceLE, Int.reduceNeg, h, x1, x2, m1, m2, m3, m4, m5, l1, l3, l3', List.filter_replicate, List.all_replicate, ite_self, if_true]
/-- The bits of a text's first bytes. -/
def txB (x : ByteArray) : Nat → List Bool
  | 0 => []
  | i + 1 => txB x i ++ bits 8 ((x.data[i]?).getD 0).toNat
theorem txB_len (x : ByteArray) : ∀ i, (txB x i).length = 8 * i
  | 0 => rfl
  | i + 1 => by simp only [txB, List.length_append, txB_len x i, bits_len]; omega
theorem s93 (n : Nat) (x : ByteArray) (hx : x.size ≤ 127) (hb : bs.length ≤ 1000) :
    call1 T (n + 4) (.fn 93) [.ptr 1 0 0 0, .int .i64 127, .str x] (wH b0 bs tl es) = some (.tup [], wH b0 (bs ++ bits 7 x.size ++ txB x x.size) tl (es ++ ek bs (7 + 8 * x.size))) := by
  refine call_in e93 (by rfl) ?_
  have h101 := fun H => s101 (n + 2) H 127
  have h102 := fun H => s102 n H
  have x1 : decide ((127 : Int) < (x.size : Int)) = false := decide_eq_false (by omega)
  have w1 : w64 ((bs.length : Int) + 7) = (bs.length : Int) + 7 := w64_id (by omega) (by omega)
  have w2 : w64 (8 * (x.size : Int)) = 8 * (x.size : Int) := w64_id (by omega) (by omega)
  have w3 : w64 ((bs.length : Int) + 7 + 8 * (x.size : Int)) = (bs.length : Int) + 7 + 8 * (x.size : Int) := w64_id (by omega) (by omega)
  have x2 : decide ((524288 : Int) < (bs.length : Int) + 7 + 8 * (x.size : Int)) = false := decide_eq_false (by omega)
  have hu : IntKind.u64.wrap (x.size : Int) = (x.size : Nat) := wrapU64 (by omega) (by omega)
  have h103 : ∀ es, call1 T (n + 3) (.fn 103) [.ptr 1 0 0 0, .int .i64 7, .int .u64 x.size] (wH b0 bs tl es) = some (.tup [], wH b0 (bs ++ bits 7 x.size) tl (es ++ ek bs 7)) := fun es => s103 (n + 2) b0 tl es bs 7 x.size (by omega) (by omega) (by omega)
  have l0 : decide (0 < tl.length + 1 + 1 + 1) = true := decide_eq_true (by omega)
  have l1 : decide (1 < tl.length + 1 + 1 + 1) = true := decide_eq_true (by omega)
  have l2 : decide (2 < tl.length + 1 + 1 + 1) = true := decide_eq_true (by omega)
  have l3' : decide (tl.length + 1 + 1 + 1 < 3) = false := decide_eq_false (by omega)
  have l3 : decide (3 ≤ tl.length + 1 + 1 + 1) = true := decide_eq_true (by omega)
  have hN : decide (max 2 0 ≤ tl.length + 1 + 1 + 1) = true := decide_eq_true (by omega)
  simp only [c93, go_sem, Int.cast_ofNat_Int, Int.reduceToNat, Bool.true_xor, Bool.false_xor, Bool.xor_true, Bool.xor_false, Nat.reduceAdd, Nat.reduceBEq, Nat.reduceLeDiff, Nat.reduceLT, Nat.reduceMul, Nat.reduceSub, Int.reduceEq, Int.reduceLT, Int.reduceLE, Int.reduceNeg, h101, h102, x1, w1, w2, w3, x2, hu, h103, l0, l1, l2, l3, l3', List.filter_replicate, List.all_replicate, ite_self, if_true]
  have hP : (bs ++ bits 7 x.size).length = bs.length + 7 := by rw [List.length_append, bits_len]
  obtain ⟨P, hPd⟩ : ∃ P, bs ++ bits 7 x.size = P := ⟨_, rfl⟩
  rw [hPd] at hP ⊢
  rw [← ek_add (bs' := P) (by omega), ← List.append_assoc]
  have hx2 : x.size ≤ maxLen := Nat.le_trans hx (by decide)
  refine loop_rule (fun i => ([(0, .ptr 1 0 0 0), (2, .str x), (15, .int .i64 x.size), (16, .int .i64 i)], ⟨b0 :: wB (P ++ txB x i) :: wA (P ++ txB x i) :: tl, ek P (8 * i), 0⟩)) (fun _ => True) x.size ?_ trivial ?_
  · simp only [go_sem, Int.cast_ofNat_Int, Int.reduceToNat, Bool.true_xor, Bool.false_xor, Bool.xor_true, Bool.xor_false, Nat.reduceAdd, Nat.reduceBEq, Nat.reduceLeDiff, Nat.reduceLT, Nat.reduceMul, Nat.reduceSub, Int.reduceEq, Int.reduceLT, Int.reduceLE, Int.reduceNeg, hN, l0, l1, l2, l3, l3', txB, List.append_nil, Nat.mul_zero, Nat.add_zero, Nat.sub_self, List.replicate_zero]
    rw [show ek P 0 = [] by simp [ek]]
  · intro i hi _
    rcases Nat.lt_or_ge i x.size with hlt | hge
    · have hs := w64_suc hlt hx2
      have hd : x.data[i]? = some x.data[i] := Array.getElem?_eq_getElem (by exact hlt)
      have hv := UInt8.toNat_lt x.data[i]
      have hu8 : IntKind.u64.wrap ((x.data[i].toNat : Nat) : Int) = (x.data[i].toNat : Nat) := wrapU64 (by omega) (by omega)
      have h1 : ∀ es, call1 T (n + 3) (.fn 103) [.ptr 1 0 0 0, .int .i64 8, .int .u64 (x.data[i].toNat : Nat)] (wH b0 (P ++ txB x i) tl es) = some (.tup [], wH b0 (P ++ txB x i ++ bits 8 x.data[i].toNat) tl (es ++ ek (P ++ txB x i) 8)) :=
        fun es => s103 (n + 2) b0 tl es (P ++ txB x i) 8 x.data[i].toNat (by omega) (by omega) (by rw [List.length_append, txB_len]; omega)
      have hB : P ++ txB x i ++ bits 8 x.data[i].toNat = P ++ txB x (i + 1) := by simp only [txB, hd, Option.getD_some, List.append_assoc]
      have hE : ek P (8 * i) ++ ek (P ++ txB x i) 8 = ek P (8 * (i + 1)) := by rw [ek_add (by rw [List.length_append, txB_len])]; rfl
      rw [hB] at h1
      simp only [go_sem, Int.cast_ofNat_Int, Int.reduceToNat, Bool.true_xor, Bool.false_xor, Bool.xor_true, Bool.xor_false, Nat.reduceAdd, Nat.reduceBEq, Nat.reduceLeDiff, Nat.reduceLT, Nat.reduceMul, Nat.reduceSub, Int.reduceEq, Int.reduceLT, Int.reduceLE, Int.reduceNeg, hlt, hd, hu8, h1, hE, hs, hN, l0, l1, l2, l3, l3', List.filter_replicate, List.all_replicate, ite_self, if_true]
      refine ⟨by first | trivial | omega, by first | trivial | rfl, trivial⟩
    · obtain rfl : i = x.size := by omega
      have hd : decide (x.size < x.size) = false := decide_eq_false (by omega)
      simp only [go_sem, Int.cast_ofNat_Int, Int.reduceToNat, Bool.true_xor, Bool.false_xor, Bool.xor_true, Bool.xor_false, Nat.reduceAdd, Nat.reduceBEq, Nat.reduceLeDiff, Nat.reduceLT, Nat.reduceMul, Nat.reduceSub, Int.reduceEq, Int.reduceLT, Int.reduceLE, Int.reduceNeg, hd, hN, l0, l1, l2, l3, l3', List.filter_replicate, List.all_replicate, List.filter_append, List.all_append, ite_self, if_true, Bool.and_self, List.append_assoc]
end
end Go.Sh
namespace Go.Sh
set_option linter.unusedSectionVars false
set_option linter.unnecessarySimpa false
set_option linter.unusedVariables false
set_option linter.unusedSimpArgs false
set_option maxRecDepth 100000
set_option maxHeartbeats 4000000
/-- The pen that writes. -/
abbrev pW : SV := .agg [.ptr 1 0 0 0, .nilPtr]
section
variable (n : Nat) (cs : List SV) (t1 t2 t3 : SBlk) (es : List (Nat × Nat)) (bs : List Bool)
theorem s61a (w v j : Nat) (hj : cs[j]? = some (.int .i64 v)) (h1 : 1 ≤ w) (hw : w ≤ 62) (hv : v < 2 ^ w) (hb : bs.length + w ≤ 524288) :
    call1 T (n + 4) (.fn 61) [pW, .int .i64 w, .ptr 0 0 0 j] (wH (.box cs) bs [t1, t2] es) = some (.tup [], wH (.box cs) (bs ++ bits w v) [t1, t2] (es ++ ek bs w)) := by
  refine call_in e61 (by rfl) ?_
  have h := fun t es => s85 (.box cs) [t1, t2, t] es bs n w v h1 hw hv hb
  simp only [c61, go_sem, Int.cast_ofNat_Int, Int.reduceToNat, Bool.true_xor, Bool.false_xor, Bool.xor_true, Bool.xor_false, Nat.reduceAdd, Nat.reduceBEq, Nat.reduceLeDiff, Nat.reduceLT, Nat.reduceMul, Nat.reduceSub, Int.reduceEq, Int.reduceLT, Int.reduceLE, Int.reduceNeg, h, hj, List.length_cons, List.length_nil, List.filter_replicate, List.all_replicate, ite_self, if_true]
theorem s61b (w v j : Nat) (hj : cs[j]? = some (.int .i64 v)) (h1 : 1 ≤ w) (hw : w ≤ 62) (hv : v < 2 ^ w) (hb : bs.length + w ≤ 524288) :
    call1 T (n + 4) (.fn 61) [pW, .int .i64 w, .ptr 0 0 0 j] (wH (.box cs) bs [t1, t2, t3] es) = some (.tup [], wH (.box cs) (bs ++ bits w v) [t1, t2, t3] (es ++ ek bs w)) := by
  refine call_in e61 (by rfl) ?_
  have h := fun t es => s85 (.box cs) [t1, t2, t3, t] es bs n w v h1 hw hv hb
  simp only [c61, go_sem, Int.cast_ofNat_Int, Int.reduceToNat, Bool.true_xor, Bool.false_xor, Bool.xor_true, Bool.xor_false, Nat.reduceAdd, Nat.reduceBEq, Nat.reduceLeDiff, Nat.reduceLT, Nat.reduceMul, Nat.reduceSub, Int.reduceEq, Int.reduceLT, Int.reduceLE, Int.reduceNeg, h, hj, List.length_cons, List.length_nil, List.filter_replicate, List.all_replicate, List.filter_append, List.all_append, Bool.and_self, List.append_assoc, ite_self, if_true]
theorem s82 (x : ByteArray) (j : Nat) (hj : cs[j]? = some (.str x)) (hx : x.size ≤ 127) (hb : bs.length ≤ 1000) :
    call1 T (n + 5) (.fn 82) [pW, .ptr 0 0 0 j] (wH (.box cs) bs [t1, t2, t3] es) = some (.tup [], wH (.box cs) (bs ++ bits 7 x.size ++ txB x x.size) [t1, t2, t3] (es ++ ek bs (7 + 8 * x.size))) := by
  refine call_in e82 (by rfl) ?_
  have h := fun t es => s93 (.box cs) [t1, t2, t3, t] es bs n x hx hb
  simp only [c82, go_sem, Int.cast_ofNat_Int, Int.reduceToNat, Bool.true_xor, Bool.false_xor, Bool.xor_true, Bool.xor_false, Nat.reduceAdd, Nat.reduceBEq, Nat.reduceLeDiff, Nat.reduceLT, Nat.reduceMul, Nat.reduceSub, Int.reduceEq, Int.reduceLT, Int.reduceLE, Int.reduceNeg, h, hj, List.length_cons, List.length_nil, List.filter_replicate, List.all_replicate, List.filter_append, List.all_append, Bool.and_self, List.append_assoc, ite_self, if_true]
/-- The bits of a frame's target. -/
def tgBits (d : Int) : List Bool := bits 1 (bt (decide (0 ≤ d))) ++ bif decide (0 ≤ d) then bits 5 d.toNat else []
def tgLen (d : Int) : Nat := 1 + bif decide (0 ≤ d) then 5 else 0
theorem tgLen_eq (d : Int) : (tgBits d).length = tgLen d := by
  unfold tgBits tgLen; cases decide (0 ≤ d) <;> simp [bits_len]
section
variable (k s d q o c m e t u v : Int) (x : ByteArray)
theorem s62 (hd : d < 32) (hd0 : d < 0 → d = -1) (hb : bs.length ≤ 1000) :
    call1 T (n + 6) (.fn 62) [pW, .ptr 0 0 0 2] (wH (SBlk.box (fr k s d q o c m e t u v x)) bs [t1, t2] es) = some (.tup [], wH (SBlk.box (fr k s d q o c m e t u v x)) (bs ++ tgBits d) [t1, t2] (es ++ ek bs (tgLen d))) := by
  refine call_in e62 (by rfl) ?_
  have h87 := fun tt es f => s87 (SBlk.box (fr k s d q o c m e t u v x)) [t1, t2, tt] es bs (n + 2) f (by omega)
  cases hf : decide (0 ≤ d) with
  | false =>
    have h87 := fun tt es => h87 tt es false
    have hd1 : d = -1 := by simp only [decide_eq_false_iff_not] at hf; omega
    subst hd1
    simp only [c62, go_sem, Int.cast_ofNat_Int, Int.reduceToNat, Bool.true_xor, Bool.false_xor, Bool.xor_true, Bool.xor_false, Nat.reduceAdd, Nat.reduceBEq, Nat.reduceLeDiff, Nat.reduceLT, Nat.reduceMul, Nat.reduceSub, Int.reduceEq, Int.reduceLT, Int.reduceLE, Int.reduceNeg, h87, hf, tgBits, tgLen, List.length_cons, List.length_nil, List.filter_replicate, List.all_replicate, List.filter_append, List.all_append, Bool.and_self, List.append_assoc, ite_self, if_true]
  | true =>
    have h87 := fun tt es => h87 tt es true
    simp only [decide_eq_true_eq] at hf
    have h61 : ∀ tt es, call1 T (n + 5) (.fn 61) [pW, .int .i64 5, .ptr 0 0 0 2] (wH (SBlk.box (fr k s d q o c m e t u v x)) (bs ++ bits 1 (bt true)) [t1, t2, tt] es) = some (.tup [], wH (SBlk.box (fr k s d q o c m e t u v x)) (bs ++ bits 1 (bt true) ++ bits 5 d.toNat) [t1, t2, tt] (es ++ ek (bs ++ bits 1 (bt true)) 5)) :=
      fun t' es => s61b (n + 1) _ t1 t2 t' es (bs ++ bits 1 (bt true)) 5 d.toNat 2 (by rw [Int.toNat_of_nonneg hf]; rfl) (by omega) (by omega) (by omega) (by rw [List.length_append, bits_len]; omega)
    have hf2 : decide (0 ≤ d) = true := decide_eq_true hf
    have hk : ek bs 6 = ek bs 1 ++ ek (bs ++ bits 1 (bt true)) 5 := (ek_add (bs := bs) (bs' := bs ++ bits 1 (bt true)) (a := 1) (b := 5) (by rw [List.length_append, bits_len])).symm
    simp only [c62, go_sem, Int.cast_ofNat_Int, Int.reduceToNat, Bool.true_xor, Bool.false_xor, Bool.xor_true, Bool.xor_false, Nat.reduceAdd, Nat.reduceBEq, Nat.reduceLeDiff, Nat.reduceLT, Nat.reduceMul, Nat.reduceSub, Int.reduceEq, Int.reduceLT, Int.reduceLE, Int.reduceNeg, h87, h61, hf2, tgBits, tgLen, hk, List.length_cons, List.length_nil, List.filter_replicate, List.all_replicate, List.filter_append, List.all_append, Bool.and_self, List.append_assoc, ite_self, if_true]
theorem s57 (hc : 0 ≤ c ∧ c ≤ 255) (hm : 0 ≤ m ∧ m ≤ 65535) (hx : x.size ≤ 127) (hb : bs.length ≤ 900) :
    call1 T (n + 6) (.fn 57) [pW, .ptr 0 0 0 0] (wH (SBlk.box (fr k s d q o c m e t u v x)) bs [t1, t2] es) = some (.tup [], wH (SBlk.box (fr k s d q o c m e t u v x)) (bs ++ (bits 8 c.toNat ++ (bits 16 m.toNat ++ (bits 7 x.size ++ (txB x x.size))))) [t1, t2] (es ++ ek bs (24 + (7 + 8 * x.size)))) := by
  refine call_in e57 (by rfl) ?_
  have h0 : ∀ t' es, call1 T (n + 5) (.fn 61) [pW, .int .i64 8, .ptr 0 0 0 5] (wH (SBlk.box (fr k s d q o c m e t u v x)) bs [t1, t2, t'] es) = some (.tup [], wH (SBlk.box (fr k s d q o c m e t u v x)) (bs ++ (bits 8 c.toNat)) [t1, t2, t'] (es ++ ek bs 8)) := fun t' es => by
    have := s61b (n + 1) _ t1 t2 t' es bs 8 c.toNat 5 (show (fr k s d q o c m e t u v x)[5]? = _ by rw [Int.toNat_of_nonneg hc.1]; rfl) (by omega) (by omega) (by omega) (by omega)
    try simp only [List.append_assoc] at this
    exact this
  have l0 : (bs ++ (bits 8 c.toNat)).length = bs.length + 8 := by simp only [List.length_append, bits_len] <;> omega
  have h1 : ∀ t' es, call1 T (n + 5) (.fn 61) [pW, .int .i64 16, .ptr 0 0 0 6] (wH (SBlk.box (fr k s d q o c m e t u v x)) (bs ++ (bits 8 c.toNat)) [t1, t2, t'] es) = some (.tup [], wH (SBlk.box (fr k s d q o c m e t u v x)) (bs ++ (bits 8 c.toNat ++ (bits 16 m.toNat))) [t1, t2, t'] (es ++ ek (bs ++ (bits 8 c.toNat)) 16)) := fun t' es => by
    have := s61b (n + 1) _ t1 t2 t' es (bs ++ (bits 8 c.toNat)) 16 m.toNat 6 (show (fr k s d q o c m e t u v x)[6]? = _ by rw [Int.toNat_of_nonneg hm.1]; rfl) (by omega) (by omega) (by omega) (by rw [l0]; omega)
    try simp only [List.append_assoc] at this
    exact this
  have l1 : (bs ++ (bits 8 c.toNat ++ (bits 16 m.toNat))).length = bs.length + 24 := by simp only [List.length_append, bits_len] <;> omega
  have ht : ∀ t' es, call1 T (n + 5) (.fn 82) [pW, .ptr 0 0 0 11] (wH (SBlk.box (fr k s d q o c m e t u v x)) (bs ++ (bits 8 c.toNat ++ (bits 16 m.toNat))) [t1, t2, t'] es) = some (.tup [], wH (SBlk.box (fr k s d q o c m e t u v x)) (bs ++ (bits 8 c.toNat ++ (bits 16 m.toNat ++ (bits 7 x.size ++ (txB x x.size))))) [t1, t2, t'] (es ++ ek (bs ++ (bits 8 c.toNat ++ (bits 16 m.toNat))) (7 + 8 * x.size))) := fun t' es => by
    have := s82 n _ t1 t2 t' es (bs ++ (bits 8 c.toNat ++ (bits 16 m.toNat))) x 11 (show (fr k s d q o c m e t u v x)[11]? = some (.str x) from rfl) hx (by rw [l1]; omega)
    try simp only [List.append_assoc] at this
    exact this
  have hk : ek bs (24 + (7 + 8 * x.size)) = ek bs 8 ++ ek (bs ++ (bits 8 c.toNat)) 16 ++ ek (bs ++ (bits 8 c.toNat ++ (bits 16 m.toNat))) (7 + 8 * x.size) := by rw [ek_add l0, ek_add l1]
  simp only [List.append_assoc] at hk
  rw [hk]
  simp only [c57, go_sem, Int.cast_ofNat_Int, Int.reduceToNat, Bool.true_xor, Bool.false_xor, Bool.xor_true, Bool.xor_false, Nat.reduceAdd, Nat.reduceBEq, Nat.reduceLeDiff, Nat.reduceLT, Nat.reduceMul, Nat.reduceSub, Int.reduceEq, Int.reduceLT, Int.reduceLE, Int.reduceNeg, h0, h1, ht, List.length_cons, List.length_nil, List.filter_replicate, List.all_replicate, List.filter_append, List.all_append, Bool.and_self, List.append_assoc, ite_self, if_true]
theorem s59 (ht : 0 ≤ t ∧ t ≤ 109951162) (hu : 0 ≤ u ∧ u ≤ 65535) (hv : 0 ≤ v ∧ v ≤ 65535) (hx : x.size ≤ 127) (hb : bs.length ≤ 900) :
    call1 T (n + 6) (.fn 59) [pW, .ptr 0 0 0 0] (wH (SBlk.box (fr k s d q o c m e t u v x)) bs [t1, t2] es) = some (.tup [], wH (SBlk.box (fr k s d q o c m e t u v x)) (bs ++ (bits 27 t.toNat ++ (bits 16 u.toNat ++ (bits 16 v.toNat ++ (bits 7 x.size ++ (txB x x.size)))))) [t1, t2] (es ++ ek bs (59 + (7 + 8 * x.size)))) := by
  refine call_in e59 (by rfl) ?_
  have h0 : ∀ t' es, call1 T (n + 5) (.fn 61) [pW, .int .i64 27, .ptr 0 0 0 8] (wH (SBlk.box (fr k s d q o c m e t u v x)) bs [t1, t2, t'] es) = some (.tup [], wH (SBlk.box (fr k s d q o c m e t u v x)) (bs ++ (bits 27 t.toNat)) [t1, t2, t'] (es ++ ek bs 27)) := fun t' es => by
    have := s61b (n + 1) _ t1 t2 t' es bs 27 t.toNat 8 (show (fr k s d q o c m e t u v x)[8]? = _ by rw [Int.toNat_of_nonneg ht.1]; rfl) (by omega) (by omega) (by omega) (by omega)
    try simp only [List.append_assoc] at this
    exact this
  have l0 : (bs ++ (bits 27 t.toNat)).length = bs.length + 27 := by simp only [List.length_append, bits_len] <;> omega
  have h1 : ∀ t' es, call1 T (n + 5) (.fn 61) [pW, .int .i64 16, .ptr 0 0 0 9] (wH (SBlk.box (fr k s d q o c m e t u v x)) (bs ++ (bits 27 t.toNat)) [t1, t2, t'] es) = some (.tup [], wH (SBlk.box (fr k s d q o c m e t u v x)) (bs ++ (bits 27 t.toNat ++ (bits 16 u.toNat))) [t1, t2, t'] (es ++ ek (bs ++ (bits 27 t.toNat)) 16)) := fun t' es => by
    have := s61b (n + 1) _ t1 t2 t' es (bs ++ (bits 27 t.toNat)) 16 u.toNat 9 (show (fr k s d q o c m e t u v x)[9]? = _ by rw [Int.toNat_of_nonneg hu.1]; rfl) (by omega) (by omega) (by omega) (by rw [l0]; omega)
    try simp only [List.append_assoc] at this
    exact this
  have l1 : (bs ++ (bits 27 t.toNat ++ (bits 16 u.toNat))).length = bs.length + 43 := by simp only [List.length_append, bits_len] <;> omega
  have h2 : ∀ t' es, call1 T (n + 5) (.fn 61) [pW, .int .i64 16, .ptr 0 0 0 10] (wH (SBlk.box (fr k s d q o c m e t u v x)) (bs ++ (bits 27 t.toNat ++ (bits 16 u.toNat))) [t1, t2, t'] es) = some (.tup [], wH (SBlk.box (fr k s d q o c m e t u v x)) (bs ++ (bits 27 t.toNat ++ (bits 16 u.toNat ++ (bits 16 v.toNat)))) [t1, t2, t'] (es ++ ek (bs ++ (bits 27 t.toNat ++ (bits 16 u.toNat))) 16)) := fun t' es => by
    have := s61b (n + 1) _ t1 t2 t' es (bs ++ (bits 27 t.toNat ++ (bits 16 u.toNat))) 16 v.toNat 10 (show (fr k s d q o c m e t u v x)[10]? = _ by rw [Int.toNat_of_nonneg hv.1]; rfl) (by omega) (by omega) (by omega) (by rw [l1]; omega)
    try simp only [List.append_assoc] at this
    exact this
  have l2 : (bs ++ (bits 27 t.toNat ++ (bits 16 u.toNat ++ (bits 16 v.toNat)))).length = bs.length + 59 := by simp only [List.length_append, bits_len] <;> omega
  have hT : ∀ t' es, call1 T (n + 5) (.fn 82) [pW, .ptr 0 0 0 11] (wH (SBlk.box (fr k s d q o c m e t u v x)) (bs ++ (bits 27 t.toNat ++ (bits 16 u.toNat ++ (bits 16 v.toNat)))) [t1, t2, t'] es) = some (.tup [], wH (SBlk.box (fr k s d q o c m e t u v x)) (bs ++ (bits 27 t.toNat ++ (bits 16 u.toNat ++ (bits 16 v.toNat ++ (bits 7 x.size ++ (txB x x.size)))))) [t1, t2, t'] (es ++ ek (bs ++ (bits 27 t.toNat ++ (bits 16 u.toNat ++ (bits 16 v.toNat)))) (7 + 8 * x.size))) := fun t' es => by
    have := s82 n _ t1 t2 t' es (bs ++ (bits 27 t.toNat ++ (bits 16 u.toNat ++ (bits 16 v.toNat)))) x 11 (show (fr k s d q o c m e t u v x)[11]? = some (.str x) from rfl) hx (by rw [l2]; omega)
    try simp only [List.append_assoc] at this
    exact this
  have hk : ek bs (59 + (7 + 8 * x.size)) = ek bs 27 ++ ek (bs ++ (bits 27 t.toNat)) 16 ++ ek (bs ++ (bits 27 t.toNat ++ (bits 16 u.toNat))) 16 ++ ek (bs ++ (bits 27 t.toNat ++ (bits 16 u.toNat ++ (bits 16 v.toNat)))) (7 + 8 * x.size) := by rw [ek_add l0, ek_add l1, ek_add l2]
  simp only [List.append_assoc] at hk
  rw [hk]
  simp only [c59, go_sem, Int.cast_ofNat_Int, Int.reduceToNat, Bool.true_xor, Bool.false_xor, Bool.xor_true, Bool.xor_false, Nat.reduceAdd, Nat.reduceBEq, Nat.reduceLeDiff, Nat.reduceLT, Nat.reduceMul, Nat.reduceSub, Int.reduceEq, Int.reduceLT, Int.reduceLE, Int.reduceNeg, h0, h1, h2, hT, List.length_cons, List.length_nil, List.filter_replicate, List.all_replicate, List.filter_append, List.all_append, Bool.and_self, List.append_assoc, ite_self, if_true]
theorem s60 (hx : x.size ≤ 127) (hb : bs.length ≤ 900) :
    call1 T (n + 6) (.fn 60) [pW, .ptr 0 0 0 0] (wH (SBlk.box (fr k s d q o c m e t u v x)) bs [t1, t2] es) = some (.tup [], wH (SBlk.box (fr k s d q o c m e t u v x)) (bs ++ (bits 7 x.size ++ (txB x x.size))) [t1, t2] (es ++ ek bs (7 + 8 * x.size))) := by
  refine call_in e60 (by rfl) ?_
  have ht : ∀ t' es, call1 T (n + 5) (.fn 82) [pW, .ptr 0 0 0 11] (wH (SBlk.box (fr k s d q o c m e t u v x)) bs [t1, t2, t'] es) = some (.tup [], wH (SBlk.box (fr k s d q o c m e t u v x)) (bs ++ (bits 7 x.size ++ (txB x x.size))) [t1, t2, t'] (es ++ ek bs (7 + 8 * x.size))) := fun t' es => by
    have := s82 n _ t1 t2 t' es bs x 11 (show (fr k s d q o c m e t u v x)[11]? = some (.str x) from rfl) hx (by omega)
    try simp only [List.append_assoc] at this
    exact this
  simp only [c60, go_sem, Int.cast_ofNat_Int, Int.reduceToNat, Bool.true_xor, Bool.false_xor, Bool.xor_true, Bool.xor_false, Nat.reduceAdd, Nat.reduceBEq, Nat.reduceLeDiff, Nat.reduceLT, Nat.reduceMul, Nat.reduceSub, Int.reduceEq, Int.reduceLT, Int.reduceLE, Int.reduceNeg, ht, List.length_cons, List.length_nil, List.filter_replicate, List.all_replicate, List.filter_append, List.all_append, Bool.and_self, List.append_assoc, ite_self, if_true]
theorem s58 (h0 : -32768 ≤ e) (h1 : e ≤ 32767) (hb : bs.length ≤ 900) :
    call1 T (n + 4) (.fn 58) [pW, .ptr 0 0 0 0] (wH (SBlk.box (fr k s d q o c m e t u v x)) bs [t1, t2] es) = some (.tup [], wH (SBlk.box (fr k s d q o c m e t u v x)) (bs ++ bits 16 (sgN e)) [t1, t2] (es ++ ek bs 16)) := by
  refine call_in e58 (by rfl) ?_
  have h := fun t' es => s83 (SBlk.box (fr k s d q o c m e t u v x)) [t1, t2, t'] es bs n e h0 h1 (by omega)
  simp only [c58, go_sem, Int.cast_ofNat_Int, Int.reduceToNat, Bool.true_xor, Bool.false_xor, Bool.xor_true, Bool.xor_false, Nat.reduceAdd, Nat.reduceBEq, Nat.reduceLeDiff, Nat.reduceLT, Nat.reduceMul, Nat.reduceSub, Int.reduceEq, Int.reduceLT, Int.reduceLE, Int.reduceNeg, h, List.length_cons, List.length_nil, List.filter_replicate, List.all_replicate, List.filter_append, List.all_append, Bool.and_self, List.append_assoc, ite_self, if_true]
end
end
end Go.Sh
namespace Go.Sh
set_option linter.unusedSectionVars false
set_option linter.unnecessarySimpa false
set_option linter.unusedVariables false
set_option linter.unusedSimpArgs false
set_option maxRecDepth 100000
set_option maxHeartbeats 4000000
theorem tgLe (d : Int) : tgLen d ≤ 6 := by unfold tgLen; cases decide (0 ≤ d) <;> simp
section
variable (n : Nat) (es : List (Nat × Nat)) (bs : List Bool)
theorem s27_1 (s d q o c m e t u v : Int) (x : ByteArray) (hs : 0 ≤ s ∧ s ≤ 31) (hd : d < 32) (hd0 : d < 0 → d = -1) (hq : 0 ≤ q ∧ q ≤ 255) (ho : 0 ≤ o ∧ o ≤ 255) (hc : 0 ≤ c ∧ c ≤ 255) (hm : 0 ≤ m ∧ m ≤ 65535) (hx : x.size ≤ 127) (hb : bs.length ≤ 100) :
    call1 T (n + 7) (.fn 27) [pW, .ptr 0 0 0 0] (wH (.box (fr 1 s d q o c m e t u v x)) bs [] es) = some (.bool true, wH (.box (fr 1 s d q o c m e t u v x)) (bs ++ (bits 3 1 ++ (bits 5 s.toNat ++ (tgBits d ++ (bits 8 q.toNat ++ (bits 8 o.toNat ++ (bits 8 c.toNat ++ (bits 16 m.toNat ++ (bits 7 x.size ++ (txB x x.size)))))))))) [] (es ++ ek bs ((24 + tgLen d) + (24 + (7 + 8 * x.size))))) := by
  refine call_in e27 (by rfl) ?_
  have h0 : ∀ t1 t2 es, call1 T (n + 6) (.fn 61) [pW, .int .i64 3, .ptr 0 0 0 0] (wH (.box (fr 1 s d q o c m e t u v x)) bs [t1, t2] es) = some (.tup [], wH (.box (fr 1 s d q o c m e t u v x)) (bs ++ (bits 3 1)) [t1, t2] (es ++ ek bs 3)) := fun t1 t2 es => by
    have := s61a (n + 2) (fr 1 s d q o c m e t u v x) t1 t2 es bs 3 1 0 rfl (by omega) (by omega) (by omega) (by omega)
    try simp only [List.append_assoc] at this
    exact this
  have l0 : (bs ++ (bits 3 1)).length = bs.length + (3) := by simp only [List.length_append, bits_len, tgLen_eq] <;> omega
  have h1 : ∀ t1 t2 es, call1 T (n + 6) (.fn 61) [pW, .int .i64 5, .ptr 0 0 0 1] (wH (.box (fr 1 s d q o c m e t u v x)) (bs ++ (bits 3 1)) [t1, t2] es) = some (.tup [], wH (.box (fr 1 s d q o c m e t u v x)) (bs ++ (bits 3 1 ++ (bits 5 s.toNat))) [t1, t2] (es ++ ek (bs ++ (bits 3 1)) 5)) := fun t1 t2 es => by
    have := s61a (n + 2) (fr 1 s d q o c m e t u v x) t1 t2 es (bs ++ (bits 3 1)) 5 s.toNat 1 (show (fr 1 s d q o c m e t u v x)[1]? = _ by rw [Int.toNat_of_nonneg hs.1]; rfl) (by omega) (by omega) (by omega) (by have := tgLe d; rw [l0]; omega)
    try simp only [List.append_assoc] at this
    exact this
  have l1 : (bs ++ (bits 3 1 ++ (bits 5 s.toNat))).length = bs.length + (8) := by simp only [List.length_append, bits_len, tgLen_eq] <;> omega
  have h2 : ∀ t1 t2 es, call1 T (n + 6) (.fn 62) [pW, .ptr 0 0 0 2] (wH (.box (fr 1 s d q o c m e t u v x)) (bs ++ (bits 3 1 ++ (bits 5 s.toNat))) [t1, t2] es) = some (.tup [], wH (.box (fr 1 s d q o c m e t u v x)) (bs ++ (bits 3 1 ++ (bits 5 s.toNat ++ (tgBits d)))) [t1, t2] (es ++ ek (bs ++ (bits 3 1 ++ (bits 5 s.toNat))) (tgLen d))) := fun t1 t2 es => by
    have := s62 n t1 t2 es (bs ++ (bits 3 1 ++ (bits 5 s.toNat))) 1 s d q o c m e t u v x hd hd0 (by rw [l1]; omega)
    try simp only [List.append_assoc] at this
    exact this
  have l2 : (bs ++ (bits 3 1 ++ (bits 5 s.toNat ++ (tgBits d)))).length = bs.length + (8 + tgLen d) := by simp only [List.length_append, bits_len, tgLen_eq] <;> omega
  have h3 : ∀ t1 t2 es, call1 T (n + 6) (.fn 61) [pW, .int .i64 8, .ptr 0 0 0 3] (wH (.box (fr 1 s d q o c m e t u v x)) (bs ++ (bits 3 1 ++ (bits 5 s.toNat ++ (tgBits d)))) [t1, t2] es) = some (.tup [], wH (.box (fr 1 s d q o c m e t u v x)) (bs ++ (bits 3 1 ++ (bits 5 s.toNat ++ (tgBits d ++ (bits 8 q.toNat))))) [t1, t2] (es ++ ek (bs ++ (bits 3 1 ++ (bits 5 s.toNat ++ (tgBits d)))) 8)) := fun t1 t2 es => by
    have := s61a (n + 2) (fr 1 s d q o c m e t u v x) t1 t2 es (bs ++ (bits 3 1 ++ (bits 5 s.toNat ++ (tgBits d)))) 8 q.toNat 3 (show (fr 1 s d q o c m e t u v x)[3]? = _ by rw [Int.toNat_of_nonneg hq.1]; rfl) (by omega) (by omega) (by omega) (by have := tgLe d; rw [l2]; omega)
    try simp only [List.append_assoc] at this
    exact this
  have l3 : (bs ++ (bits 3 1 ++ (bits 5 s.toNat ++ (tgBits d ++ (bits 8 q.toNat))))).length = bs.length + (16 + tgLen d) := by simp only [List.length_append, bits_len, tgLen_eq] <;> omega
  have h4 : ∀ t1 t2 es, call1 T (n + 6) (.fn 61) [pW, .int .i64 8, .ptr 0 0 0 4] (wH (.box (fr 1 s d q o c m e t u v x)) (bs ++ (bits 3 1 ++ (bits 5 s.toNat ++ (tgBits d ++ (bits 8 q.toNat))))) [t1, t2] es) = some (.tup [], wH (.box (fr 1 s d q o c m e t u v x)) (bs ++ (bits 3 1 ++ (bits 5 s.toNat ++ (tgBits d ++ (bits 8 q.toNat ++ (bits 8 o.toNat)))))) [t1, t2] (es ++ ek (bs ++ (bits 3 1 ++ (bits 5 s.toNat ++ (tgBits d ++ (bits 8 q.toNat))))) 8)) := fun t1 t2 es => by
    have := s61a (n + 2) (fr 1 s d q o c m e t u v x) t1 t2 es (bs ++ (bits 3 1 ++ (bits 5 s.toNat ++ (tgBits d ++ (bits 8 q.toNat))))) 8 o.toNat 4 (show (fr 1 s d q o c m e t u v x)[4]? = _ by rw [Int.toNat_of_nonneg ho.1]; rfl) (by omega) (by omega) (by omega) (by have := tgLe d; rw [l3]; omega)
    try simp only [List.append_assoc] at this
    exact this
  have l4 : (bs ++ (bits 3 1 ++ (bits 5 s.toNat ++ (tgBits d ++ (bits 8 q.toNat ++ (bits 8 o.toNat)))))).length = bs.length + (24 + tgLen d) := by simp only [List.length_append, bits_len, tgLen_eq] <;> omega
  have hb1 : ∀ t1 t2 es, call1 T (n + 6) (.fn 57) [pW, .ptr 0 0 0 0] (wH (.box (fr 1 s d q o c m e t u v x)) (bs ++ (bits 3 1 ++ (bits 5 s.toNat ++ (tgBits d ++ (bits 8 q.toNat ++ (bits 8 o.toNat)))))) [t1, t2] es) = some (.tup [], wH (.box (fr 1 s d q o c m e t u v x)) (bs ++ (bits 3 1 ++ (bits 5 s.toNat ++ (tgBits d ++ (bits 8 q.toNat ++ (bits 8 o.toNat ++ (bits 8 c.toNat ++ (bits 16 m.toNat ++ (bits 7 x.size ++ (txB x x.size)))))))))) [t1, t2] (es ++ ek (bs ++ (bits 3 1 ++ (bits 5 s.toNat ++ (tgBits d ++ (bits 8 q.toNat ++ (bits 8 o.toNat)))))) (24 + (7 + 8 * x.size)))) := fun t1 t2 es => by
    have := s57 n t1 t2 es (bs ++ (bits 3 1 ++ (bits 5 s.toNat ++ (tgBits d ++ (bits 8 q.toNat ++ (bits 8 o.toNat)))))) 1 s d q o c m e t u v x hc hm hx (by have := tgLe d; rw [l4]; omega)
    try simp only [List.append_assoc] at this
    exact this
  have hk : ek bs ((24 + tgLen d) + (24 + (7 + 8 * x.size))) = ek bs 3 ++ ek (bs ++ (bits 3 1)) 5 ++ ek (bs ++ (bits 3 1 ++ (bits 5 s.toNat))) (tgLen d) ++ ek (bs ++ (bits 3 1 ++ (bits 5 s.toNat ++ (tgBits d)))) 8 ++ ek (bs ++ (bits 3 1 ++ (bits 5 s.toNat ++ (tgBits d ++ (bits 8 q.toNat))))) 8 ++ ek (bs ++ (bits 3 1 ++ (bits 5 s.toNat ++ (tgBits d ++ (bits 8 q.toNat ++ (bits 8 o.toNat)))))) (24 + (7 + 8 * x.size)) := by
    rw [ek_add (bs := bs) (a := 3) l0, ek_add (a := 3 + 5) (by rw [l1]), ek_add (a := 3 + 5 + tgLen d) (by rw [l2]), ek_add (a := 3 + 5 + tgLen d + 8) (by rw [l3]; omega), ek_add (a := 3 + 5 + tgLen d + 8 + 8) (by rw [l4]; omega)]
    congr 1; omega
  simp only [List.append_assoc] at hk
  rw [hk]
  simp only [c27, go_sem, Int.cast_ofNat_Int, Int.reduceToNat, Bool.true_xor, Bool.false_xor, Bool.xor_true, Bool.xor_false, Nat.reduceAdd, Nat.reduceBEq, Nat.reduceLeDiff, Nat.reduceLT, Nat.reduceMul, Nat.reduceSub, Int.reduceEq, Int.reduceLT, Int.reduceLE, Int.reduceNeg, h0, h1, h2, h3, h4, hb1, List.length_cons, List.length_nil, List.filter_replicate, List.all_replicate, List.filter_append, List.all_append, Bool.and_self, List.append_assoc, ite_self, if_true]
theorem s27_2 (s d q o c m e t u v : Int) (x : ByteArray) (hs : 0 ≤ s ∧ s ≤ 31) (hd : d < 32) (hd0 : d < 0 → d = -1) (hq : 0 ≤ q ∧ q ≤ 255) (ho : 0 ≤ o ∧ o ≤ 255) (he : -32768 ≤ e ∧ e ≤ 32767) (hb : bs.length ≤ 100) :
    call1 T (n + 7) (.fn 27) [pW, .ptr 0 0 0 0] (wH (.box (fr 2 s d q o c m e t u v x)) bs [] es) = some (.bool true, wH (.box (fr 2 s d q o c m e t u v x)) (bs ++ (bits 3 2 ++ (bits 5 s.toNat ++ (tgBits d ++ (bits 8 q.toNat ++ (bits 8 o.toNat ++ (bits 16 (sgN e)))))))) [] (es ++ ek bs ((24 + tgLen d) + (16)))) := by
  refine call_in e27 (by rfl) ?_
  have h0 : ∀ t1 t2 es, call1 T (n + 6) (.fn 61) [pW, .int .i64 3, .ptr 0 0 0 0] (wH (.box (fr 2 s d q o c m e t u v x)) bs [t1, t2] es) = some (.tup [], wH (.box (fr 2 s d q o c m e t u v x)) (bs ++ (bits 3 2)) [t1, t2] (es ++ ek bs 3)) := fun t1 t2 es => by
    have := s61a (n + 2) (fr 2 s d q o c m e t u v x) t1 t2 es bs 3 2 0 rfl (by omega) (by omega) (by omega) (by omega)
    try simp only [List.append_assoc] at this
    exact this
  have l0 : (bs ++ (bits 3 2)).length = bs.length + (3) := by simp only [List.length_append, bits_len, tgLen_eq] <;> omega
  have h1 : ∀ t1 t2 es, call1 T (n + 6) (.fn 61) [pW, .int .i64 5, .ptr 0 0 0 1] (wH (.box (fr 2 s d q o c m e t u v x)) (bs ++ (bits 3 2)) [t1, t2] es) = some (.tup [], wH (.box (fr 2 s d q o c m e t u v x)) (bs ++ (bits 3 2 ++ (bits 5 s.toNat))) [t1, t2] (es ++ ek (bs ++ (bits 3 2)) 5)) := fun t1 t2 es => by
    have := s61a (n + 2) (fr 2 s d q o c m e t u v x) t1 t2 es (bs ++ (bits 3 2)) 5 s.toNat 1 (show (fr 2 s d q o c m e t u v x)[1]? = _ by rw [Int.toNat_of_nonneg hs.1]; rfl) (by omega) (by omega) (by omega) (by have := tgLe d; rw [l0]; omega)
    try simp only [List.append_assoc] at this
    exact this
  have l1 : (bs ++ (bits 3 2 ++ (bits 5 s.toNat))).length = bs.length + (8) := by simp only [List.length_append, bits_len, tgLen_eq] <;> omega
  have h2 : ∀ t1 t2 es, call1 T (n + 6) (.fn 62) [pW, .ptr 0 0 0 2] (wH (.box (fr 2 s d q o c m e t u v x)) (bs ++ (bits 3 2 ++ (bits 5 s.toNat))) [t1, t2] es) = some (.tup [], wH (.box (fr 2 s d q o c m e t u v x)) (bs ++ (bits 3 2 ++ (bits 5 s.toNat ++ (tgBits d)))) [t1, t2] (es ++ ek (bs ++ (bits 3 2 ++ (bits 5 s.toNat))) (tgLen d))) := fun t1 t2 es => by
    have := s62 n t1 t2 es (bs ++ (bits 3 2 ++ (bits 5 s.toNat))) 2 s d q o c m e t u v x hd hd0 (by rw [l1]; omega)
    try simp only [List.append_assoc] at this
    exact this
  have l2 : (bs ++ (bits 3 2 ++ (bits 5 s.toNat ++ (tgBits d)))).length = bs.length + (8 + tgLen d) := by simp only [List.length_append, bits_len, tgLen_eq] <;> omega
  have h3 : ∀ t1 t2 es, call1 T (n + 6) (.fn 61) [pW, .int .i64 8, .ptr 0 0 0 3] (wH (.box (fr 2 s d q o c m e t u v x)) (bs ++ (bits 3 2 ++ (bits 5 s.toNat ++ (tgBits d)))) [t1, t2] es) = some (.tup [], wH (.box (fr 2 s d q o c m e t u v x)) (bs ++ (bits 3 2 ++ (bits 5 s.toNat ++ (tgBits d ++ (bits 8 q.toNat))))) [t1, t2] (es ++ ek (bs ++ (bits 3 2 ++ (bits 5 s.toNat ++ (tgBits d)))) 8)) := fun t1 t2 es => by
    have := s61a (n + 2) (fr 2 s d q o c m e t u v x) t1 t2 es (bs ++ (bits 3 2 ++ (bits 5 s.toNat ++ (tgBits d)))) 8 q.toNat 3 (show (fr 2 s d q o c m e t u v x)[3]? = _ by rw [Int.toNat_of_nonneg hq.1]; rfl) (by omega) (by omega) (by omega) (by have := tgLe d; rw [l2]; omega)
    try simp only [List.append_assoc] at this
    exact this
  have l3 : (bs ++ (bits 3 2 ++ (bits 5 s.toNat ++ (tgBits d ++ (bits 8 q.toNat))))).length = bs.length + (16 + tgLen d) := by simp only [List.length_append, bits_len, tgLen_eq] <;> omega
  have h4 : ∀ t1 t2 es, call1 T (n + 6) (.fn 61) [pW, .int .i64 8, .ptr 0 0 0 4] (wH (.box (fr 2 s d q o c m e t u v x)) (bs ++ (bits 3 2 ++ (bits 5 s.toNat ++ (tgBits d ++ (bits 8 q.toNat))))) [t1, t2] es) = some (.tup [], wH (.box (fr 2 s d q o c m e t u v x)) (bs ++ (bits 3 2 ++ (bits 5 s.toNat ++ (tgBits d ++ (bits 8 q.toNat ++ (bits 8 o.toNat)))))) [t1, t2] (es ++ ek (bs ++ (bits 3 2 ++ (bits 5 s.toNat ++ (tgBits d ++ (bits 8 q.toNat))))) 8)) := fun t1 t2 es => by
    have := s61a (n + 2) (fr 2 s d q o c m e t u v x) t1 t2 es (bs ++ (bits 3 2 ++ (bits 5 s.toNat ++ (tgBits d ++ (bits 8 q.toNat))))) 8 o.toNat 4 (show (fr 2 s d q o c m e t u v x)[4]? = _ by rw [Int.toNat_of_nonneg ho.1]; rfl) (by omega) (by omega) (by omega) (by have := tgLe d; rw [l3]; omega)
    try simp only [List.append_assoc] at this
    exact this
  have l4 : (bs ++ (bits 3 2 ++ (bits 5 s.toNat ++ (tgBits d ++ (bits 8 q.toNat ++ (bits 8 o.toNat)))))).length = bs.length + (24 + tgLen d) := by simp only [List.length_append, bits_len, tgLen_eq] <;> omega
  have hb1 : ∀ t1 t2 es, call1 T (n + 6) (.fn 58) [pW, .ptr 0 0 0 0] (wH (.box (fr 2 s d q o c m e t u v x)) (bs ++ (bits 3 2 ++ (bits 5 s.toNat ++ (tgBits d ++ (bits 8 q.toNat ++ (bits 8 o.toNat)))))) [t1, t2] es) = some (.tup [], wH (.box (fr 2 s d q o c m e t u v x)) (bs ++ (bits 3 2 ++ (bits 5 s.toNat ++ (tgBits d ++ (bits 8 q.toNat ++ (bits 8 o.toNat ++ (bits 16 (sgN e)))))))) [t1, t2] (es ++ ek (bs ++ (bits 3 2 ++ (bits 5 s.toNat ++ (tgBits d ++ (bits 8 q.toNat ++ (bits 8 o.toNat)))))) (16))) := fun t1 t2 es => by
    have := s58 (n + 2) t1 t2 es (bs ++ (bits 3 2 ++ (bits 5 s.toNat ++ (tgBits d ++ (bits 8 q.toNat ++ (bits 8 o.toNat)))))) 2 s d q o c m e t u v x he.1 he.2 (by have := tgLe d; rw [l4]; omega)
    try simp only [List.append_assoc] at this
    exact this
  have hk : ek bs ((24 + tgLen d) + (16)) = ek bs 3 ++ ek (bs ++ (bits 3 2)) 5 ++ ek (bs ++ (bits 3 2 ++ (bits 5 s.toNat))) (tgLen d) ++ ek (bs ++ (bits 3 2 ++ (bits 5 s.toNat ++ (tgBits d)))) 8 ++ ek (bs ++ (bits 3 2 ++ (bits 5 s.toNat ++ (tgBits d ++ (bits 8 q.toNat))))) 8 ++ ek (bs ++ (bits 3 2 ++ (bits 5 s.toNat ++ (tgBits d ++ (bits 8 q.toNat ++ (bits 8 o.toNat)))))) (16) := by
    rw [ek_add (bs := bs) (a := 3) l0, ek_add (a := 3 + 5) (by rw [l1]), ek_add (a := 3 + 5 + tgLen d) (by rw [l2]), ek_add (a := 3 + 5 + tgLen d + 8) (by rw [l3]; omega), ek_add (a := 3 + 5 + tgLen d + 8 + 8) (by rw [l4]; omega)]
    congr 1; omega
  simp only [List.append_assoc] at hk
  rw [hk]
  simp only [c27, go_sem, Int.cast_ofNat_Int, Int.reduceToNat, Bool.true_xor, Bool.false_xor, Bool.xor_true, Bool.xor_false, Nat.reduceAdd, Nat.reduceBEq, Nat.reduceLeDiff, Nat.reduceLT, Nat.reduceMul, Nat.reduceSub, Int.reduceEq, Int.reduceLT, Int.reduceLE, Int.reduceNeg, h0, h1, h2, h3, h4, hb1, List.length_cons, List.length_nil, List.filter_replicate, List.all_replicate, List.filter_append, List.all_append, Bool.and_self, List.append_assoc, ite_self, if_true]
theorem s27_3 (s d q o c m e t u v : Int) (x : ByteArray) (hs : 0 ≤ s ∧ s ≤ 31) (hd : d < 32) (hd0 : d < 0 → d = -1) (hq : 0 ≤ q ∧ q ≤ 255) (ho : 0 ≤ o ∧ o ≤ 255) (ht : 0 ≤ t ∧ t ≤ 109951162) (hu : 0 ≤ u ∧ u ≤ 65535) (hv : 0 ≤ v ∧ v ≤ 65535) (hx : x.size ≤ 127) (hb : bs.length ≤ 100) :
    call1 T (n + 7) (.fn 27) [pW, .ptr 0 0 0 0] (wH (.box (fr 3 s d q o c m e t u v x)) bs [] es) = some (.bool true, wH (.box (fr 3 s d q o c m e t u v x)) (bs ++ (bits 3 3 ++ (bits 5 s.toNat ++ (tgBits d ++ (bits 8 q.toNat ++ (bits 8 o.toNat ++ (bits 27 t.toNat ++ (bits 16 u.toNat ++ (bits 16 v.toNat ++ (bits 7 x.size ++ (txB x x.size))))))))))) [] (es ++ ek bs ((24 + tgLen d) + (59 + (7 + 8 * x.size))))) := by
  refine call_in e27 (by rfl) ?_
  have h0 : ∀ t1 t2 es, call1 T (n + 6) (.fn 61) [pW, .int .i64 3, .ptr 0 0 0 0] (wH (.box (fr 3 s d q o c m e t u v x)) bs [t1, t2] es) = some (.tup [], wH (.box (fr 3 s d q o c m e t u v x)) (bs ++ (bits 3 3)) [t1, t2] (es ++ ek bs 3)) := fun t1 t2 es => by
    have := s61a (n + 2) (fr 3 s d q o c m e t u v x) t1 t2 es bs 3 3 0 rfl (by omega) (by omega) (by omega) (by omega)
    try simp only [List.append_assoc] at this
    exact this
  have l0 : (bs ++ (bits 3 3)).length = bs.length + (3) := by simp only [List.length_append, bits_len, tgLen_eq] <;> omega
  have h1 : ∀ t1 t2 es, call1 T (n + 6) (.fn 61) [pW, .int .i64 5, .ptr 0 0 0 1] (wH (.box (fr 3 s d q o c m e t u v x)) (bs ++ (bits 3 3)) [t1, t2] es) = some (.tup [], wH (.box (fr 3 s d q o c m e t u v x)) (bs ++ (bits 3 3 ++ (bits 5 s.toNat))) [t1, t2] (es ++ ek (bs ++ (bits 3 3)) 5)) := fun t1 t2 es => by
    have := s61a (n + 2) (fr 3 s d q o c m e t u v x) t1 t2 es (bs ++ (bits 3 3)) 5 s.toNat 1 (show (fr 3 s d q o c m e t u v x)[1]? = _ by rw [Int.toNat_of_nonneg hs.1]; rfl) (by omega) (by omega) (by omega) (by have := tgLe d; rw [l0]; omega)
    try simp only [List.append_assoc] at this
    exact this
  have l1 : (bs ++ (bits 3 3 ++ (bits 5 s.toNat))).length = bs.length + (8) := by simp only [List.length_append, bits_len, tgLen_eq] <;> omega
  have h2 : ∀ t1 t2 es, call1 T (n + 6) (.fn 62) [pW, .ptr 0 0 0 2] (wH (.box (fr 3 s d q o c m e t u v x)) (bs ++ (bits 3 3 ++ (bits 5 s.toNat))) [t1, t2] es) = some (.tup [], wH (.box (fr 3 s d q o c m e t u v x)) (bs ++ (bits 3 3 ++ (bits 5 s.toNat ++ (tgBits d)))) [t1, t2] (es ++ ek (bs ++ (bits 3 3 ++ (bits 5 s.toNat))) (tgLen d))) := fun t1 t2 es => by
    have := s62 n t1 t2 es (bs ++ (bits 3 3 ++ (bits 5 s.toNat))) 3 s d q o c m e t u v x hd hd0 (by rw [l1]; omega)
    try simp only [List.append_assoc] at this
    exact this
  have l2 : (bs ++ (bits 3 3 ++ (bits 5 s.toNat ++ (tgBits d)))).length = bs.length + (8 + tgLen d) := by simp only [List.length_append, bits_len, tgLen_eq] <;> omega
  have h3 : ∀ t1 t2 es, call1 T (n + 6) (.fn 61) [pW, .int .i64 8, .ptr 0 0 0 3] (wH (.box (fr 3 s d q o c m e t u v x)) (bs ++ (bits 3 3 ++ (bits 5 s.toNat ++ (tgBits d)))) [t1, t2] es) = some (.tup [], wH (.box (fr 3 s d q o c m e t u v x)) (bs ++ (bits 3 3 ++ (bits 5 s.toNat ++ (tgBits d ++ (bits 8 q.toNat))))) [t1, t2] (es ++ ek (bs ++ (bits 3 3 ++ (bits 5 s.toNat ++ (tgBits d)))) 8)) := fun t1 t2 es => by
    have := s61a (n + 2) (fr 3 s d q o c m e t u v x) t1 t2 es (bs ++ (bits 3 3 ++ (bits 5 s.toNat ++ (tgBits d)))) 8 q.toNat 3 (show (fr 3 s d q o c m e t u v x)[3]? = _ by rw [Int.toNat_of_nonneg hq.1]; rfl) (by omega) (by omega) (by omega) (by have := tgLe d; rw [l2]; omega)
    try simp only [List.append_assoc] at this
    exact this
  have l3 : (bs ++ (bits 3 3 ++ (bits 5 s.toNat ++ (tgBits d ++ (bits 8 q.toNat))))).length = bs.length + (16 + tgLen d) := by simp only [List.length_append, bits_len, tgLen_eq] <;> omega
  have h4 : ∀ t1 t2 es, call1 T (n + 6) (.fn 61) [pW, .int .i64 8, .ptr 0 0 0 4] (wH (.box (fr 3 s d q o c m e t u v x)) (bs ++ (bits 3 3 ++ (bits 5 s.toNat ++ (tgBits d ++ (bits 8 q.toNat))))) [t1, t2] es) = some (.tup [], wH (.box (fr 3 s d q o c m e t u v x)) (bs ++ (bits 3 3 ++ (bits 5 s.toNat ++ (tgBits d ++ (bits 8 q.toNat ++ (bits 8 o.toNat)))))) [t1, t2] (es ++ ek (bs ++ (bits 3 3 ++ (bits 5 s.toNat ++ (tgBits d ++ (bits 8 q.toNat))))) 8)) := fun t1 t2 es => by
    have := s61a (n + 2) (fr 3 s d q o c m e t u v x) t1 t2 es (bs ++ (bits 3 3 ++ (bits 5 s.toNat ++ (tgBits d ++ (bits 8 q.toNat))))) 8 o.toNat 4 (show (fr 3 s d q o c m e t u v x)[4]? = _ by rw [Int.toNat_of_nonneg ho.1]; rfl) (by omega) (by omega) (by omega) (by have := tgLe d; rw [l3]; omega)
    try simp only [List.append_assoc] at this
    exact this
  have l4 : (bs ++ (bits 3 3 ++ (bits 5 s.toNat ++ (tgBits d ++ (bits 8 q.toNat ++ (bits 8 o.toNat)))))).length = bs.length + (24 + tgLen d) := by simp only [List.length_append, bits_len, tgLen_eq] <;> omega
  have hb1 : ∀ t1 t2 es, call1 T (n + 6) (.fn 59) [pW, .ptr 0 0 0 0] (wH (.box (fr 3 s d q o c m e t u v x)) (bs ++ (bits 3 3 ++ (bits 5 s.toNat ++ (tgBits d ++ (bits 8 q.toNat ++ (bits 8 o.toNat)))))) [t1, t2] es) = some (.tup [], wH (.box (fr 3 s d q o c m e t u v x)) (bs ++ (bits 3 3 ++ (bits 5 s.toNat ++ (tgBits d ++ (bits 8 q.toNat ++ (bits 8 o.toNat ++ (bits 27 t.toNat ++ (bits 16 u.toNat ++ (bits 16 v.toNat ++ (bits 7 x.size ++ (txB x x.size))))))))))) [t1, t2] (es ++ ek (bs ++ (bits 3 3 ++ (bits 5 s.toNat ++ (tgBits d ++ (bits 8 q.toNat ++ (bits 8 o.toNat)))))) (59 + (7 + 8 * x.size)))) := fun t1 t2 es => by
    have := s59 n t1 t2 es (bs ++ (bits 3 3 ++ (bits 5 s.toNat ++ (tgBits d ++ (bits 8 q.toNat ++ (bits 8 o.toNat)))))) 3 s d q o c m e t u v x ht hu hv hx (by have := tgLe d; rw [l4]; omega)
    try simp only [List.append_assoc] at this
    exact this
  have hk : ek bs ((24 + tgLen d) + (59 + (7 + 8 * x.size))) = ek bs 3 ++ ek (bs ++ (bits 3 3)) 5 ++ ek (bs ++ (bits 3 3 ++ (bits 5 s.toNat))) (tgLen d) ++ ek (bs ++ (bits 3 3 ++ (bits 5 s.toNat ++ (tgBits d)))) 8 ++ ek (bs ++ (bits 3 3 ++ (bits 5 s.toNat ++ (tgBits d ++ (bits 8 q.toNat))))) 8 ++ ek (bs ++ (bits 3 3 ++ (bits 5 s.toNat ++ (tgBits d ++ (bits 8 q.toNat ++ (bits 8 o.toNat)))))) (59 + (7 + 8 * x.size)) := by
    rw [ek_add (bs := bs) (a := 3) l0, ek_add (a := 3 + 5) (by rw [l1]), ek_add (a := 3 + 5 + tgLen d) (by rw [l2]), ek_add (a := 3 + 5 + tgLen d + 8) (by rw [l3]; omega), ek_add (a := 3 + 5 + tgLen d + 8 + 8) (by rw [l4]; omega)]
    congr 1; omega
  simp only [List.append_assoc] at hk
  rw [hk]
  simp only [c27, go_sem, Int.cast_ofNat_Int, Int.reduceToNat, Bool.true_xor, Bool.false_xor, Bool.xor_true, Bool.xor_false, Nat.reduceAdd, Nat.reduceBEq, Nat.reduceLeDiff, Nat.reduceLT, Nat.reduceMul, Nat.reduceSub, Int.reduceEq, Int.reduceLT, Int.reduceLE, Int.reduceNeg, h0, h1, h2, h3, h4, hb1, List.length_cons, List.length_nil, List.filter_replicate, List.all_replicate, List.filter_append, List.all_append, Bool.and_self, List.append_assoc, ite_self, if_true]
theorem s27_4 (s d q o c m e t u v : Int) (x : ByteArray) (hs : 0 ≤ s ∧ s ≤ 31) (hd : d < 32) (hd0 : d < 0 → d = -1) (hq : 0 ≤ q ∧ q ≤ 255) (ho : 0 ≤ o ∧ o ≤ 255) (hx : x.size ≤ 127) (hb : bs.length ≤ 100) :
    call1 T (n + 7) (.fn 27) [pW, .ptr 0 0 0 0] (wH (.box (fr 4 s d q o c m e t u v x)) bs [] es) = some (.bool true, wH (.box (fr 4 s d q o c m e t u v x)) (bs ++ (bits 3 4 ++ (bits 5 s.toNat ++ (tgBits d ++ (bits 8 q.toNat ++ (bits 8 o.toNat ++ (bits 7 x.size ++ (txB x x.size)))))))) [] (es ++ ek bs ((24 + tgLen d) + (7 + 8 * x.size)))) := by
  refine call_in e27 (by rfl) ?_
  have h0 : ∀ t1 t2 es, call1 T (n + 6) (.fn 61) [pW, .int .i64 3, .ptr 0 0 0 0] (wH (.box (fr 4 s d q o c m e t u v x)) bs [t1, t2] es) = some (.tup [], wH (.box (fr 4 s d q o c m e t u v x)) (bs ++ (bits 3 4)) [t1, t2] (es ++ ek bs 3)) := fun t1 t2 es => by
    have := s61a (n + 2) (fr 4 s d q o c m e t u v x) t1 t2 es bs 3 4 0 rfl (by omega) (by omega) (by omega) (by omega)
    try simp only [List.append_assoc] at this
    exact this
  have l0 : (bs ++ (bits 3 4)).length = bs.length + (3) := by simp only [List.length_append, bits_len, tgLen_eq] <;> omega
  have h1 : ∀ t1 t2 es, call1 T (n + 6) (.fn 61) [pW, .int .i64 5, .ptr 0 0 0 1] (wH (.box (fr 4 s d q o c m e t u v x)) (bs ++ (bits 3 4)) [t1, t2] es) = some (.tup [], wH (.box (fr 4 s d q o c m e t u v x)) (bs ++ (bits 3 4 ++ (bits 5 s.toNat))) [t1, t2] (es ++ ek (bs ++ (bits 3 4)) 5)) := fun t1 t2 es => by
    have := s61a (n + 2) (fr 4 s d q o c m e t u v x) t1 t2 es (bs ++ (bits 3 4)) 5 s.toNat 1 (show (fr 4 s d q o c m e t u v x)[1]? = _ by rw [Int.toNat_of_nonneg hs.1]; rfl) (by omega) (by omega) (by omega) (by have := tgLe d; rw [l0]; omega)
    try simp only [List.append_assoc] at this
    exact this
  have l1 : (bs ++ (bits 3 4 ++ (bits 5 s.toNat))).length = bs.length + (8) := by simp only [List.length_append, bits_len, tgLen_eq] <;> omega
  have h2 : ∀ t1 t2 es, call1 T (n + 6) (.fn 62) [pW, .ptr 0 0 0 2] (wH (.box (fr 4 s d q o c m e t u v x)) (bs ++ (bits 3 4 ++ (bits 5 s.toNat))) [t1, t2] es) = some (.tup [], wH (.box (fr 4 s d q o c m e t u v x)) (bs ++ (bits 3 4 ++ (bits 5 s.toNat ++ (tgBits d)))) [t1, t2] (es ++ ek (bs ++ (bits 3 4 ++ (bits 5 s.toNat))) (tgLen d))) := fun t1 t2 es => by
    have := s62 n t1 t2 es (bs ++ (bits 3 4 ++ (bits 5 s.toNat))) 4 s d q o c m e t u v x hd hd0 (by rw [l1]; omega)
    try simp only [List.append_assoc] at this
    exact this
  have l2 : (bs ++ (bits 3 4 ++ (bits 5 s.toNat ++ (tgBits d)))).length = bs.length + (8 + tgLen d) := by simp only [List.length_append, bits_len, tgLen_eq] <;> omega
  have h3 : ∀ t1 t2 es, call1 T (n + 6) (.fn 61) [pW, .int .i64 8, .ptr 0 0 0 3] (wH (.box (fr 4 s d q o c m e t u v x)) (bs ++ (bits 3 4 ++ (bits 5 s.toNat ++ (tgBits d)))) [t1, t2] es) = some (.tup [], wH (.box (fr 4 s d q o c m e t u v x)) (bs ++ (bits 3 4 ++ (bits 5 s.toNat ++ (tgBits d ++ (bits 8 q.toNat))))) [t1, t2] (es ++ ek (bs ++ (bits 3 4 ++ (bits 5 s.toNat ++ (tgBits d)))) 8)) := fun t1 t2 es => by
    have := s61a (n + 2) (fr 4 s d q o c m e t u v x) t1 t2 es (bs ++ (bits 3 4 ++ (bits 5 s.toNat ++ (tgBits d)))) 8 q.toNat 3 (show (fr 4 s d q o c m e t u v x)[3]? = _ by rw [Int.toNat_of_nonneg hq.1]; rfl) (by omega) (by omega) (by omega) (by have := tgLe d; rw [l2]; omega)
    try simp only [List.append_assoc] at this
    exact this
  have l3 : (bs ++ (bits 3 4 ++ (bits 5 s.toNat ++ (tgBits d ++ (bits 8 q.toNat))))).length = bs.length + (16 + tgLen d) := by simp only [List.length_append, bits_len, tgLen_eq] <;> omega
  have h4 : ∀ t1 t2 es, call1 T (n + 6) (.fn 61) [pW, .int .i64 8, .ptr 0 0 0 4] (wH (.box (fr 4 s d q o c m e t u v x)) (bs ++ (bits 3 4 ++ (bits 5 s.toNat ++ (tgBits d ++ (bits 8 q.toNat))))) [t1, t2] es) = some (.tup [], wH (.box (fr 4 s d q o c m e t u v x)) (bs ++ (bits 3 4 ++ (bits 5 s.toNat ++ (tgBits d ++ (bits 8 q.toNat ++ (bits 8 o.toNat)))))) [t1, t2] (es ++ ek (bs ++ (bits 3 4 ++ (bits 5 s.toNat ++ (tgBits d ++ (bits 8 q.toNat))))) 8)) := fun t1 t2 es => by
    have := s61a (n + 2) (fr 4 s d q o c m e t u v x) t1 t2 es (bs ++ (bits 3 4 ++ (bits 5 s.toNat ++ (tgBits d ++ (bits 8 q.toNat))))) 8 o.toNat 4 (show (fr 4 s d q o c m e t u v x)[4]? = _ by rw [Int.toNat_of_nonneg ho.1]; rfl) (by omega) (by omega) (by omega) (by have := tgLe d; rw [l3]; omega)
    try simp only [List.append_assoc] at this
    exact this
  have l4 : (bs ++ (bits 3 4 ++ (bits 5 s.toNat ++ (tgBits d ++ (bits 8 q.toNat ++ (bits 8 o.toNat)))))).length = bs.length + (24 + tgLen d) := by simp only [List.length_append, bits_len, tgLen_eq] <;> omega
  have hb1 : ∀ t1 t2 es, call1 T (n + 6) (.fn 60) [pW, .ptr 0 0 0 0] (wH (.box (fr 4 s d q o c m e t u v x)) (bs ++ (bits 3 4 ++ (bits 5 s.toNat ++ (tgBits d ++ (bits 8 q.toNat ++ (bits 8 o.toNat)))))) [t1, t2] es) = some (.tup [], wH (.box (fr 4 s d q o c m e t u v x)) (bs ++ (bits 3 4 ++ (bits 5 s.toNat ++ (tgBits d ++ (bits 8 q.toNat ++ (bits 8 o.toNat ++ (bits 7 x.size ++ (txB x x.size)))))))) [t1, t2] (es ++ ek (bs ++ (bits 3 4 ++ (bits 5 s.toNat ++ (tgBits d ++ (bits 8 q.toNat ++ (bits 8 o.toNat)))))) (7 + 8 * x.size))) := fun t1 t2 es => by
    have := s60 n t1 t2 es (bs ++ (bits 3 4 ++ (bits 5 s.toNat ++ (tgBits d ++ (bits 8 q.toNat ++ (bits 8 o.toNat)))))) 4 s d q o c m e t u v x hx (by have := tgLe d; rw [l4]; omega)
    try simp only [List.append_assoc] at this
    exact this
  have hk : ek bs ((24 + tgLen d) + (7 + 8 * x.size)) = ek bs 3 ++ ek (bs ++ (bits 3 4)) 5 ++ ek (bs ++ (bits 3 4 ++ (bits 5 s.toNat))) (tgLen d) ++ ek (bs ++ (bits 3 4 ++ (bits 5 s.toNat ++ (tgBits d)))) 8 ++ ek (bs ++ (bits 3 4 ++ (bits 5 s.toNat ++ (tgBits d ++ (bits 8 q.toNat))))) 8 ++ ek (bs ++ (bits 3 4 ++ (bits 5 s.toNat ++ (tgBits d ++ (bits 8 q.toNat ++ (bits 8 o.toNat)))))) (7 + 8 * x.size) := by
    rw [ek_add (bs := bs) (a := 3) l0, ek_add (a := 3 + 5) (by rw [l1]), ek_add (a := 3 + 5 + tgLen d) (by rw [l2]), ek_add (a := 3 + 5 + tgLen d + 8) (by rw [l3]; omega), ek_add (a := 3 + 5 + tgLen d + 8 + 8) (by rw [l4]; omega)]
    congr 1; omega
  simp only [List.append_assoc] at hk
  rw [hk]
  simp only [c27, go_sem, Int.cast_ofNat_Int, Int.reduceToNat, Bool.true_xor, Bool.false_xor, Bool.xor_true, Bool.xor_false, Nat.reduceAdd, Nat.reduceBEq, Nat.reduceLeDiff, Nat.reduceLT, Nat.reduceMul, Nat.reduceSub, Int.reduceEq, Int.reduceLT, Int.reduceLE, Int.reduceNeg, h0, h1, h2, h3, h4, hb1, List.length_cons, List.length_nil, List.filter_replicate, List.all_replicate, List.filter_append, List.all_append, Bool.and_self, List.append_assoc, ite_self, if_true]
end
end Go.Sh
namespace Go.Sh
set_option linter.unusedSectionVars false
set_option linter.unnecessarySimpa false
set_option linter.unusedVariables false
set_option linter.unusedSimpArgs false
set_option maxRecDepth 100000
set_option maxHeartbeats 4000000
/-! The remainder of a text. -/
abbrev W16 := BitVec 16
def poly : W16 := 0x1021#16
def tm (c : W16) : W16 := (c <<< 1) ^^^ (bif c.msb then poly else 0#16)
theorem tm_xor (a b : W16) : tm (a ^^^ b) = tm a ^^^ tm b := by
  unfold tm
  rw [BitVec.shiftLeft_xor_distrib, BitVec.msb_xor]
  cases a.msb <;> cases b.msb <;> simp only [Bool.xor_false, Bool.xor_true, Bool.false_xor, Bool.true_xor, cond_true, cond_false, Bool.not_true, Bool.not_false, BitVec.xor_zero]
  · ac_rfl
  · ac_rfl
  · rw [show a <<< 1 ^^^ poly ^^^ (b <<< 1 ^^^ poly) = a <<< 1 ^^^ b <<< 1 ^^^ (poly ^^^ poly) by ac_rfl, BitVec.xor_self, BitVec.xor_zero]
def t4 (c : W16) : W16 := tm (tm (tm (tm c)))
theorem t4_xor (a b : W16) : t4 (a ^^^ b) = t4 a ^^^ t4 b := by simp only [t4, tm_xor]
theorem tm_low {c : W16} (h : c.msb = false) : tm c = c <<< 1 := by unfold tm; rw [h]; simp
def tbl : List W16 := [0x0000#16, 0x1021#16, 0x2042#16, 0x3063#16, 0x4084#16, 0x50a5#16, 0x60c6#16, 0x70e7#16, 0x8108#16, 0x9129#16, 0xa14a#16, 0xb16b#16, 0xc18c#16, 0xd1ad#16, 0xe1ce#16, 0xf1ef#16]
theorem t4_high : ∀ h : Fin 16, tbl[(h : Nat)]? = some (t4 ((BitVec.ofNat 16 h) <<< 12)) := by decide
theorem t4_low (c : W16) : t4 ((c <<< 4) >>> 4) = c <<< 4 := by
  have m : ∀ (i : Nat), i < 4 → (((c <<< 4) >>> 4) <<< i).msb = false := by
    intro i hi
    rw [BitVec.msb_eq_getLsbD_last]
    simp [BitVec.getLsbD_shiftLeft, BitVec.getLsbD_ushiftRight]
    omega
  have e : ∀ i : Nat, (((c <<< 4) >>> 4) <<< i) <<< 1 = ((c <<< 4) >>> 4) <<< (i + 1) := fun i => (BitVec.shiftLeft_add _ _ _).symm
  have h0 := m 0 (by omega)
  rw [BitVec.shiftLeft_zero] at h0
  unfold t4
  rw [tm_low h0, tm_low (m 1 (by omega)), e 1, tm_low (m 2 (by omega)), e 2, tm_low (m 3 (by omega)), e 3]
  apply BitVec.eq_of_getLsbD_eq
  intro i hi
  simp [BitVec.getLsbD_shiftLeft, BitVec.getLsbD_ushiftRight]
  by_cases h : i < 4
  · simp [h]
  · simp [h, hi, show 4 + (i - 4) = i by omega]
theorem split12 (c : W16) : c = ((c >>> 12) <<< 12) ^^^ ((c <<< 4) >>> 4) := by
  apply BitVec.eq_of_getLsbD_eq
  intro i hi
  simp [BitVec.getLsbD_shiftLeft, BitVec.getLsbD_ushiftRight]
  by_cases h : i < 12
  · simp [h, show 4 + i - 4 = i by omega, show 4 + i < 16 by omega]
  · simp [h, show ¬ 4 + i < 16 by omega, show 12 + (i - 12) = i by omega]
    exact fun _ => hi
/-- Four bits at once, by a table. -/
theorem t4_tbl (c : W16) : tbl[(c >>> 12).toNat]? = some (t4 c ^^^ (c <<< 4)) := by
  have hlt : (c >>> 12).toNat < 16 := by
    rw [BitVec.toNat_ushiftRight, Nat.shiftRight_eq_div_pow]
    have := c.isLt
    omega
  have h := t4_high ⟨(c >>> 12).toNat, hlt⟩
  rw [show tbl[(c >>> 12).toNat]? = _ from h]
  congr 1
  have e : BitVec.ofNat 16 (c >>> 12).toNat = c >>> 12 := by rw [BitVec.ofNat_toNat]; exact BitVec.setWidth_eq _
  show t4 (BitVec.ofNat 16 (c >>> 12).toNat <<< 12) = _
  rw [e]
  have h2 : t4 c = t4 ((c >>> 12) <<< 12) ^^^ (c <<< 4) := by
    rw [← t4_low c, ← t4_xor, ← split12]
  rw [h2, BitVec.xor_assoc, BitVec.xor_self, BitVec.xor_zero]
end Go.Sh
namespace Go.Sh
set_option linter.unusedSectionVars false
set_option linter.unnecessarySimpa false
set_option linter.unusedVariables false
set_option linter.unusedSimpArgs false
set_option maxRecDepth 100000
set_option maxHeartbeats 4000000
def tblS : List SV := tbl.map fun w => .int .u16 w.toNat
@[go_sem] theorem tblS_len : tblS.length = 16 := by rfl
theorem tblS_get (i : Nat) : tblS[i]? = (tbl[i]?).map fun w => .int .u16 w.toNat := by simp [tblS]
theorem s92 (n : Nat) (H : Heap) : call1 T (n + 3) (.fn 92) [] H = some (.agg tblS, H) := pure_any e92 (by rfl) (callB_up (T := T) 100 (n + 3) (.fn 92) [] heap0 (.agg tblS, heap0) (by kernel_rfl))
def stp (c : W16) (b : Nat) : W16 := t4 (t4 (c ^^^ (BitVec.ofNat 16 b <<< 8)))
def upd (c : W16) (s : ByteArray) : Nat → W16
  | 0 => c
  | i + 1 => stp (upd c s i) ((s.data[i]?).getD 0).toNat
theorem nib_a : ∀ v : Fin 16, ((BitVec.ofNat 16 v : W16) <<< 12) >>> 12 = BitVec.ofNat 16 v := by decide
theorem nib_b : ∀ v : Fin 16, ((BitVec.ofNat 16 v : W16) <<< 12) <<< 4 = 0#16 := by decide
theorem nib_c : ∀ v : Fin 16, t4 ((BitVec.ofNat 16 v : W16) <<< 8) = BitVec.ofNat 16 v <<< 12 := by decide
theorem nib_d : ∀ b : Fin 256, ((BitVec.ofNat 16 (b / 16) : W16) <<< 12) ^^^ (BitVec.ofNat 16 (b % 16) <<< 8) = BitVec.ofNat 16 b <<< 8 := by decide +kernel
theorem nib (c : W16) {v : Nat} (hv : v < 16) : tbl[((c >>> 12) ^^^ BitVec.ofNat 16 v).toNat]? = some (t4 (c ^^^ (BitVec.ofNat 16 v <<< 12)) ^^^ (c <<< 4)) := by
  have h := t4_tbl (c ^^^ (BitVec.ofNat 16 v <<< 12))
  rw [BitVec.ushiftRight_xor_distrib, BitVec.shiftLeft_xor_distrib, nib_a ⟨v, hv⟩, nib_b ⟨v, hv⟩, BitVec.xor_zero] at h
  exact h
theorem stp_eq (c : W16) {b : Nat} (hb : b < 256) : stp c b = t4 (t4 (c ^^^ (BitVec.ofNat 16 (b / 16) <<< 12)) ^^^ (BitVec.ofNat 16 (b % 16) <<< 12)) := by
  unfold stp
  rw [← nib_c ⟨b % 16, by omega⟩, ← t4_xor, BitVec.xor_assoc, nib_d ⟨b, hb⟩]
theorem wrapW {n : Int} : IntKind.u16.wrap n = n % 65536 := by simp [IntKind.wrap, IntKind.bits, IntKind.signed]
theorem shlW (C : W16) (k : Nat) (hk : k ≤ 16) : IntKind.u16.wrap ((C.toNat : Int) * 2 ^ min k 16) = ((C <<< k).toNat : Nat) := by
  have h : ((C.toNat : Int) * 2 ^ k) = ((C.toNat * 2 ^ k : Nat) : Int) := by rw [Int.natCast_mul, Int.natCast_pow]; rfl
  rw [Nat.min_eq_left hk, wrapW, h, BitVec.toNat_shiftLeft, Nat.shiftLeft_eq]
  omega
theorem shrW (C : W16) (k : Nat) (hk : k ≤ 16) : ((C.toNat : Int)).fdiv (2 ^ min k 16) = ((C >>> k).toNat : Nat) := by
  rw [Nat.min_eq_left hk, fdiv_nat, BitVec.toNat_ushiftRight, Nat.shiftRight_eq_div_pow]
theorem ofW (C : W16) : (BitVec.ofInt 16 (C.toNat : Int)) = C := by
  apply BitVec.eq_of_toNat_eq
  rw [BitVec.toNat_ofInt]
  have := C.isLt
  omega
def xorI (a b : Int) : Int := IntKind.u16.wrap ((BitVec.ofInt 16 a ^^^ BitVec.ofInt 16 b).toNat)
@[go_sem high] theorem sb_xor16 (a b : Int) : sbin .xor (.int .u16 a) (.int .u16 b) = some (.int .u16 (xorI a b)) := by
  simp only [sbin, beq_self_eq_true, cond_true]; rfl
def andI8 (a b : Int) : Int := IntKind.u8.wrap ((BitVec.ofInt 8 a &&& BitVec.ofInt 8 b).toNat)
@[go_sem high] theorem sb_and8 (a b : Int) : sbin .and (.int .u8 a) (.int .u8 b) = some (.int .u8 (andI8 a b)) := by
  simp only [sbin, beq_self_eq_true, cond_true]; rfl
theorem xorW (A B : W16) : xorI (A.toNat : Int) (B.toNat : Int) = ((A ^^^ B).toNat : Nat) := by
  unfold xorI
  rw [ofW, ofW, wrapW]
  have := (A ^^^ B).isLt
  omega
theorem and15 {b : Nat} (hb : b < 256) : andI8 b 15 = ((b % 16 : Nat) : Int) := by
  unfold andI8
  have h3 : (BitVec.ofInt 8 15).toNat = 15 := by decide
  rw [BitVec.toNat_and, ofInt_nat8 _ hb, h3, Nat.and_two_pow_sub_one_eq_mod b 4]
  exact wrap8 (by omega) (by omega)
theorem toW {v : Nat} (h : v < 65536) : (v : Int) = ((BitVec.ofNat 16 v : W16).toNat : Nat) := by
  rw [BitVec.toNat_ofNat]; omega
theorem s81 (n : Nat) (H : Heap) (s : ByteArray) (hs : s.size ≤ 1000) : call1 T (n + 4) (.fn 81) [.int .u16 0, .str s] H = some (.int .u16 ((upd 0#16 s s.size).toNat : Nat), H) := by
  refine call_pure e81 (by rfl) ?_
  have h := fun H => s92 n H
  simp only [c81, heap0, go_sem, Int.cast_ofNat_Int, Int.reduceToNat, Bool.true_xor, Bool.false_xor, Bool.xor_true, Bool.xor_false, Nat.reduceAdd, Nat.reduceBEq, Nat.reduceLeDiff, Nat.reduceLT, Nat.reduceMul, Nat.reduceSub, Int.reduceEq, Int.reduceLT, Int.reduceLE, Int.reduceNeg, h]
  refine loop_rule (fun i => ([(0, .int .u16 ((upd 0#16 s i).toNat : Nat)), (1, .str s), (5, .ptr 0 0 0 0), (9, .int .i64 s.size), (10, .int .i64 i)], ⟨[.box tblS], [], 0⟩)) (fun _ => True) s.size ?_ trivial ?_
  · simp only [go_sem, Int.cast_ofNat_Int, Int.reduceToNat, Bool.true_xor, Bool.false_xor, Bool.xor_true, Bool.xor_false, Nat.reduceAdd, Nat.reduceBEq, Nat.reduceLeDiff, Nat.reduceLT, Nat.reduceMul, Nat.reduceSub, Int.reduceEq, Int.reduceLT, Int.reduceLE, Int.reduceNeg] <;> rfl
  · intro i hi _
    rcases Nat.lt_or_ge i s.size with hlt | hge
    · have hs2 := w64_suc hlt (Nat.le_trans hs (by decide))
      have hd : s.data[i]? = some s.data[i] := Array.getElem?_eq_getElem (by exact hlt)
      have hu : upd 0#16 s (i + 1) = stp (upd 0#16 s i) s.data[i].toNat := by simp only [upd, hd, Option.getD_some]
      have hv := UInt8.toNat_lt s.data[i]
      obtain ⟨C, hC⟩ : ∃ C, upd 0#16 s i = C := ⟨_, rfl⟩
      obtain ⟨b, hb⟩ : ∃ b, s.data[i].toNat = b := ⟨_, rfl⟩
      rw [hC, hb] at hu
      rw [hb] at hv
      have e1 : IntKind.u16.wrap (((b : Int)).fdiv (2 ^ min 4 8)) = ((BitVec.ofNat 16 (b / 16) : W16).toNat : Nat) := by
        rw [show min 4 8 = 4 from rfl, fdiv_nat, wrapW, ← toW (by omega)]; omega
      have e2 : IntKind.u16.wrap ((b % 16 : Nat) : Int) = ((BitVec.ofNat 16 (b % 16) : W16).toNat : Nat) := by
        rw [wrapW, ← toW (by omega)]; omega
      have e3 := and15 hv
      have q1 := nib C (v := b / 16) (by omega)
      have l1 : ((C >>> 12) ^^^ BitVec.ofNat 16 (b / 16)).toNat < 16 := by
        have := List.getElem?_eq_some_iff.1 q1
        exact this.1
      obtain ⟨C1, hC1⟩ : ∃ C1, t4 (C ^^^ (BitVec.ofNat 16 (b / 16) <<< 12)) = C1 := ⟨_, rfl⟩
      have q2 := nib C1 (v := b % 16) (by omega)
      have l2 : ((C1 >>> 12) ^^^ BitVec.ofNat 16 (b % 16)).toNat < 16 := by
        have := List.getElem?_eq_some_iff.1 q2
        exact this.1
      have hst : stp C b = t4 (C1 ^^^ (BitVec.ofNat 16 (b % 16) <<< 12)) := by rw [stp_eq C hv, hC1]
      rw [hC1] at q1
      have x1 : (C <<< 4) ^^^ (C1 ^^^ (C <<< 4)) = C1 := by rw [show (C <<< 4) ^^^ (C1 ^^^ (C <<< 4)) = C1 ^^^ ((C <<< 4) ^^^ (C <<< 4)) by ac_rfl, BitVec.xor_self, BitVec.xor_zero]
      have x2 : (C1 <<< 4) ^^^ (t4 (C1 ^^^ (BitVec.ofNat 16 (b % 16) <<< 12)) ^^^ (C1 <<< 4)) = stp C b := by
        rw [hst, show ∀ P Q : W16, P ^^^ (Q ^^^ P) = Q ^^^ (P ^^^ P) from fun P Q => by ac_rfl, BitVec.xor_self, BitVec.xor_zero]
      have d1 : ∀ n : Nat, n < 16 → decide ((n : Int) < 16) = true := fun n h => decide_eq_true (by omega)
      have d1 := d1 _ l1
      have d2 : decide (((((C1 >>> 12) ^^^ BitVec.ofNat 16 (b % 16)).toNat : Nat) : Int) < 16) = true := decide_eq_true (by omega)
      have s1 := fun C => shlW C 4 (by omega)
      have s2 := fun C => shrW C 12 (by omega)
      have hm : decide (max 0 (max 0 (max 1 0)) ≤ 1) = true := by decide
      simp only [go_sem, Int.cast_ofNat_Int, Int.reduceToNat, Bool.true_xor, Bool.false_xor, Bool.xor_true, Bool.xor_false, Nat.reduceAdd, Nat.reduceBEq, Nat.reduceLeDiff, Nat.reduceLT, Nat.reduceMul, Nat.reduceSub, Int.reduceEq, Int.reduceLT, Int.reduceLE, Int.reduceNeg, hlt, hd, hs2, hC, hb, hu, e1, e2, e3, s1, s2, xorW, d1, d2, Int.toNat_natCast, Nat.mul_one, tblS_get, q1, q2, x1, x2, hm]
      exact ⟨trivial, trivial, trivial⟩
    · obtain rfl : i = s.size := by omega
      have hd : decide (s.size < s.size) = false := decide_eq_false (by omega)
      simp only [go_sem, Int.cast_ofNat_Int, Int.reduceToNat, Bool.true_xor, Bool.false_xor, Bool.xor_true, Bool.xor_false, Nat.reduceAdd, Nat.reduceBEq, Nat.reduceLeDiff, Nat.reduceLT, Nat.reduceMul, Nat.reduceSub, Int.reduceEq, Int.reduceLT, Int.reduceLE, Int.reduceNeg, hd]
end Go.Sh
namespace Go.Sh
set_option linter.unusedSectionVars false
set_option linter.unnecessarySimpa false
set_option linter.unusedVariables false
set_option linter.unusedSimpArgs false
set_option maxRecDepth 100000
set_option maxHeartbeats 4000000
def crcN (s : ByteArray) : W16 := upd 0#16 s s.size
def cr2 (C : W16) : ByteArray := ⟨#[UInt8.ofNat (C.toNat / 256), UInt8.ofNat (C.toNat % 256)]⟩
/-- A text with its two bytes. -/
def prot (s : ByteArray) : ByteArray := s ++ cr2 (crcN s)
theorem cr2_size (C : W16) : (cr2 C).size = 2 := by rfl
theorem prot_size (s : ByteArray) : (prot s).size = s.size + 2 := by rw [prot, ByteArray.size_append, cr2_size]
theorem u8_hi (C : W16) : IntKind.u8.wrap ((C.toNat : Int).fdiv (2 ^ min 8 16)) = ((C.toNat / 256 : Nat) : Int) := by
  have := C.isLt
  rw [show min 8 16 = 8 from rfl, fdiv_nat]
  exact wrap8 (by omega) (by omega)
theorem u8_lo (C : W16) : IntKind.u8.wrap (C.toNat : Int) = ((C.toNat % 256 : Nat) : Int) := by
  have e : ∀ n : Int, IntKind.u8.wrap n = n % 256 := fun n => by simp [IntKind.wrap, IntKind.bits, IntKind.signed]
  rw [e]; omega
theorem toB_cons {n : Nat} (L : List (List SV)) : toBytes ([.int .u8 (n : Int)] :: L) = (toBytes L).map (fun l => UInt8.ofNat n :: l) := by
  simp only [toBytes, Int.toNat_natCast]
theorem toB_nil : toBytes [] = some [] := rfl
theorem s56 (n : Nat) (H : Heap) (s : ByteArray) (hs : s.size ≤ 1000) : call1 T (n + 5) (.fn 56) [.str s] H = some (.int .u16 ((crcN s).toNat : Nat), H) := by
  refine call_pure e56 (by rfl) ?_
  simp only [c56, heap0, go_sem, Int.cast_ofNat_Int, Int.reduceToNat, Bool.true_xor, Bool.false_xor, Bool.xor_true, Bool.xor_false, Nat.reduceAdd, Nat.reduceBEq, Nat.reduceLeDiff, Nat.reduceLT, Nat.reduceMul, Nat.reduceSub, Int.reduceEq, Int.reduceLT, Int.reduceLE, Int.reduceNeg, s81 _ _ _ hs, crcN]
theorem s25 (n : Nat) (H : Heap) (s : ByteArray) (hs : s.size ≤ 1000) : call1 T (n + 6) (.fn 25) [.str s] H = some (.str (prot s), H) := by
  refine call_pure e25 (by rfl) ?_
  obtain ⟨C, hC⟩ : ∃ C, crcN s = C := ⟨_, rfl⟩
  have h : ∀ H, call1 T (n + 5) (.fn 56) [.str s] H = some (.int .u16 (C.toNat : Nat), H) := fun H => hC ▸ s56 n H s hs
  have hz : decide (s.size + #[UInt8.ofNat (C.toNat / 256), UInt8.ofNat (C.toNat % 256)].size ≤ 4611686018427387904) = true := decide_eq_true (show s.size + 2 ≤ 4611686018427387904 by omega)
  simp only [c25, heap0, go_sem, Int.cast_ofNat_Int, Int.reduceToNat, Bool.true_xor, Bool.false_xor, Bool.xor_true, Bool.xor_false, Nat.reduceAdd, Nat.reduceBEq, Nat.reduceLeDiff, Nat.reduceLT, Nat.reduceMul, Nat.reduceSub, Int.reduceEq, Int.reduceLT, Int.reduceLE, Int.reduceNeg, h, u8_hi, u8_lo, prot, hC, cr2, toB_cons, toB_nil, Option.map_some, hz]
/-- The bytes of a row of bits. -/
def pkB (bs : List Bool) : ByteArray := ⟨((List.range (nb bs.length)).map fun j => UInt8.ofNat (byteN bs j)).toArray⟩
theorem pkB_size (bs : List Bool) : (pkB bs).size = nb bs.length := by simp [pkB, ByteArray.size]
theorem toB_map (f : Nat → Nat) : ∀ l : List Nat, toBytes (l.map fun j => [.int .u8 (f j : Nat)]) = some (l.map fun j => UInt8.ofNat (f j))
  | [] => rfl
  | a :: l => by rw [List.map_cons, toB_cons, toB_map f l]; rfl
theorem toB_pkS (bs : List Bool) : toBytes (pkS bs) = some ((List.range (nb bs.length)).map fun j => UInt8.ofNat (byteN bs j)) := toB_map _ _
theorem s28 (n : Nat) (b0 : SBlk) (tl : List SBlk) (es : List (Nat × Nat)) (bs : List Bool) : call1 T (n + 1) (.fn 28) [.ptr 1 0 0 0] (wH b0 bs tl es) = some (.tup [.str (pkB bs), .int .i64 0], wH b0 bs tl es) := by
  refine call_in e28 (by rfl) ?_
  have l0 : decide (0 < tl.length + 1 + 1 + 1) = true := decide_eq_true (by omega)
  have l3 : decide (3 ≤ tl.length + 1 + 1 + 1) = true := decide_eq_true (by omega)
  have ht : List.take (nb bs.length) (pkS bs) = pkS bs := List.take_of_length_le (by rw [pkS_len]; exact Nat.le_refl _)
  have hl : decide (nb bs.length ≤ (pkS bs).length) = true := decide_eq_true (by rw [pkS_len]; exact Nat.le_refl _)
  have hl2 : decide (nb bs.length ≤ nb bs.length) = true := decide_eq_true (Nat.le_refl _)
  simp only [c28, go_sem, Int.cast_ofNat_Int, Int.reduceToNat, Bool.true_xor, Bool.false_xor, Bool.xor_true, Bool.xor_false, Nat.reduceAdd, Nat.reduceBEq, Nat.reduceLeDiff, Nat.reduceLT, Nat.reduceMul, Nat.reduceSub, Int.reduceEq, Int.reduceLT, Int.reduceLE, Int.reduceNeg, l0, l3, ht, hl, hl2, toB_pkS, pkB]
  trace_state
end Go.Sh
namespace Go.Sh
set_option linter.unusedSectionVars false
set_option linter.unnecessarySimpa false
set_option linter.unusedVariables false
set_option linter.unusedSimpArgs false
set_option maxRecDepth 100000
set_option maxHeartbeats 4000000
/-- The writer whose text was too long. -/
abbrev wE (bs : List Bool) : SBlk := .box [.slc 2 (nb bs.length) 0 (nb bs.length), .int .i64 bs.length, .int .i64 8]
abbrev wX (b0 : SBlk) (bs : List Bool) (tl : List SBlk) (es : List (Nat × Nat)) : Heap := ⟨b0 :: wE bs :: wA bs :: tl, es, 0⟩
section
variable (b0 : SBlk) (tl : List SBlk) (es : List (Nat × Nat)) (bs : List Bool)
theorem s93e (n : Nat) (x : ByteArray) (hx : 127 < x.size) :
    call1 T (n + 4) (.fn 93) [.ptr 1 0 0 0, .int .i64 127, .str x] (wH b0 bs tl es) = some (.tup [], wX b0 bs tl es) := by
  refine call_in e93 (by rfl) ?_
  have h101 := fun H => s101 (n + 2) H 127
  have x1 : decide ((127 : Int) < (x.size : Int)) = true := decide_eq_true (by omega)
  have l0 : decide (0 < tl.length + 1 + 1 + 1) = true := decide_eq_true (by omega)
  have l1 : decide (1 < tl.length + 1 + 1 + 1) = true := decide_eq_true (by omega)
  have l2 : decide (2 < tl.length + 1 + 1 + 1) = true := decide_eq_true (by omega)
  have l3' : decide (tl.length + 1 + 1 + 1 < 3) = false := decide_eq_false (by omega)
  have l3 : decide (3 ≤ tl.length + 1 + 1 + 1) = true := decide_eq_true (by omega)
  simp only [c93, go_sem, Int.cast_ofNat_Int, Int.reduceToNat, Bool.true_xor, Bool.false_xor, Bool.xor_true, Bool.xor_false, Nat.reduceAdd, Nat.reduceBEq, Nat.reduceLeDiff, Nat.reduceLT, Nat.reduceMul, Nat.reduceSub, Int.reduceEq, Int.reduceLT, Int.reduceLE, Int.reduceNeg, h101, x1, l0, l1, l2, l3, l3', List.filter_replicate, List.all_replicate, ite_self, if_true]
theorem s28e (n : Nat) : call1 T (n + 1) (.fn 28) [.ptr 1 0 0 0] (wX b0 bs tl es) = some (.tup [.str ⟨#[]⟩, .int .i64 8], wX b0 bs tl es) := by
  refine call_in e28 (by rfl) ?_
  have l3 : decide (3 ≤ tl.length + 1 + 1 + 1) = true := decide_eq_true (by omega)
  simp only [c28, go_sem, Int.cast_ofNat_Int, Int.reduceToNat, Bool.true_xor, Bool.false_xor, Bool.xor_true, Bool.xor_false, Nat.reduceAdd, Nat.reduceBEq, Nat.reduceLeDiff, Nat.reduceLT, Nat.reduceMul, Nat.reduceSub, Int.reduceEq, Int.reduceLT, Int.reduceLE, Int.reduceNeg, l3]
end
section
variable (n : Nat) (cs : List SV) (t1 t2 t3 : SBlk) (es : List (Nat × Nat)) (bs : List Bool)
theorem s82e (x : ByteArray) (j : Nat) (hj : cs[j]? = some (.str x)) (hx : 127 < x.size) :
    call1 T (n + 5) (.fn 82) [pW, .ptr 0 0 0 j] (wH (.box cs) bs [t1, t2, t3] es) = some (.tup [], wX (.box cs) bs [t1, t2, t3] es) := by
  refine call_in e82 (by rfl) ?_
  have h := fun t es => s93e (.box cs) [t1, t2, t3, t] es bs n x hx
  simp only [c82, go_sem, Int.cast_ofNat_Int, Int.reduceToNat, Bool.true_xor, Bool.false_xor, Bool.xor_true, Bool.xor_false, Nat.reduceAdd, Nat.reduceBEq, Nat.reduceLeDiff, Nat.reduceLT, Nat.reduceMul, Nat.reduceSub, Int.reduceEq, Int.reduceLT, Int.reduceLE, Int.reduceNeg, h, hj, List.length_cons, List.length_nil, List.filter_replicate, List.all_replicate, List.filter_append, List.all_append, Bool.and_self, List.append_assoc, ite_self, if_true]
theorem s57e (k s d q o c m e t u v : Int) (x : ByteArray) (hc : 0 ≤ c ∧ c ≤ 255) (hm : 0 ≤ m ∧ m ≤ 65535) (hx : 127 < x.size) (hb : bs.length ≤ 900) :
    call1 T (n + 6) (.fn 57) [pW, .ptr 0 0 0 0] (wH (.box (fr k s d q o c m e t u v x)) bs [t1, t2] es) = some (.tup [], wX (.box (fr k s d q o c m e t u v x)) (bs ++ (bits 8 c.toNat ++ (bits 16 m.toNat))) [t1, t2] (es ++ ek bs 24)) := by
  refine call_in e57 (by rfl) ?_
  have h0 : ∀ t' es, call1 T (n + 5) (.fn 61) [pW, .int .i64 8, .ptr 0 0 0 5] (wH (.box (fr k s d q o c m e t u v x)) bs [t1, t2, t'] es) = some (.tup [], wH (.box (fr k s d q o c m e t u v x)) (bs ++ (bits 8 c.toNat)) [t1, t2, t'] (es ++ ek bs 8)) := fun t' es => by
    have := s61b (n + 1) _ t1 t2 t' es bs 8 c.toNat 5 (show (fr k s d q o c m e t u v x)[5]? = _ by rw [Int.toNat_of_nonneg hc.1]; rfl) (by omega) (by omega) (by omega) (by omega)
    try simp only [List.append_assoc] at this
    exact this
  have l0 : (bs ++ (bits 8 c.toNat)).length = bs.length + 8 := by simp only [List.length_append, bits_len] <;> omega
  have h1 : ∀ t' es, call1 T (n + 5) (.fn 61) [pW, .int .i64 16, .ptr 0 0 0 6] (wH (.box (fr k s d q o c m e t u v x)) (bs ++ (bits 8 c.toNat)) [t1, t2, t'] es) = some (.tup [], wH (.box (fr k s d q o c m e t u v x)) (bs ++ (bits 8 c.toNat ++ (bits 16 m.toNat))) [t1, t2, t'] (es ++ ek (bs ++ (bits 8 c.toNat)) 16)) := fun t' es => by
    have := s61b (n + 1) _ t1 t2 t' es (bs ++ (bits 8 c.toNat)) 16 m.toNat 6 (show (fr k s d q o c m e t u v x)[6]? = _ by rw [Int.toNat_of_nonneg hm.1]; rfl) (by omega) (by omega) (by omega) (by rw [l0]; omega)
    try simp only [List.append_assoc] at this
    exact this
  have l1 : (bs ++ (bits 8 c.toNat ++ (bits 16 m.toNat))).length = bs.length + 24 := by simp only [List.length_append, bits_len] <;> omega
  have hT : ∀ t' es, call1 T (n + 5) (.fn 82) [pW, .ptr 0 0 0 11] (wH (.box (fr k s d q o c m e t u v x)) (bs ++ (bits 8 c.toNat ++ (bits 16 m.toNat))) [t1, t2, t'] es) = some (.tup [], wX (.box (fr k s d q o c m e t u v x)) (bs ++ (bits 8 c.toNat ++ (bits 16 m.toNat))) [t1, t2, t'] es) := fun t' es => s82e n (fr k s d q o c m e t u v x) t1 t2 t' es (bs ++ (bits 8 c.toNat ++ (bits 16 m.toNat))) x 11 rfl hx
  have hk : ek bs 24 = ek bs 8 ++ ek (bs ++ (bits 8 c.toNat)) 16 := by rw [ek_add l0]
  try simp only [List.append_assoc] at hk
  rw [hk]
  simp only [c57, go_sem, Int.cast_ofNat_Int, Int.reduceToNat, Bool.true_xor, Bool.false_xor, Bool.xor_true, Bool.xor_false, Nat.reduceAdd, Nat.reduceBEq, Nat.reduceLeDiff, Nat.reduceLT, Nat.reduceMul, Nat.reduceSub, Int.reduceEq, Int.reduceLT, Int.reduceLE, Int.reduceNeg, h0, h1, hT, List.length_cons, List.length_nil, List.filter_replicate, List.all_replicate, List.filter_append, List.all_append, Bool.and_self, List.append_assoc, ite_self, if_true]
theorem s59e (k s d q o c m e t u v : Int) (x : ByteArray) (ht : 0 ≤ t ∧ t ≤ 109951162) (hu : 0 ≤ u ∧ u ≤ 65535) (hv : 0 ≤ v ∧ v ≤ 65535) (hx : 127 < x.size) (hb : bs.length ≤ 900) :
    call1 T (n + 6) (.fn 59) [pW, .ptr 0 0 0 0] (wH (.box (fr k s d q o c m e t u v x)) bs [t1, t2] es) = some (.tup [], wX (.box (fr k s d q o c m e t u v x)) (bs ++ (bits 27 t.toNat ++ (bits 16 u.toNat ++ (bits 16 v.toNat)))) [t1, t2] (es ++ ek bs 59)) := by
  refine call_in e59 (by rfl) ?_
  have h0 : ∀ t' es, call1 T (n + 5) (.fn 61) [pW, .int .i64 27, .ptr 0 0 0 8] (wH (.box (fr k s d q o c m e t u v x)) bs [t1, t2, t'] es) = some (.tup [], wH (.box (fr k s d q o c m e t u v x)) (bs ++ (bits 27 t.toNat)) [t1, t2, t'] (es ++ ek bs 27)) := fun t' es => by
    have := s61b (n + 1) _ t1 t2 t' es bs 27 t.toNat 8 (show (fr k s d q o c m e t u v x)[8]? = _ by rw [Int.toNat_of_nonneg ht.1]; rfl) (by omega) (by omega) (by omega) (by omega)
    try simp only [List.append_assoc] at this
    exact this
  have l0 : (bs ++ (bits 27 t.toNat)).length = bs.length + 27 := by simp only [List.length_append, bits_len] <;> omega
  have h1 : ∀ t' es, call1 T (n + 5) (.fn 61) [pW, .int .i64 16, .ptr 0 0 0 9] (wH (.box (fr k s d q o c m e t u v x)) (bs ++ (bits 27 t.toNat)) [t1, t2, t'] es) = some (.tup [], wH (.box (fr k s d q o c m e t u v x)) (bs ++ (bits 27 t.toNat ++ (bits 16 u.toNat))) [t1, t2, t'] (es ++ ek (bs ++ (bits 27 t.toNat)) 16)) := fun t' es => by
    have := s61b (n + 1) _ t1 t2 t' es (bs ++ (bits 27 t.toNat)) 16 u.toNat 9 (show (fr k s d q o c m e t u v x)[9]? = _ by rw [Int.toNat_of_nonneg hu.1]; rfl) (by omega) (by omega) (by omega) (by rw [l0]; omega)
    try simp only [List.append_assoc] at this
    exact this
  have l1 : (bs ++ (bits 27 t.toNat ++ (bits 16 u.toNat))).length = bs.length + 43 := by simp only [List.length_append, bits_len] <;> omega
  have h2 : ∀ t' es, call1 T (n + 5) (.fn 61) [pW, .int .i64 16, .ptr 0 0 0 10] (wH (.box (fr k s d q o c m e t u v x)) (bs ++ (bits 27 t.toNat ++ (bits 16 u.toNat))) [t1, t2, t'] es) = some (.tup [], wH (.box (fr k s d q o c m e t u v x)) (bs ++ (bits 27 t.toNat ++ (bits 16 u.toNat ++ (bits 16 v.toNat)))) [t1, t2, t'] (es ++ ek (bs ++ (bits 27 t.toNat ++ (bits 16 u.toNat))) 16)) := fun t' es => by
    have := s61b (n + 1) _ t1 t2 t' es (bs ++ (bits 27 t.toNat ++ (bits 16 u.toNat))) 16 v.toNat 10 (show (fr k s d q o c m e t u v x)[10]? = _ by rw [Int.toNat_of_nonneg hv.1]; rfl) (by omega) (by omega) (by omega) (by rw [l1]; omega)
    try simp only [List.append_assoc] at this
    exact this
  have l2 : (bs ++ (bits 27 t.toNat ++ (bits 16 u.toNat ++ (bits 16 v.toNat)))).length = bs.length + 59 := by simp only [List.length_append, bits_len] <;> omega
  have hT : ∀ t' es, call1 T (n + 5) (.fn 82) [pW, .ptr 0 0 0 11] (wH (.box (fr k s d q o c m e t u v x)) (bs ++ (bits 27 t.toNat ++ (bits 16 u.toNat ++ (bits 16 v.toNat)))) [t1, t2, t'] es) = some (.tup [], wX (.box (fr k s d q o c m e t u v x)) (bs ++ (bits 27 t.toNat ++ (bits 16 u.toNat ++ (bits 16 v.toNat)))) [t1, t2, t'] es) := fun t' es => s82e n (fr k s d q o c m e t u v x) t1 t2 t' es (bs ++ (bits 27 t.toNat ++ (bits 16 u.toNat ++ (bits 16 v.toNat)))) x 11 rfl hx
  have hk : ek bs 59 = ek bs 27 ++ ek (bs ++ (bits 27 t.toNat)) 16 ++ ek (bs ++ (bits 27 t.toNat ++ (bits 16 u.toNat))) 16 := by rw [ek_add l0, ek_add l1]
  try simp only [List.append_assoc] at hk
  rw [hk]
  simp only [c59, go_sem, Int.cast_ofNat_Int, Int.reduceToNat, Bool.true_xor, Bool.false_xor, Bool.xor_true, Bool.xor_false, Nat.reduceAdd, Nat.reduceBEq, Nat.reduceLeDiff, Nat.reduceLT, Nat.reduceMul, Nat.reduceSub, Int.reduceEq, Int.reduceLT, Int.reduceLE, Int.reduceNeg, h0, h1, h2, hT, List.length_cons, List.length_nil, List.filter_replicate, List.all_replicate, List.filter_append, List.all_append, Bool.and_self, List.append_assoc, ite_self, if_true]
theorem s60e (k s d q o c m e t u v : Int) (x : ByteArray)  (hx : 127 < x.size) (hb : bs.length ≤ 900) :
    call1 T (n + 6) (.fn 60) [pW, .ptr 0 0 0 0] (wH (.box (fr k s d q o c m e t u v x)) bs [t1, t2] es) = some (.tup [], wX (.box (fr k s d q o c m e t u v x)) bs [t1, t2] es) := by
  refine call_in e60 (by rfl) ?_
  have hT : ∀ t' es, call1 T (n + 5) (.fn 82) [pW, .ptr 0 0 0 11] (wH (.box (fr k s d q o c m e t u v x)) bs [t1, t2, t'] es) = some (.tup [], wX (.box (fr k s d q o c m e t u v x)) bs [t1, t2, t'] es) := fun t' es => s82e n (fr k s d q o c m e t u v x) t1 t2 t' es bs x 11 rfl hx
  simp only [c60, go_sem, Int.cast_ofNat_Int, Int.reduceToNat, Bool.true_xor, Bool.false_xor, Bool.xor_true, Bool.xor_false, Nat.reduceAdd, Nat.reduceBEq, Nat.reduceLeDiff, Nat.reduceLT, Nat.reduceMul, Nat.reduceSub, Int.reduceEq, Int.reduceLT, Int.reduceLE, Int.reduceNeg, hT, List.length_cons, List.length_nil, List.filter_replicate, List.all_replicate, List.filter_append, List.all_append, Bool.and_self, List.append_assoc, ite_self, if_true]
theorem s27e_1 (s d q o c m e t u v : Int) (x : ByteArray) (hs : 0 ≤ s ∧ s ≤ 31) (hd : d < 32) (hd0 : d < 0 → d = -1) (hq : 0 ≤ q ∧ q ≤ 255) (ho : 0 ≤ o ∧ o ≤ 255) (hc : 0 ≤ c ∧ c ≤ 255) (hm : 0 ≤ m ∧ m ≤ 65535) (hx : 127 < x.size) (hb : bs.length ≤ 100) :
    ∃ bs' es', call1 T (n + 7) (.fn 27) [pW, .ptr 0 0 0 0] (wH (.box (fr 1 s d q o c m e t u v x)) bs [] es) = some (.bool true, wX (.box (fr 1 s d q o c m e t u v x)) bs' [] es') := by
  refine ⟨(bs ++ (bits 3 1 ++ (bits 5 s.toNat ++ (tgBits d ++ (bits 8 q.toNat ++ (bits 8 o.toNat ++ (bits 8 c.toNat ++ (bits 16 m.toNat)))))))), es ++ (ek bs 3 ++ (ek (bs ++ (bits 3 1)) 5 ++ (ek (bs ++ (bits 3 1 ++ (bits 5 s.toNat))) (tgLen d) ++ (ek (bs ++ (bits 3 1 ++ (bits 5 s.toNat ++ (tgBits d)))) 8 ++ (ek (bs ++ (bits 3 1 ++ (bits 5 s.toNat ++ (tgBits d ++ (bits 8 q.toNat))))) 8 ++ (ek (bs ++ (bits 3 1 ++ (bits 5 s.toNat ++ (tgBits d ++ (bits 8 q.toNat ++ (bits 8 o.toNat)))))) 24)))))), ?_⟩
  refine call_in e27 (by rfl) ?_
  have h0 : ∀ t1 t2 es, call1 T (n + 6) (.fn 61) [pW, .int .i64 3, .ptr 0 0 0 0] (wH (.box (fr 1 s d q o c m e t u v x)) bs [t1, t2] es) = some (.tup [], wH (.box (fr 1 s d q o c m e t u v x)) (bs ++ (bits 3 1)) [t1, t2] (es ++ ek bs 3)) := fun t1 t2 es => by
    have := s61a (n + 2) (fr 1 s d q o c m e t u v x) t1 t2 es bs 3 1 0 rfl (by omega) (by omega) (by omega) (by omega)
    try simp only [List.append_assoc] at this
    exact this
  have l0 : (bs ++ (bits 3 1)).length = bs.length + (3) := by simp only [List.length_append, bits_len, tgLen_eq] <;> omega
  have h1 : ∀ t1 t2 es, call1 T (n + 6) (.fn 61) [pW, .int .i64 5, .ptr 0 0 0 1] (wH (.box (fr 1 s d q o c m e t u v x)) (bs ++ (bits 3 1)) [t1, t2] es) = some (.tup [], wH (.box (fr 1 s d q o c m e t u v x)) (bs ++ (bits 3 1 ++ (bits 5 s.toNat))) [t1, t2] (es ++ ek (bs ++ (bits 3 1)) 5)) := fun t1 t2 es => by
    have := s61a (n + 2) (fr 1 s d q o c m e t u v x) t1 t2 es (bs ++ (bits 3 1)) 5 s.toNat 1 (show (fr 1 s d q o c m e t u v x)[1]? = _ by rw [Int.toNat_of_nonneg hs.1]; rfl) (by omega) (by omega) (by omega) (by have := tgLe d; rw [l0]; omega)
    try simp only [List.append_assoc] at this
    exact this
  have l1 : (bs ++ (bits 3 1 ++ (bits 5 s.toNat))).length = bs.length + (8) := by simp only [List.length_append, bits_len, tgLen_eq] <;> omega
  have h2 : ∀ t1 t2 es, call1 T (n + 6) (.fn 62) [pW, .ptr 0 0 0 2] (wH (.box (fr 1 s d q o c m e t u v x)) (bs ++ (bits 3 1 ++ (bits 5 s.toNat))) [t1, t2] es) = some (.tup [], wH (.box (fr 1 s d q o c m e t u v x)) (bs ++ (bits 3 1 ++ (bits 5 s.toNat ++ (tgBits d)))) [t1, t2] (es ++ ek (bs ++ (bits 3 1 ++ (bits 5 s.toNat))) (tgLen d))) := fun t1 t2 es => by
    have := s62 n t1 t2 es (bs ++ (bits 3 1 ++ (bits 5 s.toNat))) 1 s d q o c m e t u v x hd hd0 (by rw [l1]; omega)
    try simp only [List.append_assoc] at this
    exact this
  have l2 : (bs ++ (bits 3 1 ++ (bits 5 s.toNat ++ (tgBits d)))).length = bs.length + (8 + tgLen d) := by simp only [List.length_append, bits_len, tgLen_eq] <;> omega
  have h3 : ∀ t1 t2 es, call1 T (n + 6) (.fn 61) [pW, .int .i64 8, .ptr 0 0 0 3] (wH (.box (fr 1 s d q o c m e t u v x)) (bs ++ (bits 3 1 ++ (bits 5 s.toNat ++ (tgBits d)))) [t1, t2] es) = some (.tup [], wH (.box (fr 1 s d q o c m e t u v x)) (bs ++ (bits 3 1 ++ (bits 5 s.toNat ++ (tgBits d ++ (bits 8 q.toNat))))) [t1, t2] (es ++ ek (bs ++ (bits 3 1 ++ (bits 5 s.toNat ++ (tgBits d)))) 8)) := fun t1 t2 es => by
    have := s61a (n + 2) (fr 1 s d q o c m e t u v x) t1 t2 es (bs ++ (bits 3 1 ++ (bits 5 s.toNat ++ (tgBits d)))) 8 q.toNat 3 (show (fr 1 s d q o c m e t u v x)[3]? = _ by rw [Int.toNat_of_nonneg hq.1]; rfl) (by omega) (by omega) (by omega) (by have := tgLe d; rw [l2]; omega)
    try simp only [List.append_assoc] at this
    exact this
  have l3 : (bs ++ (bits 3 1 ++ (bits 5 s.toNat ++ (tgBits d ++ (bits 8 q.toNat))))).length = bs.length + (16 + tgLen d) := by simp only [List.length_append, bits_len, tgLen_eq] <;> omega
  have h4 : ∀ t1 t2 es, call1 T (n + 6) (.fn 61) [pW, .int .i64 8, .ptr 0 0 0 4] (wH (.box (fr 1 s d q o c m e t u v x)) (bs ++ (bits 3 1 ++ (bits 5 s.toNat ++ (tgBits d ++ (bits 8 q.toNat))))) [t1, t2] es) = some (.tup [], wH (.box (fr 1 s d q o c m e t u v x)) (bs ++ (bits 3 1 ++ (bits 5 s.toNat ++ (tgBits d ++ (bits 8 q.toNat ++ (bits 8 o.toNat)))))) [t1, t2] (es ++ ek (bs ++ (bits 3 1 ++ (bits 5 s.toNat ++ (tgBits d ++ (bits 8 q.toNat))))) 8)) := fun t1 t2 es => by
    have := s61a (n + 2) (fr 1 s d q o c m e t u v x) t1 t2 es (bs ++ (bits 3 1 ++ (bits 5 s.toNat ++ (tgBits d ++ (bits 8 q.toNat))))) 8 o.toNat 4 (show (fr 1 s d q o c m e t u v x)[4]? = _ by rw [Int.toNat_of_nonneg ho.1]; rfl) (by omega) (by omega) (by omega) (by have := tgLe d; rw [l3]; omega)
    try simp only [List.append_assoc] at this
    exact this
  have l4 : (bs ++ (bits 3 1 ++ (bits 5 s.toNat ++ (tgBits d ++ (bits 8 q.toNat ++ (bits 8 o.toNat)))))).length = bs.length + (24 + tgLen d) := by simp only [List.length_append, bits_len, tgLen_eq] <;> omega
  have hb1 : ∀ t1 t2 es, call1 T (n + 6) (.fn 57) [pW, .ptr 0 0 0 0] (wH (.box (fr 1 s d q o c m e t u v x)) (bs ++ (bits 3 1 ++ (bits 5 s.toNat ++ (tgBits d ++ (bits 8 q.toNat ++ (bits 8 o.toNat)))))) [t1, t2] es) = some (.tup [], wX (.box (fr 1 s d q o c m e t u v x)) (bs ++ (bits 3 1 ++ (bits 5 s.toNat ++ (tgBits d ++ (bits 8 q.toNat ++ (bits 8 o.toNat ++ (bits 8 c.toNat ++ (bits 16 m.toNat)))))))) [t1, t2] (es ++ ek (bs ++ (bits 3 1 ++ (bits 5 s.toNat ++ (tgBits d ++ (bits 8 q.toNat ++ (bits 8 o.toNat)))))) 24)) := fun t1 t2 es => by
    have := s57e n t1 t2 es (bs ++ (bits 3 1 ++ (bits 5 s.toNat ++ (tgBits d ++ (bits 8 q.toNat ++ (bits 8 o.toNat)))))) 1 s d q o c m e t u v x hc hm hx (by have := tgLe d; rw [l4]; omega)
    try simp only [List.append_assoc] at this
    exact this
  simp only [c27, go_sem, Int.cast_ofNat_Int, Int.reduceToNat, Bool.true_xor, Bool.false_xor, Bool.xor_true, Bool.xor_false, Nat.reduceAdd, Nat.reduceBEq, Nat.reduceLeDiff, Nat.reduceLT, Nat.reduceMul, Nat.reduceSub, Int.reduceEq, Int.reduceLT, Int.reduceLE, Int.reduceNeg, h0, h1, h2, h3, h4, hb1, List.length_cons, List.length_nil, List.filter_replicate, List.all_replicate, List.filter_append, List.all_append, Bool.and_self, List.append_assoc, ite_self, if_true]
theorem s27e_3 (s d q o c m e t u v : Int) (x : ByteArray) (hs : 0 ≤ s ∧ s ≤ 31) (hd : d < 32) (hd0 : d < 0 → d = -1) (hq : 0 ≤ q ∧ q ≤ 255) (ho : 0 ≤ o ∧ o ≤ 255) (ht : 0 ≤ t ∧ t ≤ 109951162) (hu : 0 ≤ u ∧ u ≤ 65535) (hv : 0 ≤ v ∧ v ≤ 65535) (hx : 127 < x.size) (hb : bs.length ≤ 100) :
    ∃ bs' es', call1 T (n + 7) (.fn 27) [pW, .ptr 0 0 0 0] (wH (.box (fr 3 s d q o c m e t u v x)) bs [] es) = some (.bool true, wX (.box (fr 3 s d q o c m e t u v x)) bs' [] es') := by
  refine ⟨(bs ++ (bits 3 3 ++ (bits 5 s.toNat ++ (tgBits d ++ (bits 8 q.toNat ++ (bits 8 o.toNat ++ (bits 27 t.toNat ++ (bits 16 u.toNat ++ (bits 16 v.toNat))))))))), es ++ (ek bs 3 ++ (ek (bs ++ (bits 3 3)) 5 ++ (ek (bs ++ (bits 3 3 ++ (bits 5 s.toNat))) (tgLen d) ++ (ek (bs ++ (bits 3 3 ++ (bits 5 s.toNat ++ (tgBits d)))) 8 ++ (ek (bs ++ (bits 3 3 ++ (bits 5 s.toNat ++ (tgBits d ++ (bits 8 q.toNat))))) 8 ++ (ek (bs ++ (bits 3 3 ++ (bits 5 s.toNat ++ (tgBits d ++ (bits 8 q.toNat ++ (bits 8 o.toNat)))))) 59)))))), ?_⟩
  refine call_in e27 (by rfl) ?_
  have h0 : ∀ t1 t2 es, call1 T (n + 6) (.fn 61) [pW, .int .i64 3, .ptr 0 0 0 0] (wH (.box (fr 3 s d q o c m e t u v x)) bs [t1, t2] es) = some (.tup [], wH (.box (fr 3 s d q o c m e t u v x)) (bs ++ (bits 3 3)) [t1, t2] (es ++ ek bs 3)) := fun t1 t2 es => by
    have := s61a (n + 2) (fr 3 s d q o c m e t u v x) t1 t2 es bs 3 3 0 rfl (by omega) (by omega) (by omega) (by omega)
    try simp only [List.append_assoc] at this
    exact this
  have l0 : (bs ++ (bits 3 3)).length = bs.length + (3) := by simp only [List.length_append, bits_len, tgLen_eq] <;> omega
  have h1 : ∀ t1 t2 es, call1 T (n + 6) (.fn 61) [pW, .int .i64 5, .ptr 0 0 0 1] (wH (.box (fr 3 s d q o c m e t u v x)) (bs ++ (bits 3 3)) [t1, t2] es) = some (.tup [], wH (.box (fr 3 s d q o c m e t u v x)) (bs ++ (bits 3 3 ++ (bits 5 s.toNat))) [t1, t2] (es ++ ek (bs ++ (bits 3 3)) 5)) := fun t1 t2 es => by
    have := s61a (n + 2) (fr 3 s d q o c m e t u v x) t1 t2 es (bs ++ (bits 3 3)) 5 s.toNat 1 (show (fr 3 s d q o c m e t u v x)[1]? = _ by rw [Int.toNat_of_nonneg hs.1]; rfl) (by omega) (by omega) (by omega) (by have := tgLe d; rw [l0]; omega)
    try simp only [List.append_assoc] at this
    exact this
  have l1 : (bs ++ (bits 3 3 ++ (bits 5 s.toNat))).length = bs.length + (8) := by simp only [List.length_append, bits_len, tgLen_eq] <;> omega
  have h2 : ∀ t1 t2 es, call1 T (n + 6) (.fn 62) [pW, .ptr 0 0 0 2] (wH (.box (fr 3 s d q o c m e t u v x)) (bs ++ (bits 3 3 ++ (bits 5 s.toNat))) [t1, t2] es) = some (.tup [], wH (.box (fr 3 s d q o c m e t u v x)) (bs ++ (bits 3 3 ++ (bits 5 s.toNat ++ (tgBits d)))) [t1, t2] (es ++ ek (bs ++ (bits 3 3 ++ (bits 5 s.toNat))) (tgLen d))) := fun t1 t2 es => by
    have := s62 n t1 t2 es (bs ++ (bits 3 3 ++ (bits 5 s.toNat))) 3 s d q o c m e t u v x hd hd0 (by rw [l1]; omega)
    try simp only [List.append_assoc] at this
    exact this
  have l2 : (bs ++ (bits 3 3 ++ (bits 5 s.toNat ++ (tgBits d)))).length = bs.length + (8 + tgLen d) := by simp only [List.length_append, bits_len, tgLen_eq] <;> omega
  have h3 : ∀ t1 t2 es, call1 T (n + 6) (.fn 61) [pW, .int .i64 8, .ptr 0 0 0 3] (wH (.box (fr 3 s d q o c m e t u v x)) (bs ++ (bits 3 3 ++ (bits 5 s.toNat ++ (tgBits d)))) [t1, t2] es) = some (.tup [], wH (.box (fr 3 s d q o c m e t u v x)) (bs ++ (bits 3 3 ++ (bits 5 s.toNat ++ (tgBits d ++ (bits 8 q.toNat))))) [t1, t2] (es ++ ek (bs ++ (bits 3 3 ++ (bits 5 s.toNat ++ (tgBits d)))) 8)) := fun t1 t2 es => by
    have := s61a (n + 2) (fr 3 s d q o c m e t u v x) t1 t2 es (bs ++ (bits 3 3 ++ (bits 5 s.toNat ++ (tgBits d)))) 8 q.toNat 3 (show (fr 3 s d q o c m e t u v x)[3]? = _ by rw [Int.toNat_of_nonneg hq.1]; rfl) (by omega) (by omega) (by omega) (by have := tgLe d; rw [l2]; omega)
    try simp only [List.append_assoc] at this
    exact this
  have l3 : (bs ++ (bits 3 3 ++ (bits 5 s.toNat ++ (tgBits d ++ (bits 8 q.toNat))))).length = bs.length + (16 + tgLen d) := by simp only [List.length_append, bits_len, tgLen_eq] <;> omega
  have h4 : ∀ t1 t2 es, call1 T (n + 6) (.fn 61) [pW, .int .i64 8, .ptr 0 0 0 4] (wH (.box (fr 3 s d q o c m e t u v x)) (bs ++ (bits 3 3 ++ (bits 5 s.toNat ++ (tgBits d ++ (bits 8 q.toNat))))) [t1, t2] es) = some (.tup [], wH (.box (fr 3 s d q o c m e t u v x)) (bs ++ (bits 3 3 ++ (bits 5 s.toNat ++ (tgBits d ++ (bits 8 q.toNat ++ (bits 8 o.toNat)))))) [t1, t2] (es ++ ek (bs ++ (bits 3 3 ++ (bits 5 s.toNat ++ (tgBits d ++ (bits 8 q.toNat))))) 8)) := fun t1 t2 es => by
    have := s61a (n + 2) (fr 3 s d q o c m e t u v x) t1 t2 es (bs ++ (bits 3 3 ++ (bits 5 s.toNat ++ (tgBits d ++ (bits 8 q.toNat))))) 8 o.toNat 4 (show (fr 3 s d q o c m e t u v x)[4]? = _ by rw [Int.toNat_of_nonneg ho.1]; rfl) (by omega) (by omega) (by omega) (by have := tgLe d; rw [l3]; omega)
    try simp only [List.append_assoc] at this
    exact this
  have l4 : (bs ++ (bits 3 3 ++ (bits 5 s.toNat ++ (tgBits d ++ (bits 8 q.toNat ++ (bits 8 o.toNat)))))).length = bs.length + (24 + tgLen d) := by simp only [List.length_append, bits_len, tgLen_eq] <;> omega
  have hb1 : ∀ t1 t2 es, call1 T (n + 6) (.fn 59) [pW, .ptr 0 0 0 0] (wH (.box (fr 3 s d q o c m e t u v x)) (bs ++ (bits 3 3 ++ (bits 5 s.toNat ++ (tgBits d ++ (bits 8 q.toNat ++ (bits 8 o.toNat)))))) [t1, t2] es) = some (.tup [], wX (.box (fr 3 s d q o c m e t u v x)) (bs ++ (bits 3 3 ++ (bits 5 s.toNat ++ (tgBits d ++ (bits 8 q.toNat ++ (bits 8 o.toNat ++ (bits 27 t.toNat ++ (bits 16 u.toNat ++ (bits 16 v.toNat))))))))) [t1, t2] (es ++ ek (bs ++ (bits 3 3 ++ (bits 5 s.toNat ++ (tgBits d ++ (bits 8 q.toNat ++ (bits 8 o.toNat)))))) 59)) := fun t1 t2 es => by
    have := s59e n t1 t2 es (bs ++ (bits 3 3 ++ (bits 5 s.toNat ++ (tgBits d ++ (bits 8 q.toNat ++ (bits 8 o.toNat)))))) 3 s d q o c m e t u v x ht hu hv hx (by have := tgLe d; rw [l4]; omega)
    try simp only [List.append_assoc] at this
    exact this
  simp only [c27, go_sem, Int.cast_ofNat_Int, Int.reduceToNat, Bool.true_xor, Bool.false_xor, Bool.xor_true, Bool.xor_false, Nat.reduceAdd, Nat.reduceBEq, Nat.reduceLeDiff, Nat.reduceLT, Nat.reduceMul, Nat.reduceSub, Int.reduceEq, Int.reduceLT, Int.reduceLE, Int.reduceNeg, h0, h1, h2, h3, h4, hb1, List.length_cons, List.length_nil, List.filter_replicate, List.all_replicate, List.filter_append, List.all_append, Bool.and_self, List.append_assoc, ite_self, if_true]
theorem s27e_4 (s d q o c m e t u v : Int) (x : ByteArray) (hs : 0 ≤ s ∧ s ≤ 31) (hd : d < 32) (hd0 : d < 0 → d = -1) (hq : 0 ≤ q ∧ q ≤ 255) (ho : 0 ≤ o ∧ o ≤ 255)  (hx : 127 < x.size) (hb : bs.length ≤ 100) :
    ∃ bs' es', call1 T (n + 7) (.fn 27) [pW, .ptr 0 0 0 0] (wH (.box (fr 4 s d q o c m e t u v x)) bs [] es) = some (.bool true, wX (.box (fr 4 s d q o c m e t u v x)) bs' [] es') := by
  refine ⟨(bs ++ (bits 3 4 ++ (bits 5 s.toNat ++ (tgBits d ++ (bits 8 q.toNat ++ (bits 8 o.toNat)))))), es ++ (ek bs 3 ++ (ek (bs ++ (bits 3 4)) 5 ++ (ek (bs ++ (bits 3 4 ++ (bits 5 s.toNat))) (tgLen d) ++ (ek (bs ++ (bits 3 4 ++ (bits 5 s.toNat ++ (tgBits d)))) 8 ++ (ek (bs ++ (bits 3 4 ++ (bits 5 s.toNat ++ (tgBits d ++ (bits 8 q.toNat))))) 8))))), ?_⟩
  refine call_in e27 (by rfl) ?_
  have h0 : ∀ t1 t2 es, call1 T (n + 6) (.fn 61) [pW, .int .i64 3, .ptr 0 0 0 0] (wH (.box (fr 4 s d q o c m e t u v x)) bs [t1, t2] es) = some (.tup [], wH (.box (fr 4 s d q o c m e t u v x)) (bs ++ (bits 3 4)) [t1, t2] (es ++ ek bs 3)) := fun t1 t2 es => by
    have := s61a (n + 2) (fr 4 s d q o c m e t u v x) t1 t2 es bs 3 4 0 rfl (by omega) (by omega) (by omega) (by omega)
    try simp only [List.append_assoc] at this
    exact this
  have l0 : (bs ++ (bits 3 4)).length = bs.length + (3) := by simp only [List.length_append, bits_len, tgLen_eq] <;> omega
  have h1 : ∀ t1 t2 es, call1 T (n + 6) (.fn 61) [pW, .int .i64 5, .ptr 0 0 0 1] (wH (.box (fr 4 s d q o c m e t u v x)) (bs ++ (bits 3 4)) [t1, t2] es) = some (.tup [], wH (.box (fr 4 s d q o c m e t u v x)) (bs ++ (bits 3 4 ++ (bits 5 s.toNat))) [t1, t2] (es ++ ek (bs ++ (bits 3 4)) 5)) := fun t1 t2 es => by
    have := s61a (n + 2) (fr 4 s d q o c m e t u v x) t1 t2 es (bs ++ (bits 3 4)) 5 s.toNat 1 (show (fr 4 s d q o c m e t u v x)[1]? = _ by rw [Int.toNat_of_nonneg hs.1]; rfl) (by omega) (by omega) (by omega) (by have := tgLe d; rw [l0]; omega)
    try simp only [List.append_assoc] at this
    exact this
  have l1 : (bs ++ (bits 3 4 ++ (bits 5 s.toNat))).length = bs.length + (8) := by simp only [List.length_append, bits_len, tgLen_eq] <;> omega
  have h2 : ∀ t1 t2 es, call1 T (n + 6) (.fn 62) [pW, .ptr 0 0 0 2] (wH (.box (fr 4 s d q o c m e t u v x)) (bs ++ (bits 3 4 ++ (bits 5 s.toNat))) [t1, t2] es) = some (.tup [], wH (.box (fr 4 s d q o c m e t u v x)) (bs ++ (bits 3 4 ++ (bits 5 s.toNat ++ (tgBits d)))) [t1, t2] (es ++ ek (bs ++ (bits 3 4 ++ (bits 5 s.toNat))) (tgLen d))) := fun t1 t2 es => by
    have := s62 n t1 t2 es (bs ++ (bits 3 4 ++ (bits 5 s.toNat))) 4 s d q o c m e t u v x hd hd0 (by rw [l1]; omega)
    try simp only [List.append_assoc] at this
    exact this
  have l2 : (bs ++ (bits 3 4 ++ (bits 5 s.toNat ++ (tgBits d)))).length = bs.length + (8 + tgLen d) := by simp only [List.length_append, bits_len, tgLen_eq] <;> omega
  have h3 : ∀ t1 t2 es, call1 T (n + 6) (.fn 61) [pW, .int .i64 8, .ptr 0 0 0 3] (wH (.box (fr 4 s d q o c m e t u v x)) (bs ++ (bits 3 4 ++ (bits 5 s.toNat ++ (tgBits d)))) [t1, t2] es) = some (.tup [], wH (.box (fr 4 s d q o c m e t u v x)) (bs ++ (bits 3 4 ++ (bits 5 s.toNat ++ (tgBits d ++ (bits 8 q.toNat))))) [t1, t2] (es ++ ek (bs ++ (bits 3 4 ++ (bits 5 s.toNat ++ (tgBits d)))) 8)) := fun t1 t2 es => by
    have := s61a (n + 2) (fr 4 s d q o c m e t u v x) t1 t2 es (bs ++ (bits 3 4 ++ (bits 5 s.toNat ++ (tgBits d)))) 8 q.toNat 3 (show (fr 4 s d q o c m e t u v x)[3]? = _ by rw [Int.toNat_of_nonneg hq.1]; rfl) (by omega) (by omega) (by omega) (by have := tgLe d; rw [l2]; omega)
    try simp only [List.append_assoc] at this
    exact this
  have l3 : (bs ++ (bits 3 4 ++ (bits 5 s.toNat ++ (tgBits d ++ (bits 8 q.toNat))))).length = bs.length + (16 + tgLen d) := by simp only [List.length_append, bits_len, tgLen_eq] <;> omega
  have h4 : ∀ t1 t2 es, call1 T (n + 6) (.fn 61) [pW, .int .i64 8, .ptr 0 0 0 4] (wH (.box (fr 4 s d q o c m e t u v x)) (bs ++ (bits 3 4 ++ (bits 5 s.toNat ++ (tgBits d ++ (bits 8 q.toNat))))) [t1, t2] es) = some (.tup [], wH (.box (fr 4 s d q o c m e t u v x)) (bs ++ (bits 3 4 ++ (bits 5 s.toNat ++ (tgBits d ++ (bits 8 q.toNat ++ (bits 8 o.toNat)))))) [t1, t2] (es ++ ek (bs ++ (bits 3 4 ++ (bits 5 s.toNat ++ (tgBits d ++ (bits 8 q.toNat))))) 8)) := fun t1 t2 es => by
    have := s61a (n + 2) (fr 4 s d q o c m e t u v x) t1 t2 es (bs ++ (bits 3 4 ++ (bits 5 s.toNat ++ (tgBits d ++ (bits 8 q.toNat))))) 8 o.toNat 4 (show (fr 4 s d q o c m e t u v x)[4]? = _ by rw [Int.toNat_of_nonneg ho.1]; rfl) (by omega) (by omega) (by omega) (by have := tgLe d; rw [l3]; omega)
    try simp only [List.append_assoc] at this
    exact this
  have l4 : (bs ++ (bits 3 4 ++ (bits 5 s.toNat ++ (tgBits d ++ (bits 8 q.toNat ++ (bits 8 o.toNat)))))).length = bs.length + (24 + tgLen d) := by simp only [List.length_append, bits_len, tgLen_eq] <;> omega
  have hb1 : ∀ t1 t2 es, call1 T (n + 6) (.fn 60) [pW, .ptr 0 0 0 0] (wH (.box (fr 4 s d q o c m e t u v x)) (bs ++ (bits 3 4 ++ (bits 5 s.toNat ++ (tgBits d ++ (bits 8 q.toNat ++ (bits 8 o.toNat)))))) [t1, t2] es) = some (.tup [], wX (.box (fr 4 s d q o c m e t u v x)) (bs ++ (bits 3 4 ++ (bits 5 s.toNat ++ (tgBits d ++ (bits 8 q.toNat ++ (bits 8 o.toNat)))))) [t1, t2] es) := fun t1 t2 es => by
    have := s60e n t1 t2 es (bs ++ (bits 3 4 ++ (bits 5 s.toNat ++ (tgBits d ++ (bits 8 q.toNat ++ (bits 8 o.toNat)))))) 4 s d q o c m e t u v x  hx (by have := tgLe d; rw [l4]; omega)
    try simp only [List.append_assoc] at this
    exact this
  simp only [c27, go_sem, Int.cast_ofNat_Int, Int.reduceToNat, Bool.true_xor, Bool.false_xor, Bool.xor_true, Bool.xor_false, Nat.reduceAdd, Nat.reduceBEq, Nat.reduceLeDiff, Nat.reduceLT, Nat.reduceMul, Nat.reduceSub, Int.reduceEq, Int.reduceLT, Int.reduceLE, Int.reduceNeg, h0, h1, h2, h3, h4, hb1, List.length_cons, List.length_nil, List.filter_replicate, List.all_replicate, List.filter_append, List.all_append, Bool.and_self, List.append_assoc, ite_self, if_true]
end
end Go.Sh
namespace Go.Sh
set_option linter.unusedSectionVars false
set_option linter.unnecessarySimpa false
set_option linter.unusedVariables false
set_option linter.unusedSimpArgs false
set_option maxRecDepth 100000
set_option maxHeartbeats 4000000
/-- The bits of a frame's part that hangs on its kind. -/
def bdBits (k c m e t u v : Int) (x : ByteArray) : List Bool :=
  bif decide (k = 1) then bits 8 c.toNat ++ (bits 16 m.toNat ++ (bits 7 x.size ++ txB x x.size))
  else bif decide (k = 2) then bits 16 (sgN e)
  else bif decide (k = 3) then bits 27 t.toNat ++ (bits 16 u.toNat ++ (bits 16 v.toNat ++ (bits 7 x.size ++ txB x x.size)))
  else bits 7 x.size ++ txB x x.size
def enBits (k s d q o c m e t u v : Int) (x : ByteArray) : List Bool :=
  bits 3 k.toNat ++ (bits 5 s.toNat ++ (tgBits d ++ (bits 8 q.toNat ++ (bits 8 o.toNat ++ bdBits k c m e t u v x))))
def bdLen (k : Int) (x : ByteArray) : Nat :=
  bif decide (k = 1) then 24 + (7 + 8 * x.size) else bif decide (k = 2) then 16 else bif decide (k = 3) then 59 + (7 + 8 * x.size) else 7 + 8 * x.size
/-- What a frame's right code is. -/
def enV (k s d q o c m e t u v : Int) (x : ByteArray) : SV :=
  bif !chB k s d q o c m e t u v x then .tup [.str ⟨#[]⟩, .int .i64 1]
  else bif decide (127 < x.size) || decide (127 < (pkB (enBits k s d q o c m e t u v x)).size + 2) then .tup [.str ⟨#[]⟩, .int .i64 8]
  else .tup [.str (prot (pkB (enBits k s d q o c m e t u v x))), .int .i64 0]
theorem s26 (n : Nat) (es : List (Nat × Nat)) (b0 : SBlk) : call1 T (n + 1) (.kfn 26) [] ⟨[b0], es, 0⟩ = some (.ptr 1 0 0 0, ⟨[b0, .box [.lst 0 [] true, .int .i64 0, .int .i64 0]], es, 0⟩) := by
  refine kcall_in e26 ?_
  simp only [c26, go_sem, Int.cast_ofNat_Int, Int.reduceToNat, Bool.true_xor, Bool.false_xor, Bool.xor_true, Bool.xor_false, Nat.reduceAdd, Nat.reduceBEq, Nat.reduceLeDiff, Nat.reduceLT, Nat.reduceMul, Nat.reduceSub, Int.reduceEq, Int.reduceLT, Int.reduceLE, Int.reduceNeg]
theorem chB_k {k s d q o c m e t u v : Int} {x : ByteArray} (h : chB k s d q o c m e t u v x = true) :
    (0 ≤ s ∧ s ≤ 31) ∧ d < 32 ∧ (d < 0 → d = -1) ∧ (0 ≤ q ∧ q ≤ 255) ∧ (0 ≤ o ∧ o ≤ 255) ∧
      ((k = 1 ∧ (0 ≤ c ∧ c ≤ 255) ∧ (0 ≤ m ∧ m ≤ 65535)) ∨ (k = 2 ∧ (-32768 ≤ e ∧ e ≤ 32767) ∧ x = ⟨#[]⟩) ∨ (k = 3 ∧ (0 ≤ t ∧ t ≤ 109951162) ∧ (0 ≤ u ∧ u ≤ 65535) ∧ (0 ≤ v ∧ v ≤ 65535)) ∨ k = 4) := by
  unfold chB tgB at h
  simp only [inB, erB, Bool.and_eq_true, decide_eq_true_eq] at h
  obtain ⟨h1, hs, hq, ho⟩ := h
  by_cases k1 : k = 1
  · rw [decide_eq_true k1] at h1
    simp only [cond_true, Bool.and_eq_true, decide_eq_true_eq, Bool.not_eq_true', decide_eq_false_iff_not] at h1
    exact ⟨hs, by omega, by omega, hq, ho, .inl ⟨k1, h1.1.1.2, h1.1.2⟩⟩
  · rw [decide_eq_false k1] at h1
    by_cases k2 : k = 2
    · rw [decide_eq_true k2] at h1
      simp only [cond_true, cond_false, Bool.and_eq_true, decide_eq_true_eq, Bool.not_eq_true', decide_eq_false_iff_not] at h1
      exact ⟨hs, by omega, by omega, hq, ho, .inr (.inl ⟨k2, h1.1.2, h1.2.2.2.2.2.2⟩)⟩
    · rw [decide_eq_false k2] at h1
      by_cases k3 : k = 3
      · rw [decide_eq_true k3] at h1
        simp only [cond_true, cond_false, Bool.and_eq_true, decide_eq_true_eq, Bool.not_eq_true', decide_eq_false_iff_not] at h1
        exact ⟨hs, by omega, by omega, hq, ho, .inr (.inr (.inl ⟨k3, h1.1.1.1.2, h1.1.1.2, h1.1.2⟩))⟩
      · rw [decide_eq_false k3] at h1
        by_cases k4 : k = 4
        · rw [decide_eq_true k4] at h1
          simp only [cond_true, cond_false, Bool.and_eq_true, Bool.or_eq_true, decide_eq_true_eq, Bool.not_eq_true', decide_eq_false_iff_not] at h1
          exact ⟨hs, by omega, by omega, hq, ho, .inr (.inr (.inr k4))⟩
        · rw [decide_eq_false k4] at h1
          simp at h1
end Go.Sh
namespace Go.Sh
set_option linter.unusedSectionVars false
set_option linter.unnecessarySimpa false
set_option linter.unusedVariables false
set_option linter.unusedSimpArgs false
set_option maxRecDepth 100000
set_option maxHeartbeats 4000000
section
variable {k s d q o c m e t u v : Int} {x : ByteArray}
theorem s27w (n : Nat) (es : List (Nat × Nat)) (h : chB k s d q o c m e t u v x = true) (hx : x.size ≤ 127) :
    ∃ es', call1 T (n + 7) (.fn 27) [pW, .ptr 0 0 0 0] (wH (.box (fr k s d q o c m e t u v x)) [] [] es) = some (.bool true, wH (.box (fr k s d q o c m e t u v x)) (enBits k s d q o c m e t u v x) [] es') := by
  obtain ⟨hs, hd, hd0, hq, ho, h⟩ := chB_k h
  rcases h with ⟨rfl, hc, hm⟩ | ⟨rfl, he, rfl⟩ | ⟨rfl, ht, hu, hv⟩ | rfl
  · exact ⟨_, s27_1 n es [] s d q o c m e t u v x hs hd hd0 hq ho hc hm hx (by simp)⟩
  · exact ⟨_, s27_2 n es [] s d q o c m e t u v _ hs hd hd0 hq ho he (by simp)⟩
  · exact ⟨_, s27_3 n es [] s d q o c m e t u v x hs hd hd0 hq ho ht hu hv hx (by simp)⟩
  · exact ⟨_, s27_4 n es [] s d q o c m e t u v x hs hd hd0 hq ho hx (by simp)⟩
theorem s27x (n : Nat) (es : List (Nat × Nat)) (h : chB k s d q o c m e t u v x = true) (hx : 127 < x.size) :
    ∃ bs' es', call1 T (n + 7) (.fn 27) [pW, .ptr 0 0 0 0] (wH (.box (fr k s d q o c m e t u v x)) [] [] es) = some (.bool true, wX (.box (fr k s d q o c m e t u v x)) bs' [] es') := by
  obtain ⟨hs, hd, hd0, hq, ho, h⟩ := chB_k h
  rcases h with ⟨rfl, hc, hm⟩ | ⟨rfl, he, rfl⟩ | ⟨rfl, ht, hu, hv⟩ | rfl
  · exact s27e_1 n es [] s d q o c m e t u v x hs hd hd0 hq ho hc hm hx (by simp)
  · exact absurd hx (by decide)
  · exact s27e_3 n es [] s d q o c m e t u v x hs hd hd0 hq ho ht hu hv hx (by simp)
  · exact s27e_4 n es [] s d q o c m e t u v x hs hd hd0 hq ho hx (by simp)
end
theorem s11 (n : Nat) (H : Heap) (k s d q o c m e t u v : Int) (x : ByteArray) (hX : x.size ≤ 10000) : call1 T (n + 8) (.fn 11) [.agg (fr k s d q o c m e t u v x)] H = some (enV k s d q o c m e t u v x, H) := by
  refine call_pure e11 (by rfl) ?_
  have h17 := fun H => s17 (n + 3) H k s d q o c m e t u v x
  unfold enV
  cases hch : chB k s d q o c m e t u v x with
  | false =>
    rw [hch] at h17
    simp only [c11, heap0, go_sem, Int.cast_ofNat_Int, Int.reduceToNat, Bool.true_xor, Bool.false_xor, Bool.xor_true, Bool.xor_false, Nat.reduceAdd, Nat.reduceBEq, Nat.reduceLeDiff, Nat.reduceLT, Nat.reduceMul, Nat.reduceSub, Int.reduceEq, Int.reduceLT, Int.reduceLE, Int.reduceNeg, h17]
  | true =>
    rw [hch] at h17
    have h26 := fun es b0 => s26 (n + 6) es b0
    rcases Nat.lt_or_ge 127 x.size with hx | hx
    · obtain ⟨bs', es', h27⟩ := s27x n [(1, 3)] hch hx
      have h27 : call1 T (n + 7) (.fn 27) [.agg [.ptr 1 0 0 0, .nilPtr], .ptr 0 0 0 0] ⟨[.box (fr k s d q o c m e t u v x), .box [.slc 2 0 0 0, .int .i64 0, .int .i64 0], .arr 0 1 [] false], [(1, 3)], 0⟩ = _ := h27
      have h28 := s28e (.box (fr k s d q o c m e t u v x)) [] es' bs' (n + 6)
      have hd : decide (127 < x.size) = true := decide_eq_true hx
      simp only [c11, heap0, go_sem, Int.cast_ofNat_Int, Int.reduceToNat, Bool.true_xor, Bool.false_xor, Bool.xor_true, Bool.xor_false, Nat.reduceAdd, Nat.reduceBEq, Nat.reduceLeDiff, Nat.reduceLT, Nat.reduceMul, Nat.reduceSub, Int.reduceEq, Int.reduceLT, Int.reduceLE, Int.reduceNeg, h17, h26, h27, h28, hd, Nat.reduceMod, Nat.reduceDiv]
    · obtain ⟨es', h27⟩ := s27w n [(1, 3)] hch hx
      have h27 : call1 T (n + 7) (.fn 27) [.agg [.ptr 1 0 0 0, .nilPtr], .ptr 0 0 0 0] ⟨[.box (fr k s d q o c m e t u v x), .box [.slc 2 0 0 0, .int .i64 0, .int .i64 0], .arr 0 1 [] false], [(1, 3)], 0⟩ = _ := h27
      have h28 := s28 (n + 6) (.box (fr k s d q o c m e t u v x)) [] es' (enBits k s d q o c m e t u v x)
      obtain ⟨P, hP⟩ : ∃ P, pkB (enBits k s d q o c m e t u v x) = P := ⟨_, rfl⟩
      rw [hP] at h28 ⊢
      have hd : decide (127 < x.size) = false := decide_eq_false (by omega)
      have hs : P.size ≤ 1000 := by
        rw [← hP, pkB_size]
        have hl : (enBits k s d q o c m e t u v x).length ≤ 2000 := by
          have := tgLe d
          unfold enBits bdBits
          simp only [List.length_append, bits_len, tgLen_eq]
          cases decide (k = 1) <;> cases decide (k = 2) <;> cases decide (k = 3) <;> simp only [cond_true, cond_false, List.length_append, bits_len, txB_len] <;> omega
        unfold nb; omega
      have h25 := fun H => s25 (n + 1) H P hs
      have hw : w64 ((P.size : Int) + 2) = (P.size : Int) + 2 := w64_id (by omega) (by omega)
      cases hp : decide (127 < P.size + 2) with
      | false =>
        have hp2 : decide ((127 : Int) < (P.size : Int) + 2) = false := by simp only [decide_eq_false_iff_not] at hp ⊢; omega
        simp only [c11, heap0, go_sem, Int.cast_ofNat_Int, Int.reduceToNat, Bool.true_xor, Bool.false_xor, Bool.xor_true, Bool.xor_false, Nat.reduceAdd, Nat.reduceBEq, Nat.reduceLeDiff, Nat.reduceLT, Nat.reduceMul, Nat.reduceSub, Int.reduceEq, Int.reduceLT, Int.reduceLE, Int.reduceNeg, h17, h26, h27, h28, hd, hw, hp2, h25, Nat.reduceMod, Nat.reduceDiv]
      | true =>
        have hp2 : decide ((127 : Int) < (P.size : Int) + 2) = true := by simp only [decide_eq_true_eq] at hp ⊢; omega
        simp only [c11, heap0, go_sem, Int.cast_ofNat_Int, Int.reduceToNat, Bool.true_xor, Bool.false_xor, Bool.xor_true, Bool.xor_false, Nat.reduceAdd, Nat.reduceBEq, Nat.reduceLeDiff, Nat.reduceLT, Nat.reduceMul, Nat.reduceSub, Int.reduceEq, Int.reduceLT, Int.reduceLE, Int.reduceNeg, h17, h26, h27, h28, hd, hw, hp2, h25, Nat.reduceMod, Nat.reduceDiv]
end Go.Sh
namespace Go.Sh
set_option linter.unusedSectionVars false
set_option linter.unnecessarySimpa false
set_option linter.unusedVariables false
set_option linter.unusedSimpArgs false
set_option maxRecDepth 100000
set_option maxHeartbeats 4000000
section
variable (k s d q o c m e t u v : Int) (x : ByteArray)
/-- Whether a frame can be written; the size of what is written. -/
def okV : Bool := chB k s d q o c m e t u v x && !(decide (127 < x.size) || decide (127 < (pkB (enBits k s d q o c m e t u v x)).size + 2))
def erV : Int := bif !chB k s d q o c m e t u v x then 1 else 8
def szV : Nat := (pkB (enBits k s d q o c m e t u v x)).size + 2
theorem enV_ok (h : okV k s d q o c m e t u v x = true) : enV k s d q o c m e t u v x = .tup [.str (prot (pkB (enBits k s d q o c m e t u v x))), .int .i64 0] := by
  unfold okV at h
  rw [Bool.and_eq_true, Bool.not_eq_true'] at h
  unfold enV
  rw [h.1, h.2]
  rfl
theorem enV_no (h : okV k s d q o c m e t u v x = false) : enV k s d q o c m e t u v x = .tup [.str ⟨#[]⟩, .int .i64 (erV k s d q o c m e t u v x)] := by
  unfold okV at h
  unfold enV erV
  cases hc : chB k s d q o c m e t u v x with
  | false => rfl
  | true =>
    rw [hc] at h
    simp only [Bool.true_and, Bool.not_eq_false'] at h
    rw [h]; rfl
theorem erV_ne : decide (erV k s d q o c m e t u v x = 0) = false := by
  unfold erV; cases chB k s d q o c m e t u v x <;> rfl
theorem szV_ok (h : okV k s d q o c m e t u v x = true) : szV k s d q o c m e t u v x ≤ 127 := by
  unfold okV at h
  unfold szV
  simp only [Bool.and_eq_true, Bool.not_eq_true', Bool.or_eq_false_iff, decide_eq_false_iff_not] at h
  omega
def tiV : SV := bif okV k s d q o c m e t u v x then .tup [.int .i64 (32 * ((bif decide (k = 2) then 20 else (szV k s d q o c m e t u v x : Int)) + 6)), .int .i64 0] else .tup [.int .i64 0, .int .i64 (erV k s d q o c m e t u v x)]
theorem s13 (n : Nat) (H : Heap) (hX : x.size ≤ 10000) : call1 T (n + 9) (.fn 13) [.agg (fr k s d q o c m e t u v x)] H = some (tiV k s d q o c m e t u v x, H) := by
  refine call_pure e13 (by rfl) ?_
  have h11 := fun H => s11 n H k s d q o c m e t u v x hX
  unfold tiV
  cases hk : okV k s d q o c m e t u v x with
  | false =>
    rw [enV_no _ _ _ _ _ _ _ _ _ _ _ _ hk] at h11
    have hn := erV_ne k s d q o c m e t u v x
    simp only [c13, heap0, go_sem, Int.cast_ofNat_Int, Int.reduceToNat, Bool.true_xor, Bool.false_xor, Bool.xor_true, Bool.xor_false, Nat.reduceAdd, Nat.reduceBEq, Nat.reduceLeDiff, Nat.reduceLT, Nat.reduceMul, Nat.reduceSub, Int.reduceEq, Int.reduceLT, Int.reduceLE, Int.reduceNeg, h11, hn]
  | true =>
    have hz := szV_ok _ _ _ _ _ _ _ _ _ _ _ _ hk
    rw [enV_ok _ _ _ _ _ _ _ _ _ _ _ _ hk] at h11
    have hp : (prot (pkB (enBits k s d q o c m e t u v x))).size = szV k s d q o c m e t u v x := prot_size _
    obtain ⟨z, hzd⟩ : ∃ z, szV k s d q o c m e t u v x = z := ⟨_, rfl⟩
    rw [hzd] at hz hp ⊢
    have w1 : w64 ((z : Int) + 6) = (z : Int) + 6 := w64_id (by omega) (by omega)
    have w2 : w64 (32 * ((z : Int) + 6)) = 32 * ((z : Int) + 6) := w64_id (by omega) (by omega)
    have w3 : w64 (20 + 6) = 26 := by decide
    have w4 : w64 (32 * 26) = 832 := by decide
    cases h2 : decide (k = 2) <;> simp only [c13, heap0, go_sem, Int.cast_ofNat_Int, Int.reduceToNat, Bool.true_xor, Bool.false_xor, Bool.xor_true, Bool.xor_false, Nat.reduceAdd, Nat.reduceBEq, Nat.reduceLeDiff, Nat.reduceLT, Nat.reduceMul, Nat.reduceSub, Int.reduceEq, Int.reduceLT, Int.reduceLE, Int.reduceNeg, h11, hp, h2, w1, w2, w3, w4]
    rfl
def roV : SV := bif decide (k = 2) then .tup [.int .i64 0, .int .i64 1] else bif okV k s d q o c m e t u v x then .tup [.int .i64 (127 - (szV k s d q o c m e t u v x : Int)), .int .i64 0] else .tup [.int .i64 0, .int .i64 (erV k s d q o c m e t u v x)]
theorem s15 (n : Nat) (H : Heap) (hX : x.size ≤ 10000) : call1 T (n + 9) (.fn 15) [.agg (fr k s d q o c m e t u v x)] H = some (roV k s d q o c m e t u v x, H) := by
  refine call_pure e15 (by rfl) ?_
  have h11 := fun H => s11 n H k s d q o c m e t u v x hX
  unfold roV
  cases h2 : decide (k = 2) with
  | true => simp only [c15, heap0, go_sem, Int.cast_ofNat_Int, Int.reduceToNat, Bool.true_xor, Bool.false_xor, Bool.xor_true, Bool.xor_false, Nat.reduceAdd, Nat.reduceBEq, Nat.reduceLeDiff, Nat.reduceLT, Nat.reduceMul, Nat.reduceSub, Int.reduceEq, Int.reduceLT, Int.reduceLE, Int.reduceNeg, h2]
  | false =>
    cases hk : okV k s d q o c m e t u v x with
    | false =>
      rw [enV_no _ _ _ _ _ _ _ _ _ _ _ _ hk] at h11
      have hn := erV_ne k s d q o c m e t u v x
      simp only [c15, heap0, go_sem, Int.cast_ofNat_Int, Int.reduceToNat, Bool.true_xor, Bool.false_xor, Bool.xor_true, Bool.xor_false, Nat.reduceAdd, Nat.reduceBEq, Nat.reduceLeDiff, Nat.reduceLT, Nat.reduceMul, Nat.reduceSub, Int.reduceEq, Int.reduceLT, Int.reduceLE, Int.reduceNeg, h11, hn, h2]
    | true =>
      have hz := szV_ok _ _ _ _ _ _ _ _ _ _ _ _ hk
      rw [enV_ok _ _ _ _ _ _ _ _ _ _ _ _ hk] at h11
      have hp : (prot (pkB (enBits k s d q o c m e t u v x))).size = szV k s d q o c m e t u v x := prot_size _
      obtain ⟨z, hzd⟩ : ∃ z, szV k s d q o c m e t u v x = z := ⟨_, rfl⟩
      rw [hzd] at hz hp ⊢
      have w1 : w64 (127 - (z : Int)) = 127 - (z : Int) := w64_id (by omega) (by omega)
      simp only [c15, heap0, go_sem, Int.cast_ofNat_Int, Int.reduceToNat, Bool.true_xor, Bool.false_xor, Bool.xor_true, Bool.xor_false, Nat.reduceAdd, Nat.reduceBEq, Nat.reduceLeDiff, Nat.reduceLT, Nat.reduceMul, Nat.reduceSub, Int.reduceEq, Int.reduceLT, Int.reduceLE, Int.reduceNeg, h11, hp, h2, w1]
def akV (a b : Int) : SV :=
  bif !chB k s d q o c m e t u v x || (!decide (k = 1) && !decide (k = 4)) || decide (d = -1) then .tup [.agg (fr 0 0 0 0 0 0 0 0 0 0 0 ⟨#[]⟩), .int .i64 1]
  else bif !inB a 255 || !erB b then .tup [.agg (fr 0 0 0 0 0 0 0 0 0 0 0 ⟨#[]⟩), .int .i64 2]
  else .tup [.agg (fr 2 d s a o 0 0 b 0 0 0 ⟨#[]⟩), .int .i64 0]
theorem s19 (n : Nat) (H : Heap) (a b : Int) : call1 T (n + 5) (.fn 19) [.agg (fr k s d q o c m e t u v x), .int .i64 a, .int .i64 b] H = some (akV k s d q o c m e t u v x a b, H) := by
  refine call_pure e19 (by rfl) ?_
  have h17 := fun H => s17 n H k s d q o c m e t u v x
  unfold akV
  cases h1 : chB k s d q o c m e t u v x with
  | false =>
    rw [h1] at h17
    simp only [c19, heap0, go_sem, Int.cast_ofNat_Int, Int.reduceToNat, Bool.true_xor, Bool.false_xor, Bool.xor_true, Bool.xor_false, Nat.reduceAdd, Nat.reduceBEq, Nat.reduceLeDiff, Nat.reduceLT, Nat.reduceMul, Nat.reduceSub, Int.reduceEq, Int.reduceLT, Int.reduceLE, Int.reduceNeg, h17]
  | true =>
    rw [h1] at h17
    cases h2 : decide (k = 1) <;> cases h3 : decide (k = 4) <;> cases h4 : decide (d = -1) <;> cases h5 : inB a 255 <;> cases h6 : erB b <;> simp only [c19, heap0, go_sem, Int.cast_ofNat_Int, Int.reduceToNat, Bool.true_xor, Bool.false_xor, Bool.xor_true, Bool.xor_false, Nat.reduceAdd, Nat.reduceBEq, Nat.reduceLeDiff, Nat.reduceLT, Nat.reduceMul, Nat.reduceSub, Int.reduceEq, Int.reduceLT, Int.reduceLE, Int.reduceNeg, h17, s37, s39, h2, h3, h4, h5, h6]
def foB (p : Int) : Bool := chB k s d q o c m e t u v x && (inB p 31 && (decide (d = p) || (decide (d = -1) && !decide (s = p))))
theorem s21 (n : Nat) (H : Heap) (p : Int) : call1 T (n + 5) (.fn 21) [.agg (fr k s d q o c m e t u v x), .int .i64 p] H = some (.bool (foB k s d q o c m e t u v x p), H) := by
  refine call_pure e21 (by rfl) ?_
  have h17 := fun H => s17 n H k s d q o c m e t u v x
  unfold foB
  cases h1 : chB k s d q o c m e t u v x with
  | false =>
    rw [h1] at h17
    simp only [c21, heap0, go_sem, Int.cast_ofNat_Int, Int.reduceToNat, Bool.true_xor, Bool.false_xor, Bool.xor_true, Bool.xor_false, Nat.reduceAdd, Nat.reduceBEq, Nat.reduceLeDiff, Nat.reduceLT, Nat.reduceMul, Nat.reduceSub, Int.reduceEq, Int.reduceLT, Int.reduceLE, Int.reduceNeg, h17]
  | true =>
    rw [h1] at h17
    cases h2 : inB p 31 <;> cases h3 : decide (d = p) <;> cases h4 : decide (d = -1) <;> simp only [c21, heap0, go_sem, Int.cast_ofNat_Int, Int.reduceToNat, Bool.true_xor, Bool.false_xor, Bool.xor_true, Bool.xor_false, Nat.reduceAdd, Nat.reduceBEq, Nat.reduceLeDiff, Nat.reduceLT, Nat.reduceMul, Nat.reduceSub, Int.reduceEq, Int.reduceLT, Int.reduceLE, Int.reduceNeg, h17, s37, h2, h3, h4]
end
end Go.Sh
namespace Go.Sh
set_option linter.unusedSectionVars false
set_option linter.unnecessarySimpa false
set_option linter.unusedVariables false
set_option linter.unusedSimpArgs false
set_option maxRecDepth 100000
set_option maxHeartbeats 4000000
theorem dself {A : Type} [DecidableEq A] (a : A) : decide (a = a) = true := decide_eq_true rfl
theorem chB_d {k s d q o c m e t u v : Int} {x : ByteArray} (h : chB k s d q o c m e t u v x = true) (hk : k = 1 ∨ k = 4) (hd : d ≠ -1) : 0 ≤ d ∧ d ≤ 31 ∧ d ≠ s := by
  unfold chB tgB at h
  simp only [inB, erB, Bool.and_eq_true, decide_eq_true_eq] at h
  obtain ⟨h1, hs, hq, ho⟩ := h
  rcases hk with rfl | rfl
  · simp [Int.reduceEq] at h1
    exact ⟨h1.1.1.1.1.1, h1.1.1.1.1.2, h1.1.1.1.2⟩
  · simp [Int.reduceEq] at h1
    rcases h1.1 with h1 | h1
    · exact absurd h1 hd
    · exact ⟨h1.1.1, h1.1.2, h1.2⟩
theorem ack_ok {k s d q o c m e t u v a b : Int} {x : ByteArray} (h : chB k s d q o c m e t u v x = true) (hk : k = 1 ∨ k = 4) (hd : d ≠ -1) (ha : inB a 255 = true) (hb : erB b = true) :
    chB 2 d s a o 0 0 b 0 0 0 ⟨#[]⟩ = true := by
  obtain ⟨d0, d1, d2⟩ := chB_d h hk hd
  obtain ⟨hs, _, _, hq, ho, _⟩ := chB_k h
  unfold chB tgB
  rw [ha, hb, show inB s 31 = true by simp [inB]; omega, show inB d 31 = true by simp [inB]; omega, show inB o 255 = true by simp [inB]; omega, decide_eq_false (show ¬ s = d by omega)]
  rfl
theorem ack_sz {s d a o b : Int} (h0 : 0 ≤ s) : szV 2 d s a o 0 0 b 0 0 0 ⟨#[]⟩ = 8 := by
  have hd : decide (0 ≤ s) = true := decide_eq_true h0
  have e1 : decide ((2 : Int) = 1) = false := rfl
  have e2 : decide ((2 : Int) = 2) = true := rfl
  unfold szV enBits bdBits
  rw [pkB_size, e1, e2]
  simp only [List.length_append, bits_len, tgLen_eq, tgLen, hd, cond_true, cond_false]
  rfl
theorem ack_okV {k s d q o c m e t u v a b : Int} {x : ByteArray} (h : chB k s d q o c m e t u v x = true) (hk : k = 1 ∨ k = 4) (hd : d ≠ -1) (ha : inB a 255 = true) (hb : erB b = true) :
    okV 2 d s a o 0 0 b 0 0 0 ⟨#[]⟩ = true := by
  obtain ⟨hs, _⟩ := chB_k h
  have hz := ack_sz (s := s) (d := d) (a := a) (o := o) (b := b) hs.1
  unfold szV at hz
  unfold okV
  rw [ack_ok h hk hd ha hb, hz]
  rfl
section
variable (k s d q o c m e t u v : Int) (x : ByteArray)
theorem s20 (n : Nat) (H : Heap) (a b : Int) (hc : chB k s d q o c m e t u v x = true) (hk : k = 1 ∨ k = 4) (hd : d ≠ -1) (ha : inB a 255 = true) (hb : erB b = true) :
    call1 T (n + 6) (.fn 20) [.agg (fr k s d q o c m e t u v x), .agg (fr 2 d s a o 0 0 b 0 0 0 ⟨#[]⟩)] H = some (.bool true, H) := by
  refine call_pure e20 (by rfl) ?_
  have h19 : ∀ H, call1 T (n + 5) (.fn 19) [.agg (fr k s d q o c m e t u v x), .int .i64 a, .int .i64 b] H = some (.tup [.agg (fr 2 d s a o 0 0 b 0 0 0 ⟨#[]⟩), .int .i64 0], H) := fun H => by
    have hk' : (!decide (k = 1) && !decide (k = 4)) = false := by rcases hk with rfl | rfl <;> rfl
    rw [s19 k s d q o c m e t u v x n H a b]
    unfold akV
    rw [hc, hk', decide_eq_false hd, ha, hb]
    rfl
  have h17 := fun H => s17 (n + 1) H 2 d s a o 0 0 b 0 0 0 ⟨#[]⟩
  rw [ack_ok hc hk hd ha hb] at h17
  simp only [c20, heap0, go_sem, Int.cast_ofNat_Int, Int.reduceToNat, Bool.true_xor, Bool.false_xor, Bool.xor_true, Bool.xor_false, Nat.reduceAdd, Nat.reduceBEq, Nat.reduceLeDiff, Nat.reduceLT, Nat.reduceMul, Nat.reduceSub, Int.reduceEq, Int.reduceLT, Int.reduceLE, Int.reduceNeg, h19, h17, dself]
end
/-- What the law says of a frame that can be written. -/
theorem s4 (k s d q o c m e t u v a b : Int) (x : ByteArray) : call1 T 41 (.fn 4) [.agg (fr k s d q o c m e t u v x), .int .i64 a, .int .i64 b] heap0 = some (.bool true, heap0) := by
  refine call_pure e4 (by rfl) ?_
  cases hx : decide (300 < (x.size : Int)) with
  | true => simp only [c4, heap0, go_sem, Int.cast_ofNat_Int, Int.reduceToNat, Bool.true_xor, Bool.false_xor, Bool.xor_true, Bool.xor_false, Nat.reduceAdd, Nat.reduceBEq, Nat.reduceLeDiff, Nat.reduceLT, Nat.reduceMul, Nat.reduceSub, Int.reduceEq, Int.reduceLT, Int.reduceLE, Int.reduceNeg, s10, hx]
  | false =>
    have hX : x.size ≤ 10000 := by simp only [decide_eq_false_iff_not] at hx; omega
    have h13 := fun H => s13 k s d q o c m e t u v x 31 H hX
    unfold tiV at h13
    cases hk : okV k s d q o c m e t u v x with
    | false =>
      rw [hk] at h13
      have hn := erV_ne k s d q o c m e t u v x
      simp only [c4, heap0, go_sem, Int.cast_ofNat_Int, Int.reduceToNat, Bool.true_xor, Bool.false_xor, Bool.xor_true, Bool.xor_false, Nat.reduceAdd, Nat.reduceBEq, Nat.reduceLeDiff, Nat.reduceLT, Nat.reduceMul, Nat.reduceSub, Int.reduceEq, Int.reduceLT, Int.reduceLE, Int.reduceNeg, s10, hx, h13, hn]
    | true =>
      rw [hk] at h13
      have hz := szV_ok _ _ _ _ _ _ _ _ _ _ _ _ hk
      have hc : chB k s d q o c m e t u v x = true := by unfold okV at hk; rw [Bool.and_eq_true] at hk; exact hk.1
      obtain ⟨z, hzd⟩ : ∃ z : Int, (bif decide (k = 2) then 20 else (szV k s d q o c m e t u v x : Int)) = z := ⟨_, rfl⟩
      have hz1 : 0 ≤ z ∧ z ≤ 127 := by cases hk2 : decide (k = 2) <;> rw [hk2] at hzd <;> simp only [cond_true, cond_false] at hzd <;> omega
      rw [hzd] at h13
      have g1 : decide (32 * (z + 6) < 192) = false := decide_eq_false (by omega)
      have h19 := fun H => s19 k s d q o c m e t u v x 35 H a b
      unfold akV at h19
      rw [hc] at h19
      cases hA : ((!decide (k = 1) && !decide (k = 4)) || decide (d = -1)) with
      | true =>
        have hA' : ((!true) || (!decide (k = 1) && !decide (k = 4)) || decide (d = -1)) = true := by rw [Bool.not_true, Bool.false_or]; exact hA
        rw [hA'] at h19
        simp only [c4, heap0, go_sem, Int.cast_ofNat_Int, Int.reduceToNat, Bool.true_xor, Bool.false_xor, Bool.xor_true, Bool.xor_false, Nat.reduceAdd, Nat.reduceBEq, Nat.reduceLeDiff, Nat.reduceLT, Nat.reduceMul, Nat.reduceSub, Int.reduceEq, Int.reduceLT, Int.reduceLE, Int.reduceNeg, s10, hx, h13, h19, g1, dself]
      | false =>
        have hA' : ((!true) || (!decide (k = 1) && !decide (k = 4)) || decide (d = -1)) = false := by rw [Bool.not_true, Bool.false_or]; exact hA
        rw [hA'] at h19
        cases hB : (!inB a 255 || !erB b) with
        | true =>
          rw [hB] at h19
          simp only [c4, heap0, go_sem, Int.cast_ofNat_Int, Int.reduceToNat, Bool.true_xor, Bool.false_xor, Bool.xor_true, Bool.xor_false, Nat.reduceAdd, Nat.reduceBEq, Nat.reduceLeDiff, Nat.reduceLT, Nat.reduceMul, Nat.reduceSub, Int.reduceEq, Int.reduceLT, Int.reduceLE, Int.reduceNeg, s10, hx, h13, h19, g1, dself]
        | false =>
          rw [hB] at h19
          simp only [Bool.or_eq_false_iff, Bool.not_eq_false', decide_eq_false_iff_not] at hA hB
          have hk1 : k = 1 ∨ k = 4 := by
            have h1 := hA.1
            by_cases k1 : k = 1
            · exact .inl k1
            · by_cases k4 : k = 4
              · exact .inr k4
              · rw [decide_eq_false k1, decide_eq_false k4] at h1; cases h1
          have hks := hk1
          have hz2 := ack_okV hc hk1 hA.2 hB.1 hB.2
          have hca := ack_ok hc hk1 hA.2 hB.1 hB.2
          obtain ⟨hs, _⟩ := chB_k hc
          obtain ⟨d0, d1, d2⟩ := chB_d hc hk1 hA.2
          have h13a := fun H => s13 2 d s a o 0 0 b 0 0 0 ⟨#[]⟩ 31 H (by decide)
          unfold tiV at h13a
          rw [hz2] at h13a
          have h13b : ∀ H, call1 T 40 (.fn 13) [.agg (fr 2 d s a o 0 0 b 0 0 0 ⟨#[]⟩)] H = some (.tup [.int .i64 832, .int .i64 0], H) := fun H => h13a H
          have h20 := fun H => s20 k s d q o c m e t u v x 34 H a b hc hk1 hA.2 hB.1 hB.2
          have h21a := fun H => s21 2 d s a o 0 0 b 0 0 0 ⟨#[]⟩ 35 H s
          have h21b := fun H => s21 k s d q o c m e t u v x 35 H d
          unfold foB at h21a h21b
          rw [hca, show inB s 31 = true by simp [inB]; omega, decide_eq_true (show s = s from rfl)] at h21a
          rw [hc, show inB d 31 = true by simp [inB]; omega, decide_eq_true (show d = d from rfl)] at h21b
          have w1 : w64 (3220 + 32 * (z + 6)) = 3220 + 32 * (z + 6) := w64_id (by omega) (by omega)
          have w2 : w64 (3220 + 32 * (z + 6) + 1000) = 3220 + 32 * (z + 6) + 1000 := w64_id (by omega) (by omega)
          have w3 : w64 (3220 + 32 * (z + 6) + 1000 + 832) = 3220 + 32 * (z + 6) + 1000 + 832 := w64_id (by omega) (by omega)
          have g2 : decide (3220 + 32 * (z + 6) + 1000 + 832 < 10000) = true := decide_eq_true (by omega)
          simp only [c4, heap0, go_sem, Int.cast_ofNat_Int, Int.reduceToNat, Bool.true_xor, Bool.false_xor, Bool.xor_true, Bool.xor_false, Nat.reduceAdd, Nat.reduceBEq, Nat.reduceLeDiff, Nat.reduceLT, Nat.reduceMul, Nat.reduceSub, Int.reduceEq, Int.reduceLT, Int.reduceLE, Int.reduceNeg, s10, hx, h13, h19, g1, dself, h13b, h20, h21a, h21b, w1, w2, w3, g2]
abbrev frD : Bool × List DT := (true, [.int .i64, .int .i64, .int .i64, .int .i64, .int .i64, .int .i64, .int .i64, .int .i64, .int .i64, .int .i64, .int .i64, .str])
theorem fitsL_s {es : List DT} {cs : List SV} (h : FitsL (.str :: es) cs) : ∃ b r, cs = .str b :: r ∧ b.size ≤ maxLen ∧ FitsL es r := by
  obtain ⟨c, r, rfl, h1, h2⟩ := fitsL_cons h
  obtain ⟨n, rfl, hn⟩ := fits_str h1
  exact ⟨n, r, rfl, hn, h2⟩
theorem fr_of {y : SV} (h : FitsA frD y) : ∃ k s d q o c m e t u v x, y = .agg (fr k s d q o c m e t u v x) := by
  obtain ⟨cs, rfl, g⟩ := fitsA_agg h
  obtain ⟨a1, r, rfl, _, g⟩ := fitsL_i g
  obtain ⟨a2, r, rfl, _, g⟩ := fitsL_i g
  obtain ⟨a3, r, rfl, _, g⟩ := fitsL_i g
  obtain ⟨a4, r, rfl, _, g⟩ := fitsL_i g
  obtain ⟨a5, r, rfl, _, g⟩ := fitsL_i g
  obtain ⟨a6, r, rfl, _, g⟩ := fitsL_i g
  obtain ⟨a7, r, rfl, _, g⟩ := fitsL_i g
  obtain ⟨a8, r, rfl, _, g⟩ := fitsL_i g
  obtain ⟨a9, r, rfl, _, g⟩ := fitsL_i g
  obtain ⟨a10, r, rfl, _, g⟩ := fitsL_i g
  obtain ⟨a11, r, rfl, _, g⟩ := fitsL_i g
  obtain ⟨x, r, rfl, _, g⟩ := fitsL_s g
  obtain rfl := fitsL_nil' g
  exact ⟨a1, a2, a3, a4, a5, a6, a7, a8, a9, a10, a11, x, rfl⟩
theorem law4 (xs : List SV) (h : FitsAll [frD, (false, [.int .i64]), (false, [.int .i64])] xs) : ∃ m, call1 T m (.fn 4) xs heap0 = some (.bool true, heap0) := by
  obtain ⟨x1, r1, rfl, h1, h⟩ := fitsAll_cons h
  obtain ⟨x2, r2, rfl, h2, h⟩ := fitsAll_cons h
  obtain ⟨x3, r3, rfl, h3, h⟩ := fitsAll_cons h
  cases fitsAll_nil h
  obtain ⟨k, s, d, q, o, c, m, e, t, u, v, x, rfl⟩ := fr_of h1
  obtain ⟨a, rfl, _⟩ := fits_int (fitsA_one h2)
  obtain ⟨b, rfl, _⟩ := fits_int (fitsA_one h3)
  exact ⟨41, s4 k s d q o c m e t u v a b x⟩
end Go.Sh
namespace Go.Sh
set_option linter.unusedSectionVars false
set_option linter.unnecessarySimpa false
set_option linter.unusedVariables false
set_option linter.unusedSimpArgs false
set_option maxRecDepth 100000
set_option maxHeartbeats 4000000
theorem tgN (d : Int) : (tgBits d).length = tgLen d := tgLen_eq d
theorem enBits_len {k s d q o c m e t u v : Int} {x : ByteArray} (hk : ¬ k = 2) : ∃ a, ∀ x : ByteArray, (enBits k s d q o c m e t u v x).length = a + 8 * x.size := by
  by_cases h1 : k = 1
  · subst h1
    exact ⟨3 + (5 + (tgLen d + (8 + (8 + (8 + (16 + 7)))))), fun x => by unfold enBits bdBits; simp only [decide_true, cond_true, List.length_append, bits_len, tgLen_eq, txB_len]; omega⟩
  · by_cases h3 : k = 3
    · subst h3
      exact ⟨3 + (5 + (tgLen d + (8 + (8 + (27 + (16 + (16 + 7))))))), fun x => by unfold enBits bdBits; rw [decide_eq_false h1, decide_eq_false hk]; simp only [decide_true, cond_true, cond_false, List.length_append, bits_len, tgLen_eq, txB_len]; omega⟩
    · exact ⟨3 + (5 + (tgLen d + (8 + (8 + 7)))), fun x => by unfold enBits bdBits; rw [decide_eq_false h1, decide_eq_false hk, decide_eq_false h3]; simp only [cond_false, List.length_append, bits_len, tgLen_eq, txB_len]; omega⟩
theorem szV_add {k s d q o c m e t u v : Int} {x y : ByteArray} {r : Nat} (hk : ¬ k = 2) (hy : y.size = x.size + r) : szV k s d q o c m e t u v y = szV k s d q o c m e t u v x + r := by
  obtain ⟨a, ha⟩ := enBits_len (k := k) (s := s) (d := d) (q := q) (o := o) (c := c) (m := m) (e := e) (t := t) (u := u) (v := v) (x := x) hk
  unfold szV
  rw [pkB_size, pkB_size, ha, ha, hy]
  unfold nb; omega
theorem szV_ge {k s d q o c m e t u v : Int} {x : ByteArray} (hk : ¬ k = 2) : x.size + 2 ≤ szV k s d q o c m e t u v x := by
  obtain ⟨a, ha⟩ := enBits_len (k := k) (s := s) (d := d) (q := q) (o := o) (c := c) (m := m) (e := e) (t := t) (u := u) (v := v) (x := x) hk
  unfold szV
  rw [pkB_size, ha]
  unfold nb; omega
theorem chB_x {k s d q o c m e t u v : Int} {x : ByteArray} (y : ByteArray) (hk : ¬ k = 2) : chB k s d q o c m e t u v y = chB k s d q o c m e t u v x := by
  unfold chB; rw [decide_eq_false hk]; rfl
theorem okV_x {k s d q o c m e t u v : Int} {x y : ByteArray} {r : Nat} (hk : ¬ k = 2) (h : chB k s d q o c m e t u v x = true) (hy : y.size = x.size + r) : okV k s d q o c m e t u v y = decide (szV k s d q o c m e t u v x + r ≤ 127) := by
  have h1 := szV_add (s := s) (d := d) (q := q) (o := o) (c := c) (m := m) (e := e) (t := t) (u := u) (v := v) hk hy
  have h2 := szV_ge (s := s) (d := d) (q := q) (o := o) (c := c) (m := m) (e := e) (t := t) (u := u) (v := v) (x := y) hk
  have h4 : szV k s d q o c m e t u v y = (pkB (enBits k s d q o c m e t u v y)).size + 2 := rfl
  unfold okV
  rw [chB_x y hk, h, ← h1, h4, Bool.true_and]
  rw [h4] at h2
  generalize (pkB (enBits k s d q o c m e t u v y)).size = p at *
  by_cases h3 : 127 < p + 2
  · rw [decide_eq_true h3, decide_eq_false (show ¬ p + 2 ≤ 127 by omega), Bool.or_true]; rfl
  · rw [decide_eq_false h3, decide_eq_true (show p + 2 ≤ 127 by omega), decide_eq_false (show ¬ 127 < y.size by omega)]; rfl
/-- A letter, as often as there is room. -/
def xs (r : Nat) : ByteArray := ⟨(repL [120] r).toArray⟩
theorem repL_len (l : List UInt8) : ∀ n, (repL l n).length = n * l.length
  | 0 => by simp [repL]
  | n + 1 => by simp only [repL, List.length_append, repL_len l n]; rw [Nat.succ_mul, Nat.add_comm]
theorem xs_size (r : Nat) : (xs r).size = r := by simp [xs, ByteArray.size, repL_len]
theorem s24 (n : Nat) (H : Heap) (r : Nat) (h : r ≤ 127) : call1 T (n + 1) (.fn 24) [.str ⟨#[120]⟩, .int .i64 r] H = some (.str (xs r), H) := by
  refine call_pure e24 (by rfl) ?_
  have h1 : decide ((0 : Int) ≤ (r : Int)) = true := decide_eq_true (by omega)
  have h2 : decide ((r : Int) ≤ 1048576) = true := decide_eq_true (by omega)
  have h3 : decide ((#[120] : Array UInt8).size ≤ 1048576) = true := by rfl
  have h4 : (⟨#[120]⟩ : ByteArray).data.toList = [120] := by rfl
  simp only [c24, heap0, go_sem, Int.cast_ofNat_Int, Int.reduceToNat, Bool.true_xor, Bool.false_xor, Bool.xor_true, Bool.xor_false, Nat.reduceAdd, Nat.reduceBEq, Nat.reduceLeDiff, Nat.reduceLT, Nat.reduceMul, Nat.reduceSub, Int.reduceEq, Int.reduceLT, Int.reduceLE, Int.reduceNeg, extv_rep, List.map_cons, List.map_nil, h1, h2, h3, h4, xs, Int.toNat_natCast]
theorem s9 (k s d q o c m e t u v : Int) (x : ByteArray) : call1 T 41 (.fn 9) [.agg (fr k s d q o c m e t u v x)] heap0 = some (.bool true, heap0) := by
  refine call_pure e9 (by rfl) ?_
  cases hx : decide (300 < (x.size : Int)) with
  | true => simp only [c9, heap0, go_sem, Int.cast_ofNat_Int, Int.reduceToNat, Bool.true_xor, Bool.false_xor, Bool.xor_true, Bool.xor_false, Nat.reduceAdd, Nat.reduceBEq, Nat.reduceLeDiff, Nat.reduceLT, Nat.reduceMul, Nat.reduceSub, Int.reduceEq, Int.reduceLT, Int.reduceLE, Int.reduceNeg, s10, hx]
  | false =>
    have hX : x.size ≤ 300 := by simp only [decide_eq_false_iff_not] at hx; omega
    have h15 := fun H => s15 k s d q o c m e t u v x 31 H (by omega)
    unfold roV at h15
    cases hk2 : decide (k = 2) with
    | true =>
      rw [hk2] at h15
      simp only [c9, heap0, go_sem, Int.cast_ofNat_Int, Int.reduceToNat, Bool.true_xor, Bool.false_xor, Bool.xor_true, Bool.xor_false, Nat.reduceAdd, Nat.reduceBEq, Nat.reduceLeDiff, Nat.reduceLT, Nat.reduceMul, Nat.reduceSub, Int.reduceEq, Int.reduceLT, Int.reduceLE, Int.reduceNeg, s10, hx, h15]
    | false =>
      rw [hk2] at h15
      simp only [decide_eq_false_iff_not] at hk2
      cases hk : okV k s d q o c m e t u v x with
      | false =>
        rw [hk] at h15
        have hn := erV_ne k s d q o c m e t u v x
        simp only [c9, heap0, go_sem, Int.cast_ofNat_Int, Int.reduceToNat, Bool.true_xor, Bool.false_xor, Bool.xor_true, Bool.xor_false, Nat.reduceAdd, Nat.reduceBEq, Nat.reduceLeDiff, Nat.reduceLT, Nat.reduceMul, Nat.reduceSub, Int.reduceEq, Int.reduceLT, Int.reduceLE, Int.reduceNeg, s10, hx, h15, hn]
      | true =>
        rw [hk] at h15
        have hz := szV_ok _ _ _ _ _ _ _ _ _ _ _ _ hk
        have hz2 := szV_ge (s := s) (d := d) (q := q) (o := o) (c := c) (m := m) (e := e) (t := t) (u := u) (v := v) (x := x) hk2
        have hc : chB k s d q o c m e t u v x = true := by unfold okV at hk; rw [Bool.and_eq_true] at hk; exact hk.1
        obtain ⟨r, hr⟩ : ∃ r : Nat, 127 = szV k s d q o c m e t u v x + r := Nat.exists_eq_add_of_le hz
        have hr2 : 127 - (szV k s d q o c m e t u v x : Int) = r := by omega
        rw [hr2] at h15
        have g1 : decide ((r : Int) < 0) = false := decide_eq_false (by omega)
        have g2 : decide ((127 : Int) < (r : Int)) = false := decide_eq_false (by omega)
        have h24 := fun H => s24 39 H r (by omega)
        have hy : (x ++ xs r).size = x.size + r := by rw [ByteArray.size_append, xs_size]
        have g3 : decide (x.size + (xs r).size ≤ 4611686018427387904) = true := decide_eq_true (by rw [xs_size]; omega)
        obtain ⟨y, hyd⟩ : ∃ y, x ++ xs r = y := ⟨_, rfl⟩
        rw [hyd] at hy
        have ok1 := okV_x (x := x) (y := y) (r := r) hk2 hc hy
        rw [decide_eq_true (show szV k s d q o c m e t u v x + r ≤ 127 by omega)] at ok1
        have hc1 : chB k s d q o c m e t u v y = true := by rw [chB_x (x := x) y hk2]; exact hc
        have sz1 := szV_add (x := x) (y := y) (r := r) (k := k) (s := s) (d := d) (q := q) (o := o) (c := c) (m := m) (e := e) (t := t) (u := u) (v := v) hk2 hy
        have h11 := fun H => s11 32 H k s d q o c m e t u v y (by omega)
        rw [enV_ok _ _ _ _ _ _ _ _ _ _ _ _ ok1] at h11
        have hp : (prot (pkB (enBits k s d q o c m e t u v y))).size = 127 := by
          have : (prot (pkB (enBits k s d q o c m e t u v y))).size = szV k s d q o c m e t u v y := prot_size _
          omega
        have h13 := fun H => s13 k s d q o c m e t u v y 31 H (by omega)
        unfold tiV at h13
        rw [ok1, decide_eq_false hk2, show (szV k s d q o c m e t u v y : Int) = 127 by omega] at h13
        have h13 : ∀ H, call1 T 40 (.fn 13) [.agg (fr k s d q o c m e t u v y)] H = some (.tup [.int .i64 4256, .int .i64 0], H) := h13
        have hy2 : (y ++ ⟨#[120]⟩).size = x.size + (r + 1) := by rw [ByteArray.size_append, hy]; rfl
        have g4 : decide (y.size + (#[120] : Array UInt8).size ≤ 4611686018427387904) = true := decide_eq_true (show y.size + 1 ≤ _ by omega)
        obtain ⟨y2, hyd2⟩ : ∃ y2, y ++ (⟨#[120]⟩ : ByteArray) = y2 := ⟨_, rfl⟩
        rw [hyd2] at hy2
        have ok2 := okV_x (x := x) (y := y2) (r := r + 1) hk2 hc hy2
        rw [decide_eq_false (show ¬ szV k s d q o c m e t u v x + (r + 1) ≤ 127 by omega)] at ok2
        have h11b := fun H => s11 32 H k s d q o c m e t u v y2 (by omega)
        rw [enV_no _ _ _ _ _ _ _ _ _ _ _ _ ok2] at h11b
        have he : erV k s d q o c m e t u v y2 = 8 := by unfold erV; rw [chB_x (x := x) y2 hk2, hc]; rfl
        rw [he] at h11b
        simp only [c9, heap0, go_sem, Int.cast_ofNat_Int, Int.reduceToNat, Bool.true_xor, Bool.false_xor, Bool.xor_true, Bool.xor_false, Nat.reduceAdd, Nat.reduceBEq, Nat.reduceLeDiff, Nat.reduceLT, Nat.reduceMul, Nat.reduceSub, Int.reduceEq, Int.reduceLT, Int.reduceLE, Int.reduceNeg, s10, hx, h15, g1, g2, h24, g3, hyd, h11, hp, h13, g4, hyd2, h11b]
theorem law9 (ys : List SV) (h : FitsAll [frD] ys) : ∃ m, call1 T m (.fn 9) ys heap0 = some (.bool true, heap0) := by
  obtain ⟨x1, r1, rfl, h1, h⟩ := fitsAll_cons h
  cases fitsAll_nil h
  obtain ⟨k, s, d, q, o, c, m, e, t, u, v, x, rfl⟩ := fr_of h1
  exact ⟨41, s9 k s d q o c m e t u v x⟩
end Go.Sh
namespace Go.Sh
set_option linter.unusedSectionVars false
set_option linter.unnecessarySimpa false
set_option linter.unusedVariables false
set_option linter.unusedSimpArgs false
set_option maxRecDepth 100000
set_option maxHeartbeats 4000000
/-- The rows of the reference's bits. -/
def b8S (bs : List Bool) : List (List SV) := bs.map fun b => [.int .u8 (bt b : Nat)]
@[go_sem] theorem b8S_len {bs : List Bool} : (b8S bs).length = bs.length := by simp [b8S]
@[go_sem] theorem b8S_get (bs : List Bool) (i : Nat) : (b8S bs)[i]? = (bs[i]?).map (fun b => [.int .u8 (bt b : Nat)]) := by simp [b8S]
theorem b8S_app (bs : List Bool) (b : Bool) : b8S bs ++ [[.int .u8 (bt b : Nat)]] = b8S (bs ++ [b]) := by simp [b8S]
abbrev rB (bs : List Bool) : SBlk := .box [.slc 2 bs.length 0 bs.length, .int .i64 0]
abbrev rA (bs : List Bool) : SBlk := .arr bs.length 1 (b8S bs) false
abbrev rH (b0 : SBlk) (bs : List Bool) (tl : List SBlk) (es : List (Nat × Nat)) : Heap := ⟨b0 :: rB bs :: rA bs :: tl, es, 0⟩
abbrev rk (w : Nat) : List (Nat × Nat) := List.replicate w (1, 3)
def andI (a b : Int) : Int := IntKind.wrap .i64 ((BitVec.ofInt 64 a &&& BitVec.ofInt 64 b).toNat)
@[go_sem high] theorem sb_and64 (a b : Int) : sbin .and (.int .i64 a) (.int .i64 b) = some (.int .i64 (andI a b)) := by
  simp only [sbin, beq_self_eq_true, cond_true]; rfl
theorem andI_one (a : Int) : andI a 1 = a % 2 := by
  unfold andI
  have h3 : (BitVec.ofInt 64 1).toNat = 1 := by decide
  rw [BitVec.toNat_and, h3, Nat.and_one_is_mod, BitVec.toNat_ofInt]
  have hw : IntKind.wrap .i64 (((a % (2 ^ 64 : Nat)).toNat % 2 : Nat) : Int) = (((a % (2 ^ 64 : Nat)).toNat % 2 : Nat) : Int) := w64_id (by omega) (by omega)
  rw [hw]
  omega
/-- Whether an integer's lowest bits are those of a number. -/
def BitsOf (w : Nat) (v' : Int) (v : Nat) : Prop := ∀ i, i < w → IntKind.u8.wrap (andI (v'.fdiv (2 ^ min i 64)) 1) = (bt (v.testBit i) : Nat)
theorem bitsOf_nat (w v : Nat) (hw : w ≤ 63) : BitsOf w (v : Int) v := by
  intro i hi
  rw [Nat.min_eq_left (by omega), fdiv_nat, andI_one, bt_bit]
  rw [wrap8 (by omega) (by omega)]
  rfl
theorem bitsOf_sg (x : Int) : BitsOf 16 x (sgN x) := by
  intro i hi
  have hp : (0 : Int) ≤ 2 ^ i := Int.pow_nonneg (by decide)
  rw [Nat.min_eq_left (by omega), andI_one, bt_bit, Int.fdiv_eq_ediv_of_nonneg _ hp]
  rw [wrap8 (by omega) (by omega)]
  unfold sgN
  have : i = 0 ∨ i = 1 ∨ i = 2 ∨ i = 3 ∨ i = 4 ∨ i = 5 ∨ i = 6 ∨ i = 7 ∨ i = 8 ∨ i = 9 ∨ i = 10 ∨ i = 11 ∨ i = 12 ∨ i = 13 ∨ i = 14 ∨ i = 15 := by omega
  rcases this with rfl | rfl | rfl | rfl | rfl | rfl | rfl | rfl | rfl | rfl | rfl | rfl | rfl | rfl | rfl | rfl <;> omega
section
variable (b0 : SBlk) (tl : List SBlk) (es : List (Nat × Nat)) (bs : List Bool)
theorem s63 (n : Nat) (w : Nat) (hb : bs.length + w ≤ 524288) : call1 T (n + 1) (.fn 63) [.ptr 1 0 0 0, .int .i64 w] (rH b0 bs tl es) = some (.bool true, rH b0 bs tl es) := by
  refine call_in e63 (by rfl) ?_
  have hs : w64 ((bs.length : Int) + w) = bs.length + w := w64_id (by omega) (by omega)
  have hx2 : decide ((524288 : Int) < (bs.length : Int) + w) = false := decide_eq_false (by omega)
  have l3 : decide (3 ≤ tl.length + 1 + 1 + 1) = true := decide_eq_true (by omega)
  simp only [c63, go_sem, Int.cast_ofNat_Int, Int.reduceToNat, Bool.true_xor, Bool.false_xor, Bool.xor_true, Bool.xor_false, Nat.reduceAdd, Nat.reduceBEq, Nat.reduceLeDiff, Nat.reduceLT, Nat.reduceMul, Nat.reduceSub, Int.reduceEq, Int.reduceLT, Int.reduceLE, Int.reduceNeg, hs, hx2, l3]
theorem s64 (n : Nat) (w v : Nat) (v' : Int) (hw : w ≤ 63) (hv : BitsOf w v' v) (hb : bs.length + w ≤ 600000) : call1 T (n + 1) (.fn 64) [.ptr 1 0 0 0, .int .i64 w, .int .i64 v'] (rH b0 bs tl es) = some (.tup [], rH b0 (bs ++ bits w v) tl (es ++ rk w)) := by
  refine call_in e64 (by rfl) ?_
  have hw1 : w64 ((w : Int) - 1) = (w : Int) - 1 := w64_id (by omega) (by omega)
  have hN : decide (max 2 0 ≤ tl.length + 1 + 1 + 1) = true := decide_eq_true (by omega)
  have l0 : decide (0 < tl.length + 1 + 1 + 1) = true := decide_eq_true (by omega)
  have l1 : decide (1 < tl.length + 1 + 1 + 1) = true := decide_eq_true (by omega)
  have l2 : decide (2 < tl.length + 1 + 1 + 1) = true := decide_eq_true (by omega)
  have l3' : decide (tl.length + 1 + 1 + 1 < 3) = false := decide_eq_false (by omega)
  have l3 : decide (3 ≤ tl.length + 1 + 1 + 1) = true := decide_eq_true (by omega)
  simp only [c64, go_sem, Int.cast_ofNat_Int, Int.reduceToNat, Bool.true_xor, Bool.false_xor, Bool.xor_true, Bool.xor_false, Nat.reduceAdd, Nat.reduceBEq, Nat.reduceLeDiff, Nat.reduceLT, Nat.reduceMul, Nat.reduceSub, Int.reduceEq, Int.reduceLT, Int.reduceLE, Int.reduceNeg]
  refine loop_rule (fun j => ([(0, .ptr 1 0 0 0), (2, .int .i64 v'), (6, .int .i64 ((w : Int) - 1 - (j : Int)))], ⟨b0 :: rB (bs ++ (bits w v).take j) :: rA (bs ++ (bits w v).take j) :: tl, rk j, 0⟩)) (fun _ => True) w ?_ trivial ?_
  · simp only [go_sem, Int.cast_ofNat_Int, Int.reduceToNat, Bool.true_xor, Bool.false_xor, Bool.xor_true, Bool.xor_false, Nat.reduceAdd, Nat.reduceBEq, Nat.reduceLeDiff, Nat.reduceLT, Nat.reduceMul, Nat.reduceSub, Int.reduceEq, Int.reduceLT, Int.reduceLE, Int.reduceNeg, hw1, List.take_zero, List.append_nil, Int.sub_zero, hN, Int.natCast_zero, Int.ofNat_zero]
    try rfl
  · intro j hj _
    rcases Nat.lt_or_ge j w with hlt | hge
    · have hx : decide ((0 : Int) ≤ (w : Int) - 1 - j) = true := decide_eq_true (by omega)
      have hs : w64 ((w : Int) - 1 - j - 1) = (w : Int) - 1 - (j + 1 : Nat) := by rw [w64_id (by omega) (by omega)]; omega
      have hB : (bs ++ (bits w v).take j).length = bs.length + j := by rw [List.length_append, List.length_take, bits_len]; omega
      have hB' : bs ++ (bits w v).take (j + 1) = (bs ++ (bits w v).take j) ++ [v.testBit (w - 1 - j)] := by rw [bits_take hlt, List.append_assoc]
      have hi : ((w : Int) - 1 - j).toNat = w - 1 - j := by omega
      have hE := hv (w - 1 - j) (by omega)
      obtain ⟨b, hb'⟩ : ∃ b, v.testBit (w - 1 - j) = b := ⟨_, rfl⟩
      obtain ⟨B, hBd⟩ : ∃ B, bs ++ (bits w v).take j = B := ⟨_, rfl⟩
      rw [hb', hBd] at hB'
      rw [hBd] at hB
      rw [hb'] at hE
      have hl1 : (B ++ [b]).length = B.length + 1 := by simp
      have gb := fun H => apB_grow 1 H 2 B.length B.length [[.int .u8 (bt b : Nat)]] (b8S B) b8S_len
      have hr : decide ((B.length + 1) * 1 ≤ mostLen) = true := decide_eq_true (Nat.le_trans (show (B.length + 1) * 1 ≤ 1000000 by omega) (by decide))
      have ha := b8S_app B b
      simp only [go_sem, Int.cast_ofNat_Int, Int.reduceToNat, Bool.true_xor, Bool.false_xor, Bool.xor_true, Bool.xor_false, Nat.reduceAdd, Nat.reduceBEq, Nat.reduceLeDiff, Nat.reduceLT, Nat.reduceMul, Nat.reduceSub, Int.reduceEq, Int.reduceLT, Int.reduceLE, Int.reduceNeg, hx, hi, hE, hBd, gb, hr, l0, l1, l2, l3, l3', hN, hs, hB', hl1, ha, List.replicate_succ, List.filter_replicate, List.all_replicate, ite_self, if_true]
      refine ⟨by first | trivial | omega, by simp only [rB, rA, hl1], trivial⟩
    · obtain rfl : j = w := by omega
      have hx : decide ((0 : Int) ≤ (j : Int) - 1 - j) = false := decide_eq_false (by omega)
      have ht : (bits j v).take j = bits j v := List.take_of_length_le (by rw [bits_len]; exact Nat.le_refl _)
      simp only [go_sem, Int.cast_ofNat_Int, Int.reduceToNat, Bool.true_xor, Bool.false_xor, Bool.xor_true, Bool.xor_false, Nat.reduceAdd, Nat.reduceBEq, Nat.reduceLeDiff, Nat.reduceLT, Nat.reduceMul, Nat.reduceSub, Int.reduceEq, Int.reduceLT, Int.reduceLE, Int.reduceNeg, hx, ht, hN, l0, l1, l2, l3, l3', List.filter_replicate, List.all_replicate, ite_self, if_true]
theorem s30 (n : Nat) (w v : Nat) (h1 : 1 ≤ w) (hw : w ≤ 62) (hv : v < 2 ^ w) (hb : bs.length + w ≤ 524288) : call1 T (n + 2) (.fn 30) [.ptr 1 0 0 0, .int .i64 w, .int .i64 v] (rH b0 bs tl es) = some (.tup [], rH b0 (bs ++ bits w v) tl (es ++ rk w)) := by
  refine call_in e30 (by rfl) ?_
  have h63 := fun es => s63 b0 tl es bs n w hb
  have h64 := fun es => s64 b0 tl es bs n w v v (by omega) (bitsOf_nat w v (by omega)) (by omega)
  have h62 : 2 ^ w ≤ 2 ^ 62 := Nat.pow_le_pow_right (by decide) hw
  have x1 : decide ((w : Int) < 1) = false := decide_eq_false (by omega)
  have x2 : decide ((63 : Int) < (w : Int)) = false := decide_eq_false (by omega)
  have x3 : decide ((v : Int) < 0) = false := decide_eq_false (by omega)
  have x4 : decide ((w : Int) < 63) = true := decide_eq_true (by omega)
  have x5 : w64 (1 * 2 ^ min w 64) = ((2 ^ w : Nat) : Int) := by
    rw [Nat.min_eq_left (by omega), show ((1 : Int) * 2 ^ w) = ((2 ^ w : Nat) : Int) by rw [Int.one_mul, Int.natCast_pow]; rfl]
    exact w64_id (by omega) (by omega)
  have x6 : decide ((((2 ^ w : Nat)) : Int) ≤ (v : Int)) = false := decide_eq_false (by omega)
  have x7 : decide ((0 : Int) ≤ (w : Int)) = true := decide_eq_true (by omega)
  have l0 : decide (0 < tl.length + 1 + 1 + 1) = true := decide_eq_true (by omega)
  have l1 : decide (1 < tl.length + 1 + 1 + 1) = true := decide_eq_true (by omega)
  have l2 : decide (2 < tl.length + 1 + 1 + 1) = true := decide_eq_true (by omega)
  have l3' : decide (tl.length + 1 + 1 + 1 < 3) = false := decide_eq_false (by omega)
  have l3 : decide (3 ≤ tl.length + 1 + 1 + 1) = true := decide_eq_true (by omega)
  simp only [c30, go_sem, Int.cast_ofNat_Int, Int.reduceToNat, Bool.true_xor, Bool.false_xor, Bool.xor_true, Bool.xor_false, Nat.reduceAdd, Nat.reduceBEq, Nat.reduceLeDiff, Nat.reduceLT, Nat.reduceMul, Nat.reduceSub, Int.reduceEq, Int.reduceLT, Int.reduceLE, Int.reduceNeg, h63, h64, x1, x2, x3, x4, x5, x6, Int.toNat_natCast, l0, l1, l2, l3, l3', List.filter_replicate, List.all_replicate, List.filter_append, List.all_append, Bool.and_self, ite_self, if_true, List.append_assoc]
theorem s31 (n : Nat) (f : Bool) (hb : bs.length + 1 ≤ 524288) : call1 T (n + 2) (.fn 31) [.ptr 1 0 0 0, .bool f] (rH b0 bs tl es) = some (.tup [], rH b0 (bs ++ bits 1 (bt f)) tl (es ++ rk 1)) := by
  refine call_in e31 (by rfl) ?_
  have h63 : ∀ es, call1 T (n + 1) (.fn 63) [.ptr 1 0 0 0, .int .i64 1] (rH b0 bs tl es) = some (.bool true, rH b0 bs tl es) := fun es => s63 b0 tl es bs n 1 hb
  have hl1 : ∀ b : Bool, (bs ++ [b]).length = bs.length + 1 := fun b => by simp
  have hr : decide ((bs.length + 1) * 1 ≤ mostLen) = true := decide_eq_true (Nat.le_trans (show (bs.length + 1) * 1 ≤ 1000000 by omega) (by decide))
  have hb1 : bits 1 1 = [true] := by rfl
  have hb0 : bits 1 0 = [false] := by rfl
  have l0 : decide (0 < tl.length + 1 + 1 + 1) = true := decide_eq_true (by omega)
  have l1 : decide (1 < tl.length + 1 + 1 + 1) = true := decide_eq_true (by omega)
  have l2 : decide (2 < tl.length + 1 + 1 + 1) = true := decide_eq_true (by omega)
  have l3' : decide (tl.length + 1 + 1 + 1 < 3) = false := decide_eq_false (by omega)
  have l3 : decide (3 ≤ tl.length + 1 + 1 + 1) = true := decide_eq_true (by omega)
  cases f with
  | true =>
    have gb := fun H => apB_grow 1 H 2 bs.length bs.length [[.int .u8 1]] (b8S bs) b8S_len
    have ha : b8S bs ++ [[SV.int .u8 1]] = b8S (bs ++ [true]) := b8S_app bs true
    simp only [c31, go_sem, Int.cast_ofNat_Int, Int.reduceToNat, Bool.true_xor, Bool.false_xor, Bool.xor_true, Bool.xor_false, Nat.reduceAdd, Nat.reduceBEq, Nat.reduceLeDiff, Nat.reduceLT, Nat.reduceMul, Nat.reduceSub, Int.reduceEq, Int.reduceLT, Int.reduceLE, Int.reduceNeg, h63, gb, hr, ha, bt, hb1, hl1, List.replicate_succ, List.replicate_zero, rH, rB, rA, l0, l1, l2, l3, l3', List.filter_replicate, List.all_replicate, List.filter_append, List.all_append, Bool.and_self, ite_self, if_true, List.append_assoc]
  | false =>
    have gb := fun H => apB_grow 1 H 2 bs.length bs.length [[.int .u8 0]] (b8S bs) b8S_len
    have ha : b8S bs ++ [[SV.int .u8 0]] = b8S (bs ++ [false]) := b8S_app bs false
    simp only [c31, go_sem, Int.cast_ofNat_Int, Int.reduceToNat, Bool.true_xor, Bool.false_xor, Bool.xor_true, Bool.xor_false, Nat.reduceAdd, Nat.reduceBEq, Nat.reduceLeDiff, Nat.reduceLT, Nat.reduceMul, Nat.reduceSub, Int.reduceEq, Int.reduceLT, Int.reduceLE, Int.reduceNeg, h63, gb, hr, ha, bt, hb0, hl1, List.replicate_succ, List.replicate_zero, rH, rB, rA, l0, l1, l2, l3, l3', List.filter_replicate, List.all_replicate, List.filter_append, List.all_append, Bool.and_self, ite_self, if_true, List.append_assoc]
theorem s32 (n : Nat) (x : Int) (h0 : -32768 ≤ x) (h1 : x ≤ 32767) (hb : bs.length + 16 ≤ 524288) : call1 T (n + 2) (.fn 32) [.ptr 1 0 0 0, .int .i64 16, .int .i64 x] (rH b0 bs tl es) = some (.tup [], rH b0 (bs ++ bits 16 (sgN x)) tl (es ++ rk 16)) := by
  refine call_in e32 (by rfl) ?_
  have h63 : ∀ es, call1 T (n + 1) (.fn 63) [.ptr 1 0 0 0, .int .i64 16] (rH b0 bs tl es) = some (.bool true, rH b0 bs tl es) := fun es => s63 b0 tl es bs n 16 hb
  have h64 : ∀ es, call1 T (n + 1) (.fn 64) [.ptr 1 0 0 0, .int .i64 16, .int .i64 x] (rH b0 bs tl es) = some (.tup [], rH b0 (bs ++ bits 16 (sgN x)) tl (es ++ rk 16)) := fun es => s64 b0 tl es bs n 16 (sgN x) x (by omega) (bitsOf_sg x) (by omega)
  have m2 : w64 (16 - 1) = 15 := by decide
  have m3 : w64 (1 * 2 ^ min 15 64) = 32768 := by decide
  have m4 : w64 (-32768) = -32768 := by decide
  have m5 : w64 (32768 - 1) = 32767 := by decide
  have m6 : w64 (0 - 32768) = -32768 := by decide
  have x1 : decide (x < -32768) = false := decide_eq_false (by omega)
  have x2 : decide (32767 < x) = false := decide_eq_false (by omega)
  have l0 : decide (0 < tl.length + 1 + 1 + 1) = true := decide_eq_true (by omega)
  have l1 : decide (1 < tl.length + 1 + 1 + 1) = true := decide_eq_true (by omega)
  have l2 : decide (2 < tl.length + 1 + 1 + 1) = true := decide_eq_true (by omega)
  have l3' : decide (tl.length + 1 + 1 + 1 < 3) = false := decide_eq_false (by omega)
  have l3 : decide (3 ≤ tl.length + 1 + 1 + 1) = true := decide_eq_true (by omega)
  simp only [c32, go_sem, Int.cast_ofNat_Int, Int.reduceToNat, Bool.true_xor, Bool.false_xor, Bool.xor_true, Bool.xor_false, Nat.reduceAdd, Nat.reduceBEq, Nat.reduceLeDiff, Nat.reduceLT, Nat.reduceMul, Nat.reduceSub, Int.reduceEq, Int.reduceLT, Int.reduceLE, Int.reduceNeg, h63, h64, m2, m3, m4, m5, m6, x1, x2, l0, l1, l2, l3, l3', List.filter_replicate, List.all_replicate, List.filter_append, List.all_append, Bool.and_self, ite_self, if_true, List.append_assoc]
end
theorem s65 (n : Nat) (H : Heap) : call1 T (n + 1) (.fn 65) [.int .i64 127] H = some (.int .i64 7, H) := pure_any e65 (by rfl) (callB_up (T := T) 100 (n + 1) (.fn 65) [.int .i64 127] heap0 (.int .i64 7, heap0) (by kernel_rfl))
end Go.Sh
namespace Go.Sh
set_option linter.unusedSectionVars false
set_option linter.unnecessarySimpa false
set_option linter.unusedVariables false
set_option linter.unusedSimpArgs false
set_option maxRecDepth 100000
set_option maxHeartbeats 4000000
section
variable (b0 : SBlk) (tl : List SBlk) (es : List (Nat × Nat)) (bs : List Bool)
theorem rk_add (a b : Nat) : rk a ++ rk b = rk (a + b) := List.replicate_append_replicate
theorem s33 (n : Nat) (x : ByteArray) (hx : x.size ≤ 127) (hb : bs.length ≤ 1000) :
    call1 T (n + 2) (.fn 33) [.ptr 1 0 0 0, .int .i64 127, .str x] (rH b0 bs tl es) = some (.tup [], rH b0 (bs ++ bits 7 x.size ++ txB x x.size) tl (es ++ rk (7 + 8 * x.size))) := by
  refine call_in e33 (by rfl) ?_
  have h65 := fun H => s65 n H
  have h63 : ∀ es, call1 T (n + 1) (.fn 63) [.ptr 1 0 0 0, .int .i64 (7 + 8 * (x.size : Int))] (rH b0 bs tl es) = some (.bool true, rH b0 bs tl es) := fun es => by
    have := s63 b0 tl es bs n (7 + 8 * x.size) (by omega)
    rw [show (((7 + 8 * x.size : Nat)) : Int) = 7 + 8 * (x.size : Int) by omega] at this
    exact this
  have x1 : decide ((127 : Int) < (x.size : Int)) = false := decide_eq_false (by omega)
  have w2 : w64 (8 * (x.size : Int)) = 8 * (x.size : Int) := w64_id (by omega) (by omega)
  have w3 : w64 (7 + 8 * (x.size : Int)) = 7 + 8 * (x.size : Int) := w64_id (by omega) (by omega)
  have h64 : ∀ es, call1 T (n + 1) (.fn 64) [.ptr 1 0 0 0, .int .i64 7, .int .i64 x.size] (rH b0 bs tl es) = some (.tup [], rH b0 (bs ++ bits 7 x.size) tl (es ++ rk 7)) := fun es => s64 b0 tl es bs n 7 x.size x.size (by omega) (bitsOf_nat 7 _ (by omega)) (by omega)
  have l0 : decide (0 < tl.length + 1 + 1 + 1) = true := decide_eq_true (by omega)
  have l1 : decide (1 < tl.length + 1 + 1 + 1) = true := decide_eq_true (by omega)
  have l2 : decide (2 < tl.length + 1 + 1 + 1) = true := decide_eq_true (by omega)
  have l3' : decide (tl.length + 1 + 1 + 1 < 3) = false := decide_eq_false (by omega)
  have l3 : decide (3 ≤ tl.length + 1 + 1 + 1) = true := decide_eq_true (by omega)
  have hN : decide (max 2 0 ≤ tl.length + 1 + 1 + 1) = true := decide_eq_true (by omega)
  simp only [c33, go_sem, Int.cast_ofNat_Int, Int.reduceToNat, Bool.true_xor, Bool.false_xor, Bool.xor_true, Bool.xor_false, Nat.reduceAdd, Nat.reduceBEq, Nat.reduceLeDiff, Nat.reduceLT, Nat.reduceMul, Nat.reduceSub, Int.reduceEq, Int.reduceLT, Int.reduceLE, Int.reduceNeg, h65, h63, x1, w2, w3, h64, l0, l1, l2, l3, l3', List.filter_replicate, List.all_replicate, ite_self, if_true]
  have hP : (bs ++ bits 7 x.size).length = bs.length + 7 := by rw [List.length_append, bits_len]
  obtain ⟨P, hPd⟩ : ∃ P, bs ++ bits 7 x.size = P := ⟨_, rfl⟩
  rw [hPd] at hP ⊢
  rw [← rk_add, ← List.append_assoc]
  have hx2 : x.size ≤ maxLen := Nat.le_trans hx (by decide)
  refine loop_rule (fun i => ([(0, .ptr 1 0 0 0), (2, .str x), (6, .int .i64 i)], ⟨b0 :: rB (P ++ txB x i) :: rA (P ++ txB x i) :: tl, rk (8 * i), 0⟩)) (fun _ => True) x.size ?_ trivial ?_
  · simp only [go_sem, Int.cast_ofNat_Int, Int.reduceToNat, Bool.true_xor, Bool.false_xor, Bool.xor_true, Bool.xor_false, Nat.reduceAdd, Nat.reduceBEq, Nat.reduceLeDiff, Nat.reduceLT, Nat.reduceMul, Nat.reduceSub, Int.reduceEq, Int.reduceLT, Int.reduceLE, Int.reduceNeg, hN, l0, l1, l2, l3, l3', txB, List.append_nil, Nat.mul_zero, List.replicate_zero]
    try rfl
  · intro i hi _
    rcases Nat.lt_or_ge i x.size with hlt | hge
    · have hs := w64_suc hlt hx2
      have hd : x.data[i]? = some x.data[i] := Array.getElem?_eq_getElem (by exact hlt)
      have hv := UInt8.toNat_lt x.data[i]
      have hu8 : w64 ((x.data[i].toNat : Nat) : Int) = (x.data[i].toNat : Nat) := w64_id (by omega) (by omega)
      have h1 : ∀ es, call1 T (n + 1) (.fn 64) [.ptr 1 0 0 0, .int .i64 8, .int .i64 (x.data[i].toNat : Nat)] (rH b0 (P ++ txB x i) tl es) = some (.tup [], rH b0 (P ++ txB x i ++ bits 8 x.data[i].toNat) tl (es ++ rk 8)) :=
        fun es => s64 b0 tl es (P ++ txB x i) n 8 x.data[i].toNat x.data[i].toNat (by omega) (bitsOf_nat 8 _ (by omega)) (by rw [List.length_append, txB_len]; omega)
      have hB : P ++ txB x i ++ bits 8 x.data[i].toNat = P ++ txB x (i + 1) := by simp only [txB, hd, Option.getD_some, List.append_assoc]
      have hE : rk (8 * i) ++ rk 8 = rk (8 * (i + 1)) := by rw [rk_add]; rfl
      rw [hB] at h1
      have h1 := h1 (rk (8 * i))
      rw [hE] at h1
      simp only [go_sem, Int.cast_ofNat_Int, Int.reduceToNat, Bool.true_xor, Bool.false_xor, Bool.xor_true, Bool.xor_false, Nat.reduceAdd, Nat.reduceBEq, Nat.reduceLeDiff, Nat.reduceLT, Nat.reduceMul, Nat.reduceSub, Int.reduceEq, Int.reduceLT, Int.reduceLE, Int.reduceNeg, hlt, hd, hu8, h1, hs, hN, l0, l1, l2, l3, l3', List.filter_replicate, List.all_replicate, ite_self, if_true]
      refine ⟨by first | trivial | omega, by first | trivial | rfl, trivial⟩
    · obtain rfl : i = x.size := by omega
      have hd : decide (x.size < x.size) = false := decide_eq_false (by omega)
      simp only [go_sem, Int.cast_ofNat_Int, Int.reduceToNat, Bool.true_xor, Bool.false_xor, Bool.xor_true, Bool.xor_false, Nat.reduceAdd, Nat.reduceBEq, Nat.reduceLeDiff, Nat.reduceLT, Nat.reduceMul, Nat.reduceSub, Int.reduceEq, Int.reduceLT, Int.reduceLE, Int.reduceNeg, hd, hN, l0, l1, l2, l3, l3', List.filter_replicate, List.all_replicate, List.filter_append, List.all_append, ite_self, if_true, Bool.and_self, List.append_assoc]
end
def orI8 (a b : Int) : Int := IntKind.u8.wrap ((BitVec.ofInt 8 a ||| BitVec.ofInt 8 b).toNat)
@[go_sem high] theorem sb_or8 (a b : Int) : sbin .or (.int .u8 a) (.int .u8 b) = some (.int .u8 (orI8 a b)) := by
  simp only [sbin, beq_self_eq_true, cond_true]; rfl
theorem or_bit (B : List Bool) (b : Bool) : orI8 (byteN B (B.length / 8) : Nat) (IntKind.u8.wrap ((bt b : Nat) * 2 ^ min (7 - B.length % 8) 8)) = (byteN (B ++ [b]) (B.length / 8) : Nat) := by
  have hb := bt_le b
  have h1 := bt_pow b (B.length % 8) (Nat.mod_lt _ (by decide))
  have h2 : 2 ^ (8 - B.length % 8) ≤ 2 ^ 8 := Nat.pow_le_pow_right (by decide) (by omega)
  have h3 : bt b * 2 ^ (7 - B.length % 8) < 256 := by omega
  have h4 := byteN_lt B (B.length / 8)
  have h5 := byteN_lt (B ++ [b]) (B.length / 8)
  have h6 : ((bt b : Nat) : Int) * 2 ^ (7 - B.length % 8) = ((bt b * 2 ^ (7 - B.length % 8) : Nat) : Int) := by rw [Int.natCast_mul, Int.natCast_pow]; rfl
  unfold orI8
  rw [Nat.min_eq_left (by omega), h6, wrap8 (n := ((bt b * 2 ^ (7 - B.length % 8) : Nat) : Int)) (by omega) (by omega), BitVec.toNat_or, ofInt_nat8 _ h4, ofInt_nat8 _ h3, byteN_or]
  exact wrap8 (by omega) (by omega)
/-- The bytes behind i bits. -/
def pkZ (bs : List Bool) (i : Nat) : List (List SV) := (List.range (nb bs.length)).map fun j => [.int .u8 (byteN (bs.take i) j : Nat)]
@[go_sem] theorem pkZ_len {bs : List Bool} {i : Nat} : (pkZ bs i).length = nb bs.length := by simp [pkZ]
theorem pkZ_zero (bs : List Bool) : pkZ bs 0 = List.replicate (nb bs.length) [.int .u8 0] := by
  apply List.ext_getElem?
  intro j
  simp only [pkZ, List.take_zero, List.getElem?_map, List.getElem?_replicate]
  by_cases h : j < nb bs.length
  · rw [List.getElem?_range h, if_pos h]; rfl
  · rw [List.getElem?_eq_none (by simp; omega), if_neg h]; rfl
theorem pkZ_full (bs : List Bool) : pkZ bs bs.length = pkS bs := by simp [pkZ, pkS]
theorem pkZ_get {bs : List Bool} {i : Nat} (h : i < bs.length) : (pkZ bs i)[i / 8]? = some [.int .u8 (byteN (bs.take i) (i / 8) : Nat)] := by
  simp only [pkZ, List.getElem?_map]
  rw [List.getElem?_range (by unfold nb; omega)]; rfl
theorem pkZ_set {bs : List Bool} {i : Nat} {b : Bool} (h : bs[i]? = some b) : (pkZ bs i).set (i / 8) [.int .u8 (byteN (bs.take i ++ [b]) (i / 8) : Nat)] = pkZ bs (i + 1) := by
  have hlt : i < bs.length := (List.getElem?_eq_some_iff.1 h).1
  have hl : (bs.take i).length = i := by rw [List.length_take]; omega
  have ht : bs.take (i + 1) = bs.take i ++ [b] := by rw [List.take_add_one, h]; rfl
  apply List.ext_getElem?
  intro j
  rw [List.getElem?_set]
  simp only [pkZ, List.getElem?_map, List.length_map, List.length_range]
  by_cases hj : i / 8 = j
  · subst hj
    rw [if_pos rfl, if_pos (by unfold nb; omega), List.getElem?_range (by unfold nb; omega), ht]; rfl
  · rw [if_neg hj]
    by_cases h2 : j < nb bs.length
    · rw [List.getElem?_range h2, ht]
      simp only [Option.map_some]
      rw [byteN_ne (by rw [hl]; exact fun h => hj h.symm)]
    · rw [List.getElem?_eq_none (by simp; omega)]; rfl
end Go.Sh
namespace Go.Sh
set_option linter.unusedSectionVars false
set_option linter.unnecessarySimpa false
set_option linter.unusedVariables false
set_option linter.unusedSimpArgs false
set_option maxRecDepth 100000
set_option maxHeartbeats 4000000
theorem mkU (H : Heap) (m : Nat) (h : m ≤ 100000) : smake 1 [.int .u8 0] 1 H (.int .i64 m) (.int .i64 m) = some (.slc H.bl.length 0 0 m, hnew H (.arr 0 1 (List.replicate m [.int .u8 0]) true)) := by
  have h1 : decide ((0 : Int) ≤ (m : Int)) = true := decide_eq_true (by omega)
  have h2 : decide ((m : Int) ≤ (m : Int)) = true := decide_eq_true (by omega)
  have h3 : decide ((m : Int) * ((1 : Nat) : Int) ≤ (mostLen : Int)) = true := decide_eq_true (by have : (mostLen : Int) = 1099511627776 := rfl; omega)
  simp only [smake, h1, h2, h3, Bool.and_self, cond_true, Int.toNat_natCast]
theorem drop1 (l : List SV) : List.drop 0 l = l := rfl
theorem s34 (n : Nat) (b0 : SBlk) (es : List (Nat × Nat)) (bs : List Bool) (hb : bs.length ≤ 600000) : call1 T (n + 1) (.fn 34) [.ptr 1 0 0 0] (rH b0 bs [] es) = some (.tup [.str (pkB bs), .int .i64 0], rH b0 bs [] es) := by
  refine call_in e34 (by rfl) ?_
  have w1 : w64 ((bs.length : Int) + 7) = ((bs.length + 7 : Nat) : Int) := by rw [w64_id (by omega) (by omega)]; omega
  have w2 : w64 (((bs.length + 7) / 8 : Nat) : Int) = ((nb bs.length : Nat) : Int) := by rw [w64_id (by omega) (by omega)]; rfl
  have hL : bs.length ≤ maxLen := Nat.le_trans hb (by decide)
  simp only [c34, go_sem, Int.cast_ofNat_Int, Int.reduceToNat, Bool.true_xor, Bool.false_xor, Bool.xor_true, Bool.xor_false, Nat.reduceAdd, Nat.reduceBEq, Nat.reduceLeDiff, Nat.reduceLT, Nat.reduceMul, Nat.reduceSub, Int.reduceEq, Int.reduceLT, Int.reduceLE, Int.reduceNeg, w1, w2, mkU _ _ (show nb bs.length ≤ 100000 by unfold nb; omega), List.length_cons, List.length_nil, ← pkZ_zero]
  refine loop_rule (fun i => ([(0, .ptr 1 0 0 0), (4, .slc 3 0 0 (nb bs.length)), (5, .int .i64 i)], ⟨[b0, rB bs, rA bs, .arr 0 1 (pkZ bs i) true], [], 0⟩)) (fun _ => True) bs.length ?_ trivial ?_
  · simp only [go_sem, Int.cast_ofNat_Int, Int.reduceToNat, Bool.true_xor, Bool.false_xor, Bool.xor_true, Bool.xor_false, Nat.reduceAdd, Nat.reduceBEq, Nat.reduceLeDiff, Nat.reduceLT, Nat.reduceMul, Nat.reduceSub, Int.reduceEq, Int.reduceLT, Int.reduceLE, Int.reduceNeg]
    try rfl
  · intro i hi _
    rcases Nat.lt_or_ge i bs.length with hlt | hge
    · obtain ⟨b, hbi⟩ := getS hlt
      have hs := w64_suc hlt hL
      have hw8 : w64 ((i / 8 : Nat) : Int) = ((i / 8 : Nat) : Int) := w64_id (by omega) (by omega)
      have hw7 : w64 (7 - ((i % 8 : Nat) : Int)) = ((7 - i % 8 : Nat) : Int) := by rw [w64_id (by omega) (by omega)]; omega
      have hlt1 : decide (i / 8 < nb bs.length) = true := decide_eq_true (by unfold nb; omega)
      have hg := pkZ_get hlt
      have hl : (bs.take i).length = i := by rw [List.length_take]; omega
      have hE := or_bit (bs.take i) b
      rw [hl] at hE
      have hset := pkZ_set hbi
      simp only [go_sem, Int.cast_ofNat_Int, Int.reduceToNat, Bool.true_xor, Bool.false_xor, Bool.xor_true, Bool.xor_false, Nat.reduceAdd, Nat.reduceBEq, Nat.reduceLeDiff, Nat.reduceLT, Nat.reduceMul, Nat.reduceSub, Int.reduceEq, Int.reduceLT, Int.reduceLE, Int.reduceNeg, hlt, hbi, hw8, hw7, hlt1, hg, hE, hset, hs, Int.toNat_natCast]
      refine ⟨by first | trivial | omega, by first | trivial | rfl, trivial⟩
    · obtain rfl : i = bs.length := by omega
      have hd : decide (bs.length < bs.length) = false := decide_eq_false (by omega)
      have ht : List.take (nb bs.length) (pkS bs) = pkS bs := List.take_of_length_le (by rw [pkS_len]; exact Nat.le_refl _)
      have hl : decide (nb bs.length ≤ (pkS bs).length) = true := decide_eq_true (by rw [pkS_len]; exact Nat.le_refl _)
      have hl2 : decide (nb bs.length ≤ nb bs.length) = true := decide_eq_true (Nat.le_refl _)
      simp only [go_sem, Int.cast_ofNat_Int, Int.reduceToNat, Bool.true_xor, Bool.false_xor, Bool.xor_true, Bool.xor_false, Nat.reduceAdd, Nat.reduceBEq, Nat.reduceLeDiff, Nat.reduceLT, Nat.reduceMul, Nat.reduceSub, Int.reduceEq, Int.reduceLT, Int.reduceLE, Int.reduceNeg, hd, pkZ_full, ht, hl, hl2, toB_pkS, pkB]
end Go.Sh
namespace Go.Sh
set_option linter.unusedSectionVars false
set_option linter.unnecessarySimpa false
set_option linter.unusedVariables false
set_option linter.unusedSimpArgs false
set_option maxRecDepth 100000
set_option maxHeartbeats 4000000
theorem tm_ge {C : W16} (h : 32768 ≤ C.toNat) : tm C = (C <<< 1) ^^^ poly := by
  unfold tm
  rw [show C.msb = true by rw [BitVec.msb_eq_decide]; exact decide_eq_true h]; rfl
theorem tm_lt {C : W16} (h : ¬ 32768 ≤ C.toNat) : tm C = C <<< 1 := by
  apply tm_low
  rw [BitVec.msb_eq_decide]; exact decide_eq_false h
theorem s98 (n : Nat) (H : Heap) (C : W16) : call1 T (n + 1) (.fn 98) [.int .u16 (C.toNat : Nat)] H = some (.int .u16 ((tm C).toNat : Nat), H) := by
  refine call_pure e98 (by rfl) ?_
  have s1 := shlW C 1 (by omega)
  have hp := xorW (C <<< 1) poly
  have hp : xorI ((C <<< 1).toNat : Nat) 4129 = ((C <<< 1 ^^^ poly).toNat : Nat) := hp
  by_cases h : 32768 ≤ C.toNat
  · have hd : decide ((32768 : Int) ≤ (C.toNat : Int)) = true := decide_eq_true (by omega)
    rw [tm_ge h]
    simp only [c98, heap0, go_sem, Int.cast_ofNat_Int, Int.reduceToNat, Bool.true_xor, Bool.false_xor, Bool.xor_true, Bool.xor_false, Nat.reduceAdd, Nat.reduceBEq, Nat.reduceLeDiff, Nat.reduceLT, Nat.reduceMul, Nat.reduceSub, Int.reduceEq, Int.reduceLT, Int.reduceLE, Int.reduceNeg, hd, s1, hp]
  · have hd : decide ((32768 : Int) ≤ (C.toNat : Int)) = false := decide_eq_false (by omega)
    rw [tm_lt h]
    simp only [c98, heap0, go_sem, Int.cast_ofNat_Int, Int.reduceToNat, Bool.true_xor, Bool.false_xor, Bool.xor_true, Bool.xor_false, Nat.reduceAdd, Nat.reduceBEq, Nat.reduceLeDiff, Nat.reduceLT, Nat.reduceMul, Nat.reduceSub, Int.reduceEq, Int.reduceLT, Int.reduceLE, Int.reduceNeg, hd, s1, hp]
def tmN (C : W16) : Nat → W16
  | 0 => C
  | j + 1 => tm (tmN C j)
theorem s89 (n : Nat) (H : Heap) (s : ByteArray) (hs : s.size ≤ 1000) : call1 T (n + 2) (.fn 89) [.int .u16 0, .str s] H = some (.int .u16 ((upd 0#16 s s.size).toNat : Nat), H) := by
  refine call_pure e89 (by rfl) ?_
  simp only [c89, heap0, go_sem, Int.cast_ofNat_Int, Int.reduceToNat, Bool.true_xor, Bool.false_xor, Bool.xor_true, Bool.xor_false, Nat.reduceAdd, Nat.reduceBEq, Nat.reduceLeDiff, Nat.reduceLT, Nat.reduceMul, Nat.reduceSub, Int.reduceEq, Int.reduceLT, Int.reduceLE, Int.reduceNeg]
  have hL : s.size ≤ maxLen := Nat.le_trans hs (by decide)
  refine loop_rule (fun i => ([(0, .int .u16 ((upd 0#16 s i).toNat : Nat)), (1, .str s), (5, .int .i64 i)], ⟨[], [], 0⟩)) (fun _ => True) s.size ?_ trivial ?_
  · simp only [go_sem, Int.cast_ofNat_Int, Int.reduceToNat, Bool.true_xor, Bool.false_xor, Bool.xor_true, Bool.xor_false, Nat.reduceAdd, Nat.reduceBEq, Nat.reduceLeDiff, Nat.reduceLT, Nat.reduceMul, Nat.reduceSub, Int.reduceEq, Int.reduceLT, Int.reduceLE, Int.reduceNeg] <;> rfl
  · intro i hi _
    rcases Nat.lt_or_ge i s.size with hlt | hge
    · have hs2 := w64_suc hlt hL
      have hd : s.data[i]? = some s.data[i] := Array.getElem?_eq_getElem (by exact hlt)
      have hu : upd 0#16 s (i + 1) = stp (upd 0#16 s i) s.data[i].toNat := by simp only [upd, hd, Option.getD_some]
      have hv := UInt8.toNat_lt s.data[i]
      obtain ⟨C, hC⟩ : ∃ C, upd 0#16 s i = C := ⟨_, rfl⟩
      obtain ⟨b, hb⟩ : ∃ b, s.data[i].toNat = b := ⟨_, rfl⟩
      rw [hC, hb] at hu
      rw [hb] at hv
      have e1 : IntKind.u16.wrap (b : Int) = ((BitVec.ofNat 16 b : W16).toNat : Nat) := by rw [wrapW, ← toW (by omega)]; omega
      have s1 := shlW (BitVec.ofNat 16 b) 8 (by omega)
      simp only [go_sem, Int.cast_ofNat_Int, Int.reduceToNat, Bool.true_xor, Bool.false_xor, Bool.xor_true, Bool.xor_false, Nat.reduceAdd, Nat.reduceBEq, Nat.reduceLeDiff, Nat.reduceLT, Nat.reduceMul, Nat.reduceSub, Int.reduceEq, Int.reduceLT, Int.reduceLE, Int.reduceNeg, hlt, hd, hC, hb, e1, s1, xorW]
      refine loop_post (fun j => ([(0, .int .u16 ((tmN (C ^^^ (BitVec.ofNat 16 b <<< 8)) j).toNat : Nat)), (1, .str s), (5, .int .i64 i), (6, .int .i64 j)], ⟨[], [], 0⟩)) (fun _ => True) 8 ?_ trivial ?_
      · simp only [go_sem, Int.cast_ofNat_Int, Int.reduceToNat, Bool.true_xor, Bool.false_xor, Bool.xor_true, Bool.xor_false, Nat.reduceAdd, Nat.reduceBEq, Nat.reduceLeDiff, Nat.reduceLT, Nat.reduceMul, Nat.reduceSub, Int.reduceEq, Int.reduceLT, Int.reduceLE, Int.reduceNeg] <;> rfl
      · intro j hj _
        rcases Nat.lt_or_ge j 8 with hlj | hgj
        · have hxj : decide ((j : Int) < 8) = true := decide_eq_true (by omega)
          have hsj : w64 ((j : Int) + 1) = ((j + 1 : Nat) : Int) := by rw [w64_id (by omega) (by omega)]; omega
          have h98 := fun H => s98 n H (tmN (C ^^^ (BitVec.ofNat 16 b <<< 8)) j)
          simp only [go_sem, Int.cast_ofNat_Int, Int.reduceToNat, Bool.true_xor, Bool.false_xor, Bool.xor_true, Bool.xor_false, Nat.reduceAdd, Nat.reduceBEq, Nat.reduceLeDiff, Nat.reduceLT, Nat.reduceMul, Nat.reduceSub, Int.reduceEq, Int.reduceLT, Int.reduceLE, Int.reduceNeg, hxj, hsj, h98]
          refine ⟨by first | trivial | omega, by first | trivial | rfl, trivial⟩
        · obtain rfl : j = 8 := by omega
          have ht : tmN (C ^^^ (BitVec.ofNat 16 b <<< 8)) 8 = stp C b := rfl
          have hxj : decide (((8 : Nat) : Int) < 8) = false := by decide
          simp only [go_sem, Int.cast_ofNat_Int, Int.reduceToNat, Bool.true_xor, Bool.false_xor, Bool.xor_true, Bool.xor_false, Nat.reduceAdd, Nat.reduceBEq, Nat.reduceLeDiff, Nat.reduceLT, Nat.reduceMul, Nat.reduceSub, Int.reduceEq, Int.reduceLT, Int.reduceLE, Int.reduceNeg, hxj, ht, hs2, hu]
          refine ⟨by first | trivial | omega, by first | trivial | rfl, trivial⟩
    · obtain rfl : i = s.size := by omega
      have hd : decide (s.size < s.size) = false := decide_eq_false (by omega)
      simp only [go_sem, Int.cast_ofNat_Int, Int.reduceToNat, Bool.true_xor, Bool.false_xor, Bool.xor_true, Bool.xor_false, Nat.reduceAdd, Nat.reduceBEq, Nat.reduceLeDiff, Nat.reduceLT, Nat.reduceMul, Nat.reduceSub, Int.reduceEq, Int.reduceLT, Int.reduceLE, Int.reduceNeg, hd]
theorem s66 (n : Nat) (H : Heap) (s : ByteArray) (hs : s.size ≤ 1000) : call1 T (n + 3) (.fn 66) [.str s] H = some (.int .u16 ((crcN s).toNat : Nat), H) := by
  refine call_pure e66 (by rfl) ?_
  simp only [c66, heap0, go_sem, Int.cast_ofNat_Int, Int.reduceToNat, Bool.true_xor, Bool.false_xor, Bool.xor_true, Bool.xor_false, Nat.reduceAdd, Nat.reduceBEq, Nat.reduceLeDiff, Nat.reduceLT, Nat.reduceMul, Nat.reduceSub, Int.reduceEq, Int.reduceLT, Int.reduceLE, Int.reduceNeg, s89 _ _ _ hs, crcN]
theorem s35 (n : Nat) (H : Heap) (s : ByteArray) (hs : s.size ≤ 1000) : call1 T (n + 4) (.fn 35) [.str s] H = some (.str (prot s), H) := by
  refine call_pure e35 (by rfl) ?_
  obtain ⟨C, hC⟩ : ∃ C, crcN s = C := ⟨_, rfl⟩
  have h : ∀ H, call1 T (n + 3) (.fn 66) [.str s] H = some (.int .u16 (C.toNat : Nat), H) := fun H => hC ▸ s66 n H s hs
  have hz : decide (s.size + #[UInt8.ofNat (C.toNat / 256), UInt8.ofNat (C.toNat % 256)].size ≤ 4611686018427387904) = true := decide_eq_true (show s.size + 2 ≤ 4611686018427387904 by omega)
  simp only [c35, heap0, go_sem, Int.cast_ofNat_Int, Int.reduceToNat, Bool.true_xor, Bool.false_xor, Bool.xor_true, Bool.xor_false, Nat.reduceAdd, Nat.reduceBEq, Nat.reduceLeDiff, Nat.reduceLT, Nat.reduceMul, Nat.reduceSub, Int.reduceEq, Int.reduceLT, Int.reduceLE, Int.reduceNeg, h, u8_hi, u8_lo, prot, hC, cr2, toB_cons, toB_nil, Option.map_some, hz]
end Go.Sh
namespace Go.Sh
set_option linter.unusedSectionVars false
set_option linter.unnecessarySimpa false
set_option linter.unusedVariables false
set_option linter.unusedSimpArgs false
set_option maxRecDepth 100000
set_option maxHeartbeats 4000000
theorem inB_t {x h : Int} : inB x h = true ↔ 0 ≤ x ∧ x ≤ h := by simp [inB]
theorem inB_f {x h : Int} : inB x h = false ↔ ¬ (0 ≤ x ∧ x ≤ h) := by rw [← inB_t, Bool.not_eq_true]
theorem chB_1 {s d q o c m e t u v : Int} {x : ByteArray} : chB 1 s d q o c m e t u v x = decide (((0 ≤ d ∧ d ≤ 31) ∧ d ≠ s) ∧ (0 ≤ c ∧ c ≤ 255) ∧ (0 ≤ m ∧ m ≤ 65535) ∧ e = 0 ∧ t = 0 ∧ u = 0 ∧ v = 0 ∧ (0 ≤ s ∧ s ≤ 31) ∧ (0 ≤ q ∧ q ≤ 255) ∧ (0 ≤ o ∧ o ≤ 255)) := by
  rw [Bool.eq_iff_iff]
  simp only [chB, tgB, inB, erB, decide_true, cond_true, cond_false, Bool.and_eq_true, Bool.or_eq_true, decide_eq_true_eq, Bool.not_eq_true', decide_eq_false_iff_not]
  constructor <;> intro h <;> omega
theorem chB_2 {s d q o c m e t u v : Int} {x : ByteArray} : chB 2 s d q o c m e t u v x = (decide (x = ⟨#[]⟩) && decide (((0 ≤ d ∧ d ≤ 31) ∧ d ≠ s) ∧ (-32768 ≤ e ∧ e ≤ 32767) ∧ c = 0 ∧ m = 0 ∧ t = 0 ∧ u = 0 ∧ v = 0 ∧ (0 ≤ s ∧ s ≤ 31) ∧ (0 ≤ q ∧ q ≤ 255) ∧ (0 ≤ o ∧ o ≤ 255))) := by
  have k1 : decide ((2 : Int) = 1) = false := rfl
  rw [Bool.eq_iff_iff]
  simp only [chB, tgB, inB, erB, k1, decide_true, cond_true, cond_false, Bool.and_eq_true, Bool.or_eq_true, decide_eq_true_eq, Bool.not_eq_true', decide_eq_false_iff_not]
  constructor
  · intro h
    exact ⟨h.1.2.2.2.2.2.2, by omega⟩
  · intro ⟨h1, h⟩
    refine ⟨⟨by omega, by omega, by omega, by omega, by omega, by omega, h1⟩, by omega⟩
theorem chB_3 {s d q o c m e t u v : Int} {x : ByteArray} : chB 3 s d q o c m e t u v x = decide (d = -1 ∧ (0 ≤ t ∧ t ≤ 109951162) ∧ (0 ≤ u ∧ u ≤ 65535) ∧ (0 ≤ v ∧ v ≤ 65535) ∧ c = 0 ∧ m = 0 ∧ e = 0 ∧ (0 ≤ s ∧ s ≤ 31) ∧ (0 ≤ q ∧ q ≤ 255) ∧ (0 ≤ o ∧ o ≤ 255)) := by
  have k1 : decide ((3 : Int) = 1) = false := rfl
  have k2 : decide ((3 : Int) = 2) = false := rfl
  rw [Bool.eq_iff_iff]
  simp only [chB, tgB, inB, erB, k1, k2, decide_true, cond_true, cond_false, Bool.and_eq_true, Bool.or_eq_true, decide_eq_true_eq, Bool.not_eq_true', decide_eq_false_iff_not]
  constructor <;> intro h <;> omega
theorem chB_4 {s d q o c m e t u v : Int} {x : ByteArray} : chB 4 s d q o c m e t u v x = decide ((d = -1 ∨ ((0 ≤ d ∧ d ≤ 31) ∧ d ≠ s)) ∧ c = 0 ∧ m = 0 ∧ e = 0 ∧ t = 0 ∧ u = 0 ∧ v = 0 ∧ (0 ≤ s ∧ s ≤ 31) ∧ (0 ≤ q ∧ q ≤ 255) ∧ (0 ≤ o ∧ o ≤ 255)) := by
  have k1 : decide ((4 : Int) = 1) = false := rfl
  have k2 : decide ((4 : Int) = 2) = false := rfl
  have k3 : decide ((4 : Int) = 3) = false := rfl
  rw [Bool.eq_iff_iff]
  simp only [chB, tgB, inB, erB, k1, k2, k3, decide_true, cond_true, cond_false, Bool.and_eq_true, Bool.or_eq_true, decide_eq_true_eq, Bool.not_eq_true', decide_eq_false_iff_not]
  constructor <;> intro h <;> omega
theorem s18_1 (n : Nat) (H : Heap) (s d q o c m e t u v : Int) (x : ByteArray) : call1 T (n + 2) (.fn 18) [.agg (fr 1 s d q o c m e t u v x)] H = some (.int .i64 (bif chB 1 s d q o c m e t u v x then 0 else 1), H) := by
  refine call_pure e18 (by rfl) ?_
  rw [chB_1]
  simp only [c18, heap0, go_sem, Int.cast_ofNat_Int, Int.reduceToNat, Bool.true_xor, Bool.false_xor, Bool.xor_true, Bool.xor_false, Nat.reduceAdd, Nat.reduceBEq, Nat.reduceLeDiff, Nat.reduceLT, Nat.reduceMul, Nat.reduceSub, Int.reduceEq, Int.reduceLT, Int.reduceLE, Int.reduceNeg, s38]
  repeat' (with_reducible refine fork_split (fun _ => ?_) (fun _ => ?_) <;> simp only [*, go_sem, Int.cast_ofNat_Int, Int.reduceToNat, Bool.true_xor, Bool.false_xor, Bool.xor_true, Bool.xor_false, Nat.reduceAdd, Nat.reduceBEq, Nat.reduceLeDiff, Nat.reduceLT, Nat.reduceMul, Nat.reduceSub, Int.reduceEq, Int.reduceLT, Int.reduceLE, Int.reduceNeg, s38])
  all_goals (simp only [inB_t, inB_f, decide_eq_true_eq, decide_eq_false_iff_not] at *; refine congrArg some (congrArg (SV.int .i64) ?_); first | (rw [decide_eq_false (by omega)]; rfl) | (rw [decide_eq_true (by omega)]; rfl))
theorem s18_2 (n : Nat) (H : Heap) (s d q o c m e t u v : Int) (x : ByteArray) : call1 T (n + 2) (.fn 18) [.agg (fr 2 s d q o c m e t u v x)] H = some (.int .i64 (bif chB 2 s d q o c m e t u v x then 0 else 1), H) := by
  refine call_pure e18 (by rfl) ?_
  rw [chB_2]
  cases hx : decide (x = ⟨#[]⟩) <;> simp only [c18, heap0, go_sem, Int.cast_ofNat_Int, Int.reduceToNat, Bool.true_xor, Bool.false_xor, Bool.xor_true, Bool.xor_false, Nat.reduceAdd, Nat.reduceBEq, Nat.reduceLeDiff, Nat.reduceLT, Nat.reduceMul, Nat.reduceSub, Int.reduceEq, Int.reduceLT, Int.reduceLE, Int.reduceNeg, s38, hx]
  all_goals repeat' (with_reducible refine fork_split (fun _ => ?_) (fun _ => ?_) <;> simp only [*, go_sem, Int.cast_ofNat_Int, Int.reduceToNat, Bool.true_xor, Bool.false_xor, Bool.xor_true, Bool.xor_false, Nat.reduceAdd, Nat.reduceBEq, Nat.reduceLeDiff, Nat.reduceLT, Nat.reduceMul, Nat.reduceSub, Int.reduceEq, Int.reduceLT, Int.reduceLE, Int.reduceNeg, s38])
  all_goals (simp only [inB_t, inB_f, decide_eq_true_eq, decide_eq_false_iff_not] at *; refine congrArg some (congrArg (SV.int .i64) ?_); first | (rw [decide_eq_false (by omega)]; rfl) | (rw [decide_eq_true (by omega)]; rfl))
theorem s18_3 (n : Nat) (H : Heap) (s d q o c m e t u v : Int) (x : ByteArray) : call1 T (n + 2) (.fn 18) [.agg (fr 3 s d q o c m e t u v x)] H = some (.int .i64 (bif chB 3 s d q o c m e t u v x then 0 else 1), H) := by
  refine call_pure e18 (by rfl) ?_
  rw [chB_3]
  simp only [c18, heap0, go_sem, Int.cast_ofNat_Int, Int.reduceToNat, Bool.true_xor, Bool.false_xor, Bool.xor_true, Bool.xor_false, Nat.reduceAdd, Nat.reduceBEq, Nat.reduceLeDiff, Nat.reduceLT, Nat.reduceMul, Nat.reduceSub, Int.reduceEq, Int.reduceLT, Int.reduceLE, Int.reduceNeg, s38]
  repeat' (with_reducible refine fork_split (fun _ => ?_) (fun _ => ?_) <;> simp only [*, go_sem, Int.cast_ofNat_Int, Int.reduceToNat, Bool.true_xor, Bool.false_xor, Bool.xor_true, Bool.xor_false, Nat.reduceAdd, Nat.reduceBEq, Nat.reduceLeDiff, Nat.reduceLT, Nat.reduceMul, Nat.reduceSub, Int.reduceEq, Int.reduceLT, Int.reduceLE, Int.reduceNeg, s38])
  all_goals (simp only [inB_t, inB_f, decide_eq_true_eq, decide_eq_false_iff_not] at *; refine congrArg some (congrArg (SV.int .i64) ?_); first | (rw [decide_eq_false (by omega)]; rfl) | (rw [decide_eq_true (by omega)]; rfl))
theorem s18_4 (n : Nat) (H : Heap) (s d q o c m e t u v : Int) (x : ByteArray) : call1 T (n + 2) (.fn 18) [.agg (fr 4 s d q o c m e t u v x)] H = some (.int .i64 (bif chB 4 s d q o c m e t u v x then 0 else 1), H) := by
  refine call_pure e18 (by rfl) ?_
  rw [chB_4]
  simp only [c18, heap0, go_sem, Int.cast_ofNat_Int, Int.reduceToNat, Bool.true_xor, Bool.false_xor, Bool.xor_true, Bool.xor_false, Nat.reduceAdd, Nat.reduceBEq, Nat.reduceLeDiff, Nat.reduceLT, Nat.reduceMul, Nat.reduceSub, Int.reduceEq, Int.reduceLT, Int.reduceLE, Int.reduceNeg, s38]
  repeat' (with_reducible refine fork_split (fun _ => ?_) (fun _ => ?_) <;> simp only [*, go_sem, Int.cast_ofNat_Int, Int.reduceToNat, Bool.true_xor, Bool.false_xor, Bool.xor_true, Bool.xor_false, Nat.reduceAdd, Nat.reduceBEq, Nat.reduceLeDiff, Nat.reduceLT, Nat.reduceMul, Nat.reduceSub, Int.reduceEq, Int.reduceLT, Int.reduceLE, Int.reduceNeg, s38])
  all_goals (simp only [inB_t, inB_f, decide_eq_true_eq, decide_eq_false_iff_not] at *; refine congrArg some (congrArg (SV.int .i64) ?_); first | (rw [decide_eq_false (by omega)]; rfl) | (rw [decide_eq_true (by omega)]; rfl))
theorem s18 (n : Nat) (H : Heap) (k s d q o c m e t u v : Int) (x : ByteArray) : call1 T (n + 2) (.fn 18) [.agg (fr k s d q o c m e t u v x)] H = some (.int .i64 (bif chB k s d q o c m e t u v x then 0 else 1), H) := by
  by_cases h1 : k = 1
  · subst h1; exact s18_1 n H s d q o c m e t u v x
  · by_cases h2 : k = 2
    · subst h2; exact s18_2 n H s d q o c m e t u v x
    · by_cases h3 : k = 3
      · subst h3; exact s18_3 n H s d q o c m e t u v x
      · by_cases h4 : k = 4
        · subst h4; exact s18_4 n H s d q o c m e t u v x
        · have hc : chB k s d q o c m e t u v x = false := by
            unfold chB; rw [decide_eq_false h1, decide_eq_false h2, decide_eq_false h3, decide_eq_false h4]; rfl
          have d1 := decide_eq_false h1
          have d2 := decide_eq_false h2
          have d3 := decide_eq_false h3
          have d4 := decide_eq_false h4
          refine call_pure e18 (by rfl) ?_
          rw [hc]
          simp only [c18, heap0, go_sem, Int.cast_ofNat_Int, Int.reduceToNat, Bool.true_xor, Bool.false_xor, Bool.xor_true, Bool.xor_false, Nat.reduceAdd, Nat.reduceBEq, Nat.reduceLeDiff, Nat.reduceLT, Nat.reduceMul, Nat.reduceSub, Int.reduceEq, Int.reduceLT, Int.reduceLE, Int.reduceNeg, s38, d1, d2, d3, d4]
end Go.Sh
namespace Go.Sh
set_option linter.unusedSectionVars false
set_option linter.unnecessarySimpa false
set_option linter.unusedVariables false
set_option linter.unusedSimpArgs false
set_option maxRecDepth 100000
set_option maxHeartbeats 4000000
theorem s29 (n : Nat) (es : List (Nat × Nat)) (b0 : SBlk) : call1 T (n + 1) (.kfn 29) [] ⟨[b0], es, 0⟩ = some (.ptr 1 0 0 0, ⟨[b0, .box [.lst 0 [] true, .int .i64 0]], es, 0⟩) := by
  refine kcall_in e29 ?_
  simp only [c29, go_sem, Int.cast_ofNat_Int, Int.reduceToNat, Bool.true_xor, Bool.false_xor, Bool.xor_true, Bool.xor_false, Nat.reduceAdd, Nat.reduceBEq, Nat.reduceLeDiff, Nat.reduceLT, Nat.reduceMul, Nat.reduceSub, Int.reduceEq, Int.reduceLT, Int.reduceLE, Int.reduceNeg]
theorem s12_1a (n : Nat) (H : Heap) (s d q o c m e t u v : Int) (x : ByteArray) (hch : chB 1 s d q o c m e t u v x = true) (hx : x.size ≤ 127) (hd : 0 ≤ d) : call1 T (n + 5) (.fn 12) [.agg (fr 1 s d q o c m e t u v x)] H = some (enV 1 s d q o c m e t u v x, H) := by
  refine call_pure e12 (by rfl) ?_
  have h18 := fun H => s18 (n + 2) H 1 s d q o c m e t u v x
  rw [hch] at h18
  obtain ⟨hs, hd1, hd0, hq, ho, hk⟩ := chB_k hch
  obtain ⟨hcc, hmm⟩ : (0 ≤ c ∧ c ≤ 255) ∧ (0 ≤ m ∧ m ≤ 65535) := by rcases hk with h | h | h | h <;> first | exact h.2 | (exfalso; omega)
  have h29 := fun es b0 => s29 (n + 3) es b0
  obtain ⟨B0, hB0⟩ : ∃ B, B = [] ++ bits 3 1 := ⟨_, rfl⟩
  have lB0 : B0.length = 3 := by rw [hB0, List.length_append, bits_len] <;> rfl
  have h0 : ∀ es, call1 T (n + 4) (.fn 30) [.ptr 1 0 0 0, .int .i64 3, .int .i64 1] (⟨[.box (fr 1 s d q o c m e t u v x), .box [.slc 2 0 0 0, .int .i64 0], .arr 0 1 [] false], es, 0⟩) = some (.tup [], rH (.box (fr 1 s d q o c m e t u v x)) B0 [] (es ++ rk 3)) := fun es => by
    have := s30 (.box (fr 1 s d q o c m e t u v x)) [] es [] (n + 2) 3 1 (by omega) (by omega) (by omega) (by rw [List.length_nil]; omega)
    rw [hB0]; exact this
  obtain ⟨B1, hB1⟩ : ∃ B, B = B0 ++ bits 5 s.toNat := ⟨_, rfl⟩
  have lB1 : B1.length = 8 := by rw [hB1, List.length_append, bits_len, lB0]
  have h1 : ∀ es, call1 T (n + 4) (.fn 30) [.ptr 1 0 0 0, .int .i64 5, .int .i64 s] (rH (.box (fr 1 s d q o c m e t u v x)) B0 [] es) = some (.tup [], rH (.box (fr 1 s d q o c m e t u v x)) B1 [] (es ++ rk 5)) := fun es => by
    have := s30 (.box (fr 1 s d q o c m e t u v x)) [] es B0 (n + 2) 5 s.toNat (by omega) (by omega) (by omega) (by rw [lB0]; omega)
    rw [Int.toNat_of_nonneg hs.1] at this
    rw [hB1]; exact this
  obtain ⟨B2, hB2⟩ : ∃ B, B = B1 ++ bits 1 (bt true) := ⟨_, rfl⟩
  have lB2 : B2.length = 9 := by rw [hB2, List.length_append, bits_len, lB1]
  have h2 : ∀ es, call1 T (n + 4) (.fn 31) [.ptr 1 0 0 0, .bool true] (rH (.box (fr 1 s d q o c m e t u v x)) B1 [] es) = some (.tup [], rH (.box (fr 1 s d q o c m e t u v x)) B2 [] (es ++ rk 1)) := fun es => by
    have := s31 (.box (fr 1 s d q o c m e t u v x)) [] es B1 (n + 2) true (by rw [lB1]; omega)
    rw [hB2]; exact this
  obtain ⟨B3, hB3⟩ : ∃ B, B = B2 ++ bits 5 d.toNat := ⟨_, rfl⟩
  have lB3 : B3.length = 14 := by rw [hB3, List.length_append, bits_len, lB2]
  have h3 : ∀ es, call1 T (n + 4) (.fn 30) [.ptr 1 0 0 0, .int .i64 5, .int .i64 d] (rH (.box (fr 1 s d q o c m e t u v x)) B2 [] es) = some (.tup [], rH (.box (fr 1 s d q o c m e t u v x)) B3 [] (es ++ rk 5)) := fun es => by
    have := s30 (.box (fr 1 s d q o c m e t u v x)) [] es B2 (n + 2) 5 d.toNat (by omega) (by omega) (by omega) (by rw [lB2]; omega)
    rw [Int.toNat_of_nonneg hd] at this
    rw [hB3]; exact this
  obtain ⟨B4, hB4⟩ : ∃ B, B = B3 ++ bits 8 q.toNat := ⟨_, rfl⟩
  have lB4 : B4.length = 22 := by rw [hB4, List.length_append, bits_len, lB3]
  have h4 : ∀ es, call1 T (n + 4) (.fn 30) [.ptr 1 0 0 0, .int .i64 8, .int .i64 q] (rH (.box (fr 1 s d q o c m e t u v x)) B3 [] es) = some (.tup [], rH (.box (fr 1 s d q o c m e t u v x)) B4 [] (es ++ rk 8)) := fun es => by
    have := s30 (.box (fr 1 s d q o c m e t u v x)) [] es B3 (n + 2) 8 q.toNat (by omega) (by omega) (by omega) (by rw [lB3]; omega)
    rw [Int.toNat_of_nonneg hq.1] at this
    rw [hB4]; exact this
  obtain ⟨B5, hB5⟩ : ∃ B, B = B4 ++ bits 8 o.toNat := ⟨_, rfl⟩
  have lB5 : B5.length = 30 := by rw [hB5, List.length_append, bits_len, lB4]
  have h5 : ∀ es, call1 T (n + 4) (.fn 30) [.ptr 1 0 0 0, .int .i64 8, .int .i64 o] (rH (.box (fr 1 s d q o c m e t u v x)) B4 [] es) = some (.tup [], rH (.box (fr 1 s d q o c m e t u v x)) B5 [] (es ++ rk 8)) := fun es => by
    have := s30 (.box (fr 1 s d q o c m e t u v x)) [] es B4 (n + 2) 8 o.toNat (by omega) (by omega) (by omega) (by rw [lB4]; omega)
    rw [Int.toNat_of_nonneg ho.1] at this
    rw [hB5]; exact this
  obtain ⟨B6, hB6⟩ : ∃ B, B = B5 ++ bits 8 c.toNat := ⟨_, rfl⟩
  have lB6 : B6.length = 38 := by rw [hB6, List.length_append, bits_len, lB5]
  have h6 : ∀ es, call1 T (n + 4) (.fn 30) [.ptr 1 0 0 0, .int .i64 8, .int .i64 c] (rH (.box (fr 1 s d q o c m e t u v x)) B5 [] es) = some (.tup [], rH (.box (fr 1 s d q o c m e t u v x)) B6 [] (es ++ rk 8)) := fun es => by
    have := s30 (.box (fr 1 s d q o c m e t u v x)) [] es B5 (n + 2) 8 c.toNat (by omega) (by omega) (by omega) (by rw [lB5]; omega)
    rw [Int.toNat_of_nonneg hcc.1] at this
    rw [hB6]; exact this
  obtain ⟨B7, hB7⟩ : ∃ B, B = B6 ++ bits 16 m.toNat := ⟨_, rfl⟩
  have lB7 : B7.length = 54 := by rw [hB7, List.length_append, bits_len, lB6]
  have h7 : ∀ es, call1 T (n + 4) (.fn 30) [.ptr 1 0 0 0, .int .i64 16, .int .i64 m] (rH (.box (fr 1 s d q o c m e t u v x)) B6 [] es) = some (.tup [], rH (.box (fr 1 s d q o c m e t u v x)) B7 [] (es ++ rk 16)) := fun es => by
    have := s30 (.box (fr 1 s d q o c m e t u v x)) [] es B6 (n + 2) 16 m.toNat (by omega) (by omega) (by omega) (by rw [lB6]; omega)
    rw [Int.toNat_of_nonneg hmm.1] at this
    rw [hB7]; exact this
  obtain ⟨B8, hB8⟩ : ∃ B, B = B7 ++ bits 7 x.size ++ txB x x.size := ⟨_, rfl⟩
  have lB8 : B8.length = 61 + 8 * x.size := by rw [hB8, List.length_append, List.length_append, bits_len, lB7, txB_len]
  have h8 : ∀ es, call1 T (n + 4) (.fn 33) [.ptr 1 0 0 0, .int .i64 127, .str x] (rH (.box (fr 1 s d q o c m e t u v x)) B7 [] es) = some (.tup [], rH (.box (fr 1 s d q o c m e t u v x)) B8 [] (es ++ rk (7 + 8 * x.size))) := fun es => by
    rw [hB8]; exact s33 (.box (fr 1 s d q o c m e t u v x)) [] es B7 (n + 2) x hx (by rw [lB7]; omega)
  have hE : enBits 1 s d q o c m e t u v x = B8 := by
    have kd1 : decide ((1 : Int) = 1) = true := rfl
    have kd2 : decide ((1 : Int) = 2) = false := rfl
    have kd3 : decide ((1 : Int) = 3) = false := rfl
    have hd2 : decide (0 ≤ d) = true := decide_eq_true (by omega)
    rw [hB8, hB7, hB6, hB5, hB4, hB3, hB2, hB1, hB0]
    have h3 : ((1 : Int)).toNat = 1 := rfl
    simp only [enBits, bdBits, tgBits, kd1, kd2, kd3, hd2, h3, decide_true, decide_false, cond_true, cond_false, List.append_assoc, List.nil_append, List.append_nil]
  have h34 := fun es => s34 (n + 3) (.box (fr 1 s d q o c m e t u v x)) es B8 (by rw [lB8]; omega)
  have hps : (pkB B8).size ≤ 1000 := by rw [pkB_size, lB8]; unfold nb; omega
  obtain ⟨P, hP⟩ : ∃ P, pkB B8 = P := ⟨_, rfl⟩
  have h35 := fun H => s35 n H (pkB B8) hps
  have hsz : (prot P).size = P.size + 2 := prot_size _
  unfold enV
  rw [hE, hch, decide_eq_false (show ¬ 127 < x.size by omega)]
  rw [hP] at h34 h35 ⊢
  have xx : decide ((127 : Int) < (x.size : Int)) = false := decide_eq_false (by omega)
  have xd : decide ((0 : Int) ≤ d) = true := decide_eq_true (by omega)
  cases hp : decide (127 < P.size + 2) with
  | false =>
    have hp2 : decide ((127 : Int) < ((P.size + 2 : Nat) : Int)) = false := by simp only [decide_eq_false_iff_not] at hp ⊢; omega
    simp only [c12, heap0, go_sem, Int.cast_ofNat_Int, Int.reduceToNat, Bool.true_xor, Bool.false_xor, Bool.xor_true, Bool.xor_false, Nat.reduceAdd, Nat.reduceBEq, Nat.reduceLeDiff, Nat.reduceLT, Nat.reduceMul, Nat.reduceSub, Int.reduceEq, Int.reduceLT, Int.reduceLE, Int.reduceNeg, h18, h29, h0, h1, h2, h3, h4, h5, h6, h7, h8, h34, h35, xx, xd, hsz, hp, hp2, Nat.reduceMod, Nat.reduceDiv, List.length_cons, List.length_nil, List.filter_replicate, List.all_replicate, List.filter_append, List.all_append, Bool.and_self, ite_self, if_true]
  | true =>
    have hp2 : decide ((127 : Int) < ((P.size + 2 : Nat) : Int)) = true := by simp only [decide_eq_true_eq] at hp ⊢; omega
    simp only [c12, heap0, go_sem, Int.cast_ofNat_Int, Int.reduceToNat, Bool.true_xor, Bool.false_xor, Bool.xor_true, Bool.xor_false, Nat.reduceAdd, Nat.reduceBEq, Nat.reduceLeDiff, Nat.reduceLT, Nat.reduceMul, Nat.reduceSub, Int.reduceEq, Int.reduceLT, Int.reduceLE, Int.reduceNeg, h18, h29, h0, h1, h2, h3, h4, h5, h6, h7, h8, h34, h35, xx, xd, hsz, hp, hp2, Nat.reduceMod, Nat.reduceDiv, List.length_cons, List.length_nil, List.filter_replicate, List.all_replicate, List.filter_append, List.all_append, Bool.and_self, ite_self, if_true]
theorem s12_2a (n : Nat) (H : Heap) (s d q o c m e t u v : Int) (x : ByteArray) (hch : chB 2 s d q o c m e t u v x = true) (hx : x.size ≤ 127) (hd : 0 ≤ d) : call1 T (n + 5) (.fn 12) [.agg (fr 2 s d q o c m e t u v x)] H = some (enV 2 s d q o c m e t u v x, H) := by
  refine call_pure e12 (by rfl) ?_
  have h18 := fun H => s18 (n + 2) H 2 s d q o c m e t u v x
  rw [hch] at h18
  obtain ⟨hs, hd1, hd0, hq, ho, hk⟩ := chB_k hch
  obtain ⟨hee, hx0⟩ : (-32768 ≤ e ∧ e ≤ 32767) ∧ x = ⟨#[]⟩ := by rcases hk with h | h | h | h <;> first | exact h.2 | (exfalso; omega)
  have h29 := fun es b0 => s29 (n + 3) es b0
  obtain ⟨B0, hB0⟩ : ∃ B, B = [] ++ bits 3 2 := ⟨_, rfl⟩
  have lB0 : B0.length = 3 := by rw [hB0, List.length_append, bits_len] <;> rfl
  have h0 : ∀ es, call1 T (n + 4) (.fn 30) [.ptr 1 0 0 0, .int .i64 3, .int .i64 2] (⟨[.box (fr 2 s d q o c m e t u v x), .box [.slc 2 0 0 0, .int .i64 0], .arr 0 1 [] false], es, 0⟩) = some (.tup [], rH (.box (fr 2 s d q o c m e t u v x)) B0 [] (es ++ rk 3)) := fun es => by
    have := s30 (.box (fr 2 s d q o c m e t u v x)) [] es [] (n + 2) 3 2 (by omega) (by omega) (by omega) (by rw [List.length_nil]; omega)
    rw [hB0]; exact this
  obtain ⟨B1, hB1⟩ : ∃ B, B = B0 ++ bits 5 s.toNat := ⟨_, rfl⟩
  have lB1 : B1.length = 8 := by rw [hB1, List.length_append, bits_len, lB0]
  have h1 : ∀ es, call1 T (n + 4) (.fn 30) [.ptr 1 0 0 0, .int .i64 5, .int .i64 s] (rH (.box (fr 2 s d q o c m e t u v x)) B0 [] es) = some (.tup [], rH (.box (fr 2 s d q o c m e t u v x)) B1 [] (es ++ rk 5)) := fun es => by
    have := s30 (.box (fr 2 s d q o c m e t u v x)) [] es B0 (n + 2) 5 s.toNat (by omega) (by omega) (by omega) (by rw [lB0]; omega)
    rw [Int.toNat_of_nonneg hs.1] at this
    rw [hB1]; exact this
  obtain ⟨B2, hB2⟩ : ∃ B, B = B1 ++ bits 1 (bt true) := ⟨_, rfl⟩
  have lB2 : B2.length = 9 := by rw [hB2, List.length_append, bits_len, lB1]
  have h2 : ∀ es, call1 T (n + 4) (.fn 31) [.ptr 1 0 0 0, .bool true] (rH (.box (fr 2 s d q o c m e t u v x)) B1 [] es) = some (.tup [], rH (.box (fr 2 s d q o c m e t u v x)) B2 [] (es ++ rk 1)) := fun es => by
    have := s31 (.box (fr 2 s d q o c m e t u v x)) [] es B1 (n + 2) true (by rw [lB1]; omega)
    rw [hB2]; exact this
  obtain ⟨B3, hB3⟩ : ∃ B, B = B2 ++ bits 5 d.toNat := ⟨_, rfl⟩
  have lB3 : B3.length = 14 := by rw [hB3, List.length_append, bits_len, lB2]
  have h3 : ∀ es, call1 T (n + 4) (.fn 30) [.ptr 1 0 0 0, .int .i64 5, .int .i64 d] (rH (.box (fr 2 s d q o c m e t u v x)) B2 [] es) = some (.tup [], rH (.box (fr 2 s d q o c m e t u v x)) B3 [] (es ++ rk 5)) := fun es => by
    have := s30 (.box (fr 2 s d q o c m e t u v x)) [] es B2 (n + 2) 5 d.toNat (by omega) (by omega) (by omega) (by rw [lB2]; omega)
    rw [Int.toNat_of_nonneg hd] at this
    rw [hB3]; exact this
  obtain ⟨B4, hB4⟩ : ∃ B, B = B3 ++ bits 8 q.toNat := ⟨_, rfl⟩
  have lB4 : B4.length = 22 := by rw [hB4, List.length_append, bits_len, lB3]
  have h4 : ∀ es, call1 T (n + 4) (.fn 30) [.ptr 1 0 0 0, .int .i64 8, .int .i64 q] (rH (.box (fr 2 s d q o c m e t u v x)) B3 [] es) = some (.tup [], rH (.box (fr 2 s d q o c m e t u v x)) B4 [] (es ++ rk 8)) := fun es => by
    have := s30 (.box (fr 2 s d q o c m e t u v x)) [] es B3 (n + 2) 8 q.toNat (by omega) (by omega) (by omega) (by rw [lB3]; omega)
    rw [Int.toNat_of_nonneg hq.1] at this
    rw [hB4]; exact this
  obtain ⟨B5, hB5⟩ : ∃ B, B = B4 ++ bits 8 o.toNat := ⟨_, rfl⟩
  have lB5 : B5.length = 30 := by rw [hB5, List.length_append, bits_len, lB4]
  have h5 : ∀ es, call1 T (n + 4) (.fn 30) [.ptr 1 0 0 0, .int .i64 8, .int .i64 o] (rH (.box (fr 2 s d q o c m e t u v x)) B4 [] es) = some (.tup [], rH (.box (fr 2 s d q o c m e t u v x)) B5 [] (es ++ rk 8)) := fun es => by
    have := s30 (.box (fr 2 s d q o c m e t u v x)) [] es B4 (n + 2) 8 o.toNat (by omega) (by omega) (by omega) (by rw [lB4]; omega)
    rw [Int.toNat_of_nonneg ho.1] at this
    rw [hB5]; exact this
  obtain ⟨B6, hB6⟩ : ∃ B, B = B5 ++ bits 16 (sgN e) := ⟨_, rfl⟩
  have lB6 : B6.length = 46 := by rw [hB6, List.length_append, bits_len, lB5]
  have h6 : ∀ es, call1 T (n + 4) (.fn 32) [.ptr 1 0 0 0, .int .i64 16, .int .i64 e] (rH (.box (fr 2 s d q o c m e t u v x)) B5 [] es) = some (.tup [], rH (.box (fr 2 s d q o c m e t u v x)) B6 [] (es ++ rk 16)) := fun es => by
    have := s32 (.box (fr 2 s d q o c m e t u v x)) [] es B5 (n + 2) e hee.1 hee.2 (by rw [lB5]; omega)
    rw [hB6]; exact this
  have hE : enBits 2 s d q o c m e t u v x = B6 := by
    have kd1 : decide ((2 : Int) = 1) = false := rfl
    have kd2 : decide ((2 : Int) = 2) = true := rfl
    have kd3 : decide ((2 : Int) = 3) = false := rfl
    have hd2 : decide (0 ≤ d) = true := decide_eq_true (by omega)
    rw [hB6, hB5, hB4, hB3, hB2, hB1, hB0]
    have h3 : ((2 : Int)).toNat = 2 := rfl
    simp only [enBits, bdBits, tgBits, kd1, kd2, kd3, hd2, h3, decide_true, decide_false, cond_true, cond_false, List.append_assoc, List.nil_append, List.append_nil]
  have h34 := fun es => s34 (n + 3) (.box (fr 2 s d q o c m e t u v x)) es B6 (by rw [lB6]; omega)
  have hps : (pkB B6).size ≤ 1000 := by rw [pkB_size, lB6]; unfold nb; omega
  obtain ⟨P, hP⟩ : ∃ P, pkB B6 = P := ⟨_, rfl⟩
  have h35 := fun H => s35 n H (pkB B6) hps
  have hsz : (prot P).size = P.size + 2 := prot_size _
  unfold enV
  rw [hE, hch, decide_eq_false (show ¬ 127 < x.size by omega)]
  rw [hP] at h34 h35 ⊢
  have xx : decide ((127 : Int) < (x.size : Int)) = false := decide_eq_false (by omega)
  have xd : decide ((0 : Int) ≤ d) = true := decide_eq_true (by omega)
  cases hp : decide (127 < P.size + 2) with
  | false =>
    have hp2 : decide ((127 : Int) < ((P.size + 2 : Nat) : Int)) = false := by simp only [decide_eq_false_iff_not] at hp ⊢; omega
    simp only [c12, heap0, go_sem, Int.cast_ofNat_Int, Int.reduceToNat, Bool.true_xor, Bool.false_xor, Bool.xor_true, Bool.xor_false, Nat.reduceAdd, Nat.reduceBEq, Nat.reduceLeDiff, Nat.reduceLT, Nat.reduceMul, Nat.reduceSub, Int.reduceEq, Int.reduceLT, Int.reduceLE, Int.reduceNeg, h18, h29, h0, h1, h2, h3, h4, h5, h6, h34, h35, xx, xd, hsz, hp, hp2, Nat.reduceMod, Nat.reduceDiv, List.length_cons, List.length_nil, List.filter_replicate, List.all_replicate, List.filter_append, List.all_append, Bool.and_self, ite_self, if_true]
  | true =>
    have hp2 : decide ((127 : Int) < ((P.size + 2 : Nat) : Int)) = true := by simp only [decide_eq_true_eq] at hp ⊢; omega
    simp only [c12, heap0, go_sem, Int.cast_ofNat_Int, Int.reduceToNat, Bool.true_xor, Bool.false_xor, Bool.xor_true, Bool.xor_false, Nat.reduceAdd, Nat.reduceBEq, Nat.reduceLeDiff, Nat.reduceLT, Nat.reduceMul, Nat.reduceSub, Int.reduceEq, Int.reduceLT, Int.reduceLE, Int.reduceNeg, h18, h29, h0, h1, h2, h3, h4, h5, h6, h34, h35, xx, xd, hsz, hp, hp2, Nat.reduceMod, Nat.reduceDiv, List.length_cons, List.length_nil, List.filter_replicate, List.all_replicate, List.filter_append, List.all_append, Bool.and_self, ite_self, if_true]
theorem s12_3b (n : Nat) (H : Heap) (s d q o c m e t u v : Int) (x : ByteArray) (hch : chB 3 s d q o c m e t u v x = true) (hx : x.size ≤ 127) (hd : d = -1) : call1 T (n + 5) (.fn 12) [.agg (fr 3 s d q o c m e t u v x)] H = some (enV 3 s d q o c m e t u v x, H) := by
  refine call_pure e12 (by rfl) ?_
  have h18 := fun H => s18 (n + 2) H 3 s d q o c m e t u v x
  rw [hch] at h18
  obtain ⟨hs, hd1, hd0, hq, ho, hk⟩ := chB_k hch
  obtain ⟨htt, huu, hvv⟩ : (0 ≤ t ∧ t ≤ 109951162) ∧ (0 ≤ u ∧ u ≤ 65535) ∧ (0 ≤ v ∧ v ≤ 65535) := by rcases hk with h | h | h | h <;> first | exact h.2 | (exfalso; omega)
  have h29 := fun es b0 => s29 (n + 3) es b0
  obtain ⟨B0, hB0⟩ : ∃ B, B = [] ++ bits 3 3 := ⟨_, rfl⟩
  have lB0 : B0.length = 3 := by rw [hB0, List.length_append, bits_len] <;> rfl
  have h0 : ∀ es, call1 T (n + 4) (.fn 30) [.ptr 1 0 0 0, .int .i64 3, .int .i64 3] (⟨[.box (fr 3 s d q o c m e t u v x), .box [.slc 2 0 0 0, .int .i64 0], .arr 0 1 [] false], es, 0⟩) = some (.tup [], rH (.box (fr 3 s d q o c m e t u v x)) B0 [] (es ++ rk 3)) := fun es => by
    have := s30 (.box (fr 3 s d q o c m e t u v x)) [] es [] (n + 2) 3 3 (by omega) (by omega) (by omega) (by rw [List.length_nil]; omega)
    rw [hB0]; exact this
  obtain ⟨B1, hB1⟩ : ∃ B, B = B0 ++ bits 5 s.toNat := ⟨_, rfl⟩
  have lB1 : B1.length = 8 := by rw [hB1, List.length_append, bits_len, lB0]
  have h1 : ∀ es, call1 T (n + 4) (.fn 30) [.ptr 1 0 0 0, .int .i64 5, .int .i64 s] (rH (.box (fr 3 s d q o c m e t u v x)) B0 [] es) = some (.tup [], rH (.box (fr 3 s d q o c m e t u v x)) B1 [] (es ++ rk 5)) := fun es => by
    have := s30 (.box (fr 3 s d q o c m e t u v x)) [] es B0 (n + 2) 5 s.toNat (by omega) (by omega) (by omega) (by rw [lB0]; omega)
    rw [Int.toNat_of_nonneg hs.1] at this
    rw [hB1]; exact this
  obtain ⟨B2, hB2⟩ : ∃ B, B = B1 ++ bits 1 (bt false) := ⟨_, rfl⟩
  have lB2 : B2.length = 9 := by rw [hB2, List.length_append, bits_len, lB1]
  have h2 : ∀ es, call1 T (n + 4) (.fn 31) [.ptr 1 0 0 0, .bool false] (rH (.box (fr 3 s d q o c m e t u v x)) B1 [] es) = some (.tup [], rH (.box (fr 3 s d q o c m e t u v x)) B2 [] (es ++ rk 1)) := fun es => by
    have := s31 (.box (fr 3 s d q o c m e t u v x)) [] es B1 (n + 2) false (by rw [lB1]; omega)
    rw [hB2]; exact this
  obtain ⟨B3, hB3⟩ : ∃ B, B = B2 ++ bits 8 q.toNat := ⟨_, rfl⟩
  have lB3 : B3.length = 17 := by rw [hB3, List.length_append, bits_len, lB2]
  have h3 : ∀ es, call1 T (n + 4) (.fn 30) [.ptr 1 0 0 0, .int .i64 8, .int .i64 q] (rH (.box (fr 3 s d q o c m e t u v x)) B2 [] es) = some (.tup [], rH (.box (fr 3 s d q o c m e t u v x)) B3 [] (es ++ rk 8)) := fun es => by
    have := s30 (.box (fr 3 s d q o c m e t u v x)) [] es B2 (n + 2) 8 q.toNat (by omega) (by omega) (by omega) (by rw [lB2]; omega)
    rw [Int.toNat_of_nonneg hq.1] at this
    rw [hB3]; exact this
  obtain ⟨B4, hB4⟩ : ∃ B, B = B3 ++ bits 8 o.toNat := ⟨_, rfl⟩
  have lB4 : B4.length = 25 := by rw [hB4, List.length_append, bits_len, lB3]
  have h4 : ∀ es, call1 T (n + 4) (.fn 30) [.ptr 1 0 0 0, .int .i64 8, .int .i64 o] (rH (.box (fr 3 s d q o c m e t u v x)) B3 [] es) = some (.tup [], rH (.box (fr 3 s d q o c m e t u v x)) B4 [] (es ++ rk 8)) := fun es => by
    have := s30 (.box (fr 3 s d q o c m e t u v x)) [] es B3 (n + 2) 8 o.toNat (by omega) (by omega) (by omega) (by rw [lB3]; omega)
    rw [Int.toNat_of_nonneg ho.1] at this
    rw [hB4]; exact this
  obtain ⟨B5, hB5⟩ : ∃ B, B = B4 ++ bits 27 t.toNat := ⟨_, rfl⟩
  have lB5 : B5.length = 52 := by rw [hB5, List.length_append, bits_len, lB4]
  have h5 : ∀ es, call1 T (n + 4) (.fn 30) [.ptr 1 0 0 0, .int .i64 27, .int .i64 t] (rH (.box (fr 3 s d q o c m e t u v x)) B4 [] es) = some (.tup [], rH (.box (fr 3 s d q o c m e t u v x)) B5 [] (es ++ rk 27)) := fun es => by
    have := s30 (.box (fr 3 s d q o c m e t u v x)) [] es B4 (n + 2) 27 t.toNat (by omega) (by omega) (by omega) (by rw [lB4]; omega)
    rw [Int.toNat_of_nonneg htt.1] at this
    rw [hB5]; exact this
  obtain ⟨B6, hB6⟩ : ∃ B, B = B5 ++ bits 16 u.toNat := ⟨_, rfl⟩
  have lB6 : B6.length = 68 := by rw [hB6, List.length_append, bits_len, lB5]
  have h6 : ∀ es, call1 T (n + 4) (.fn 30) [.ptr 1 0 0 0, .int .i64 16, .int .i64 u] (rH (.box (fr 3 s d q o c m e t u v x)) B5 [] es) = some (.tup [], rH (.box (fr 3 s d q o c m e t u v x)) B6 [] (es ++ rk 16)) := fun es => by
    have := s30 (.box (fr 3 s d q o c m e t u v x)) [] es B5 (n + 2) 16 u.toNat (by omega) (by omega) (by omega) (by rw [lB5]; omega)
    rw [Int.toNat_of_nonneg huu.1] at this
    rw [hB6]; exact this
  obtain ⟨B7, hB7⟩ : ∃ B, B = B6 ++ bits 16 v.toNat := ⟨_, rfl⟩
  have lB7 : B7.length = 84 := by rw [hB7, List.length_append, bits_len, lB6]
  have h7 : ∀ es, call1 T (n + 4) (.fn 30) [.ptr 1 0 0 0, .int .i64 16, .int .i64 v] (rH (.box (fr 3 s d q o c m e t u v x)) B6 [] es) = some (.tup [], rH (.box (fr 3 s d q o c m e t u v x)) B7 [] (es ++ rk 16)) := fun es => by
    have := s30 (.box (fr 3 s d q o c m e t u v x)) [] es B6 (n + 2) 16 v.toNat (by omega) (by omega) (by omega) (by rw [lB6]; omega)
    rw [Int.toNat_of_nonneg hvv.1] at this
    rw [hB7]; exact this
  obtain ⟨B8, hB8⟩ : ∃ B, B = B7 ++ bits 7 x.size ++ txB x x.size := ⟨_, rfl⟩
  have lB8 : B8.length = 91 + 8 * x.size := by rw [hB8, List.length_append, List.length_append, bits_len, lB7, txB_len]
  have h8 : ∀ es, call1 T (n + 4) (.fn 33) [.ptr 1 0 0 0, .int .i64 127, .str x] (rH (.box (fr 3 s d q o c m e t u v x)) B7 [] es) = some (.tup [], rH (.box (fr 3 s d q o c m e t u v x)) B8 [] (es ++ rk (7 + 8 * x.size))) := fun es => by
    rw [hB8]; exact s33 (.box (fr 3 s d q o c m e t u v x)) [] es B7 (n + 2) x hx (by rw [lB7]; omega)
  have hE : enBits 3 s d q o c m e t u v x = B8 := by
    have kd1 : decide ((3 : Int) = 1) = false := rfl
    have kd2 : decide ((3 : Int) = 2) = false := rfl
    have kd3 : decide ((3 : Int) = 3) = true := rfl
    have hd2 : decide (0 ≤ d) = false := decide_eq_false (by omega)
    rw [hB8, hB7, hB6, hB5, hB4, hB3, hB2, hB1, hB0]
    have h3 : ((3 : Int)).toNat = 3 := rfl
    simp only [enBits, bdBits, tgBits, kd1, kd2, kd3, hd2, h3, decide_true, decide_false, cond_true, cond_false, List.append_assoc, List.nil_append, List.append_nil]
  have h34 := fun es => s34 (n + 3) (.box (fr 3 s d q o c m e t u v x)) es B8 (by rw [lB8]; omega)
  have hps : (pkB B8).size ≤ 1000 := by rw [pkB_size, lB8]; unfold nb; omega
  obtain ⟨P, hP⟩ : ∃ P, pkB B8 = P := ⟨_, rfl⟩
  have h35 := fun H => s35 n H (pkB B8) hps
  have hsz : (prot P).size = P.size + 2 := prot_size _
  unfold enV
  rw [hE, hch, decide_eq_false (show ¬ 127 < x.size by omega)]
  rw [hP] at h34 h35 ⊢
  have xx : decide ((127 : Int) < (x.size : Int)) = false := decide_eq_false (by omega)
  have xd : decide ((0 : Int) ≤ d) = false := decide_eq_false (by omega)
  cases hp : decide (127 < P.size + 2) with
  | false =>
    have hp2 : decide ((127 : Int) < ((P.size + 2 : Nat) : Int)) = false := by simp only [decide_eq_false_iff_not] at hp ⊢; omega
    simp only [c12, heap0, go_sem, Int.cast_ofNat_Int, Int.reduceToNat, Bool.true_xor, Bool.false_xor, Bool.xor_true, Bool.xor_false, Nat.reduceAdd, Nat.reduceBEq, Nat.reduceLeDiff, Nat.reduceLT, Nat.reduceMul, Nat.reduceSub, Int.reduceEq, Int.reduceLT, Int.reduceLE, Int.reduceNeg, h18, h29, h0, h1, h2, h3, h4, h5, h6, h7, h8, h34, h35, xx, xd, hsz, hp, hp2, Nat.reduceMod, Nat.reduceDiv, List.length_cons, List.length_nil, List.filter_replicate, List.all_replicate, List.filter_append, List.all_append, Bool.and_self, ite_self, if_true]
  | true =>
    have hp2 : decide ((127 : Int) < ((P.size + 2 : Nat) : Int)) = true := by simp only [decide_eq_true_eq] at hp ⊢; omega
    simp only [c12, heap0, go_sem, Int.cast_ofNat_Int, Int.reduceToNat, Bool.true_xor, Bool.false_xor, Bool.xor_true, Bool.xor_false, Nat.reduceAdd, Nat.reduceBEq, Nat.reduceLeDiff, Nat.reduceLT, Nat.reduceMul, Nat.reduceSub, Int.reduceEq, Int.reduceLT, Int.reduceLE, Int.reduceNeg, h18, h29, h0, h1, h2, h3, h4, h5, h6, h7, h8, h34, h35, xx, xd, hsz, hp, hp2, Nat.reduceMod, Nat.reduceDiv, List.length_cons, List.length_nil, List.filter_replicate, List.all_replicate, List.filter_append, List.all_append, Bool.and_self, ite_self, if_true]
theorem s12_4a (n : Nat) (H : Heap) (s d q o c m e t u v : Int) (x : ByteArray) (hch : chB 4 s d q o c m e t u v x = true) (hx : x.size ≤ 127) (hd : 0 ≤ d) : call1 T (n + 5) (.fn 12) [.agg (fr 4 s d q o c m e t u v x)] H = some (enV 4 s d q o c m e t u v x, H) := by
  refine call_pure e12 (by rfl) ?_
  have h18 := fun H => s18 (n + 2) H 4 s d q o c m e t u v x
  rw [hch] at h18
  obtain ⟨hs, hd1, hd0, hq, ho, hk⟩ := chB_k hch
  have h29 := fun es b0 => s29 (n + 3) es b0
  obtain ⟨B0, hB0⟩ : ∃ B, B = [] ++ bits 3 4 := ⟨_, rfl⟩
  have lB0 : B0.length = 3 := by rw [hB0, List.length_append, bits_len] <;> rfl
  have h0 : ∀ es, call1 T (n + 4) (.fn 30) [.ptr 1 0 0 0, .int .i64 3, .int .i64 4] (⟨[.box (fr 4 s d q o c m e t u v x), .box [.slc 2 0 0 0, .int .i64 0], .arr 0 1 [] false], es, 0⟩) = some (.tup [], rH (.box (fr 4 s d q o c m e t u v x)) B0 [] (es ++ rk 3)) := fun es => by
    have := s30 (.box (fr 4 s d q o c m e t u v x)) [] es [] (n + 2) 3 4 (by omega) (by omega) (by omega) (by rw [List.length_nil]; omega)
    rw [hB0]; exact this
  obtain ⟨B1, hB1⟩ : ∃ B, B = B0 ++ bits 5 s.toNat := ⟨_, rfl⟩
  have lB1 : B1.length = 8 := by rw [hB1, List.length_append, bits_len, lB0]
  have h1 : ∀ es, call1 T (n + 4) (.fn 30) [.ptr 1 0 0 0, .int .i64 5, .int .i64 s] (rH (.box (fr 4 s d q o c m e t u v x)) B0 [] es) = some (.tup [], rH (.box (fr 4 s d q o c m e t u v x)) B1 [] (es ++ rk 5)) := fun es => by
    have := s30 (.box (fr 4 s d q o c m e t u v x)) [] es B0 (n + 2) 5 s.toNat (by omega) (by omega) (by omega) (by rw [lB0]; omega)
    rw [Int.toNat_of_nonneg hs.1] at this
    rw [hB1]; exact this
  obtain ⟨B2, hB2⟩ : ∃ B, B = B1 ++ bits 1 (bt true) := ⟨_, rfl⟩
  have lB2 : B2.length = 9 := by rw [hB2, List.length_append, bits_len, lB1]
  have h2 : ∀ es, call1 T (n + 4) (.fn 31) [.ptr 1 0 0 0, .bool true] (rH (.box (fr 4 s d q o c m e t u v x)) B1 [] es) = some (.tup [], rH (.box (fr 4 s d q o c m e t u v x)) B2 [] (es ++ rk 1)) := fun es => by
    have := s31 (.box (fr 4 s d q o c m e t u v x)) [] es B1 (n + 2) true (by rw [lB1]; omega)
    rw [hB2]; exact this
  obtain ⟨B3, hB3⟩ : ∃ B, B = B2 ++ bits 5 d.toNat := ⟨_, rfl⟩
  have lB3 : B3.length = 14 := by rw [hB3, List.length_append, bits_len, lB2]
  have h3 : ∀ es, call1 T (n + 4) (.fn 30) [.ptr 1 0 0 0, .int .i64 5, .int .i64 d] (rH (.box (fr 4 s d q o c m e t u v x)) B2 [] es) = some (.tup [], rH (.box (fr 4 s d q o c m e t u v x)) B3 [] (es ++ rk 5)) := fun es => by
    have := s30 (.box (fr 4 s d q o c m e t u v x)) [] es B2 (n + 2) 5 d.toNat (by omega) (by omega) (by omega) (by rw [lB2]; omega)
    rw [Int.toNat_of_nonneg hd] at this
    rw [hB3]; exact this
  obtain ⟨B4, hB4⟩ : ∃ B, B = B3 ++ bits 8 q.toNat := ⟨_, rfl⟩
  have lB4 : B4.length = 22 := by rw [hB4, List.length_append, bits_len, lB3]
  have h4 : ∀ es, call1 T (n + 4) (.fn 30) [.ptr 1 0 0 0, .int .i64 8, .int .i64 q] (rH (.box (fr 4 s d q o c m e t u v x)) B3 [] es) = some (.tup [], rH (.box (fr 4 s d q o c m e t u v x)) B4 [] (es ++ rk 8)) := fun es => by
    have := s30 (.box (fr 4 s d q o c m e t u v x)) [] es B3 (n + 2) 8 q.toNat (by omega) (by omega) (by omega) (by rw [lB3]; omega)
    rw [Int.toNat_of_nonneg hq.1] at this
    rw [hB4]; exact this
  obtain ⟨B5, hB5⟩ : ∃ B, B = B4 ++ bits 8 o.toNat := ⟨_, rfl⟩
  have lB5 : B5.length = 30 := by rw [hB5, List.length_append, bits_len, lB4]
  have h5 : ∀ es, call1 T (n + 4) (.fn 30) [.ptr 1 0 0 0, .int .i64 8, .int .i64 o] (rH (.box (fr 4 s d q o c m e t u v x)) B4 [] es) = some (.tup [], rH (.box (fr 4 s d q o c m e t u v x)) B5 [] (es ++ rk 8)) := fun es => by
    have := s30 (.box (fr 4 s d q o c m e t u v x)) [] es B4 (n + 2) 8 o.toNat (by omega) (by omega) (by omega) (by rw [lB4]; omega)
    rw [Int.toNat_of_nonneg ho.1] at this
    rw [hB5]; exact this
  obtain ⟨B6, hB6⟩ : ∃ B, B = B5 ++ bits 7 x.size ++ txB x x.size := ⟨_, rfl⟩
  have lB6 : B6.length = 37 + 8 * x.size := by rw [hB6, List.length_append, List.length_append, bits_len, lB5, txB_len]
  have h6 : ∀ es, call1 T (n + 4) (.fn 33) [.ptr 1 0 0 0, .int .i64 127, .str x] (rH (.box (fr 4 s d q o c m e t u v x)) B5 [] es) = some (.tup [], rH (.box (fr 4 s d q o c m e t u v x)) B6 [] (es ++ rk (7 + 8 * x.size))) := fun es => by
    rw [hB6]; exact s33 (.box (fr 4 s d q o c m e t u v x)) [] es B5 (n + 2) x hx (by rw [lB5]; omega)
  have hE : enBits 4 s d q o c m e t u v x = B6 := by
    have kd1 : decide ((4 : Int) = 1) = false := rfl
    have kd2 : decide ((4 : Int) = 2) = false := rfl
    have kd3 : decide ((4 : Int) = 3) = false := rfl
    have hd2 : decide (0 ≤ d) = true := decide_eq_true (by omega)
    rw [hB6, hB5, hB4, hB3, hB2, hB1, hB0]
    have h3 : ((4 : Int)).toNat = 4 := rfl
    simp only [enBits, bdBits, tgBits, kd1, kd2, kd3, hd2, h3, decide_true, decide_false, cond_true, cond_false, List.append_assoc, List.nil_append, List.append_nil]
  have h34 := fun es => s34 (n + 3) (.box (fr 4 s d q o c m e t u v x)) es B6 (by rw [lB6]; omega)
  have hps : (pkB B6).size ≤ 1000 := by rw [pkB_size, lB6]; unfold nb; omega
  obtain ⟨P, hP⟩ : ∃ P, pkB B6 = P := ⟨_, rfl⟩
  have h35 := fun H => s35 n H (pkB B6) hps
  have hsz : (prot P).size = P.size + 2 := prot_size _
  unfold enV
  rw [hE, hch, decide_eq_false (show ¬ 127 < x.size by omega)]
  rw [hP] at h34 h35 ⊢
  have xx : decide ((127 : Int) < (x.size : Int)) = false := decide_eq_false (by omega)
  have xd : decide ((0 : Int) ≤ d) = true := decide_eq_true (by omega)
  cases hp : decide (127 < P.size + 2) with
  | false =>
    have hp2 : decide ((127 : Int) < ((P.size + 2 : Nat) : Int)) = false := by simp only [decide_eq_false_iff_not] at hp ⊢; omega
    simp only [c12, heap0, go_sem, Int.cast_ofNat_Int, Int.reduceToNat, Bool.true_xor, Bool.false_xor, Bool.xor_true, Bool.xor_false, Nat.reduceAdd, Nat.reduceBEq, Nat.reduceLeDiff, Nat.reduceLT, Nat.reduceMul, Nat.reduceSub, Int.reduceEq, Int.reduceLT, Int.reduceLE, Int.reduceNeg, h18, h29, h0, h1, h2, h3, h4, h5, h6, h34, h35, xx, xd, hsz, hp, hp2, Nat.reduceMod, Nat.reduceDiv, List.length_cons, List.length_nil, List.filter_replicate, List.all_replicate, List.filter_append, List.all_append, Bool.and_self, ite_self, if_true]
  | true =>
    have hp2 : decide ((127 : Int) < ((P.size + 2 : Nat) : Int)) = true := by simp only [decide_eq_true_eq] at hp ⊢; omega
    simp only [c12, heap0, go_sem, Int.cast_ofNat_Int, Int.reduceToNat, Bool.true_xor, Bool.false_xor, Bool.xor_true, Bool.xor_false, Nat.reduceAdd, Nat.reduceBEq, Nat.reduceLeDiff, Nat.reduceLT, Nat.reduceMul, Nat.reduceSub, Int.reduceEq, Int.reduceLT, Int.reduceLE, Int.reduceNeg, h18, h29, h0, h1, h2, h3, h4, h5, h6, h34, h35, xx, xd, hsz, hp, hp2, Nat.reduceMod, Nat.reduceDiv, List.length_cons, List.length_nil, List.filter_replicate, List.all_replicate, List.filter_append, List.all_append, Bool.and_self, ite_self, if_true]
theorem s12_4b (n : Nat) (H : Heap) (s d q o c m e t u v : Int) (x : ByteArray) (hch : chB 4 s d q o c m e t u v x = true) (hx : x.size ≤ 127) (hd : d = -1) : call1 T (n + 5) (.fn 12) [.agg (fr 4 s d q o c m e t u v x)] H = some (enV 4 s d q o c m e t u v x, H) := by
  refine call_pure e12 (by rfl) ?_
  have h18 := fun H => s18 (n + 2) H 4 s d q o c m e t u v x
  rw [hch] at h18
  obtain ⟨hs, hd1, hd0, hq, ho, hk⟩ := chB_k hch
  have h29 := fun es b0 => s29 (n + 3) es b0
  obtain ⟨B0, hB0⟩ : ∃ B, B = [] ++ bits 3 4 := ⟨_, rfl⟩
  have lB0 : B0.length = 3 := by rw [hB0, List.length_append, bits_len] <;> rfl
  have h0 : ∀ es, call1 T (n + 4) (.fn 30) [.ptr 1 0 0 0, .int .i64 3, .int .i64 4] (⟨[.box (fr 4 s d q o c m e t u v x), .box [.slc 2 0 0 0, .int .i64 0], .arr 0 1 [] false], es, 0⟩) = some (.tup [], rH (.box (fr 4 s d q o c m e t u v x)) B0 [] (es ++ rk 3)) := fun es => by
    have := s30 (.box (fr 4 s d q o c m e t u v x)) [] es [] (n + 2) 3 4 (by omega) (by omega) (by omega) (by rw [List.length_nil]; omega)
    rw [hB0]; exact this
  obtain ⟨B1, hB1⟩ : ∃ B, B = B0 ++ bits 5 s.toNat := ⟨_, rfl⟩
  have lB1 : B1.length = 8 := by rw [hB1, List.length_append, bits_len, lB0]
  have h1 : ∀ es, call1 T (n + 4) (.fn 30) [.ptr 1 0 0 0, .int .i64 5, .int .i64 s] (rH (.box (fr 4 s d q o c m e t u v x)) B0 [] es) = some (.tup [], rH (.box (fr 4 s d q o c m e t u v x)) B1 [] (es ++ rk 5)) := fun es => by
    have := s30 (.box (fr 4 s d q o c m e t u v x)) [] es B0 (n + 2) 5 s.toNat (by omega) (by omega) (by omega) (by rw [lB0]; omega)
    rw [Int.toNat_of_nonneg hs.1] at this
    rw [hB1]; exact this
  obtain ⟨B2, hB2⟩ : ∃ B, B = B1 ++ bits 1 (bt false) := ⟨_, rfl⟩
  have lB2 : B2.length = 9 := by rw [hB2, List.length_append, bits_len, lB1]
  have h2 : ∀ es, call1 T (n + 4) (.fn 31) [.ptr 1 0 0 0, .bool false] (rH (.box (fr 4 s d q o c m e t u v x)) B1 [] es) = some (.tup [], rH (.box (fr 4 s d q o c m e t u v x)) B2 [] (es ++ rk 1)) := fun es => by
    have := s31 (.box (fr 4 s d q o c m e t u v x)) [] es B1 (n + 2) false (by rw [lB1]; omega)
    rw [hB2]; exact this
  obtain ⟨B3, hB3⟩ : ∃ B, B = B2 ++ bits 8 q.toNat := ⟨_, rfl⟩
  have lB3 : B3.length = 17 := by rw [hB3, List.length_append, bits_len, lB2]
  have h3 : ∀ es, call1 T (n + 4) (.fn 30) [.ptr 1 0 0 0, .int .i64 8, .int .i64 q] (rH (.box (fr 4 s d q o c m e t u v x)) B2 [] es) = some (.tup [], rH (.box (fr 4 s d q o c m e t u v x)) B3 [] (es ++ rk 8)) := fun es => by
    have := s30 (.box (fr 4 s d q o c m e t u v x)) [] es B2 (n + 2) 8 q.toNat (by omega) (by omega) (by omega) (by rw [lB2]; omega)
    rw [Int.toNat_of_nonneg hq.1] at this
    rw [hB3]; exact this
  obtain ⟨B4, hB4⟩ : ∃ B, B = B3 ++ bits 8 o.toNat := ⟨_, rfl⟩
  have lB4 : B4.length = 25 := by rw [hB4, List.length_append, bits_len, lB3]
  have h4 : ∀ es, call1 T (n + 4) (.fn 30) [.ptr 1 0 0 0, .int .i64 8, .int .i64 o] (rH (.box (fr 4 s d q o c m e t u v x)) B3 [] es) = some (.tup [], rH (.box (fr 4 s d q o c m e t u v x)) B4 [] (es ++ rk 8)) := fun es => by
    have := s30 (.box (fr 4 s d q o c m e t u v x)) [] es B3 (n + 2) 8 o.toNat (by omega) (by omega) (by omega) (by rw [lB3]; omega)
    rw [Int.toNat_of_nonneg ho.1] at this
    rw [hB4]; exact this
  obtain ⟨B5, hB5⟩ : ∃ B, B = B4 ++ bits 7 x.size ++ txB x x.size := ⟨_, rfl⟩
  have lB5 : B5.length = 32 + 8 * x.size := by rw [hB5, List.length_append, List.length_append, bits_len, lB4, txB_len]
  have h5 : ∀ es, call1 T (n + 4) (.fn 33) [.ptr 1 0 0 0, .int .i64 127, .str x] (rH (.box (fr 4 s d q o c m e t u v x)) B4 [] es) = some (.tup [], rH (.box (fr 4 s d q o c m e t u v x)) B5 [] (es ++ rk (7 + 8 * x.size))) := fun es => by
    rw [hB5]; exact s33 (.box (fr 4 s d q o c m e t u v x)) [] es B4 (n + 2) x hx (by rw [lB4]; omega)
  have hE : enBits 4 s d q o c m e t u v x = B5 := by
    have kd1 : decide ((4 : Int) = 1) = false := rfl
    have kd2 : decide ((4 : Int) = 2) = false := rfl
    have kd3 : decide ((4 : Int) = 3) = false := rfl
    have hd2 : decide (0 ≤ d) = false := decide_eq_false (by omega)
    rw [hB5, hB4, hB3, hB2, hB1, hB0]
    have h3 : ((4 : Int)).toNat = 4 := rfl
    simp only [enBits, bdBits, tgBits, kd1, kd2, kd3, hd2, h3, decide_true, decide_false, cond_true, cond_false, List.append_assoc, List.nil_append, List.append_nil]
  have h34 := fun es => s34 (n + 3) (.box (fr 4 s d q o c m e t u v x)) es B5 (by rw [lB5]; omega)
  have hps : (pkB B5).size ≤ 1000 := by rw [pkB_size, lB5]; unfold nb; omega
  obtain ⟨P, hP⟩ : ∃ P, pkB B5 = P := ⟨_, rfl⟩
  have h35 := fun H => s35 n H (pkB B5) hps
  have hsz : (prot P).size = P.size + 2 := prot_size _
  unfold enV
  rw [hE, hch, decide_eq_false (show ¬ 127 < x.size by omega)]
  rw [hP] at h34 h35 ⊢
  have xx : decide ((127 : Int) < (x.size : Int)) = false := decide_eq_false (by omega)
  have xd : decide ((0 : Int) ≤ d) = false := decide_eq_false (by omega)
  cases hp : decide (127 < P.size + 2) with
  | false =>
    have hp2 : decide ((127 : Int) < ((P.size + 2 : Nat) : Int)) = false := by simp only [decide_eq_false_iff_not] at hp ⊢; omega
    simp only [c12, heap0, go_sem, Int.cast_ofNat_Int, Int.reduceToNat, Bool.true_xor, Bool.false_xor, Bool.xor_true, Bool.xor_false, Nat.reduceAdd, Nat.reduceBEq, Nat.reduceLeDiff, Nat.reduceLT, Nat.reduceMul, Nat.reduceSub, Int.reduceEq, Int.reduceLT, Int.reduceLE, Int.reduceNeg, h18, h29, h0, h1, h2, h3, h4, h5, h34, h35, xx, xd, hsz, hp, hp2, Nat.reduceMod, Nat.reduceDiv, List.length_cons, List.length_nil, List.filter_replicate, List.all_replicate, List.filter_append, List.all_append, Bool.and_self, ite_self, if_true]
  | true =>
    have hp2 : decide ((127 : Int) < ((P.size + 2 : Nat) : Int)) = true := by simp only [decide_eq_true_eq] at hp ⊢; omega
    simp only [c12, heap0, go_sem, Int.cast_ofNat_Int, Int.reduceToNat, Bool.true_xor, Bool.false_xor, Bool.xor_true, Bool.xor_false, Nat.reduceAdd, Nat.reduceBEq, Nat.reduceLeDiff, Nat.reduceLT, Nat.reduceMul, Nat.reduceSub, Int.reduceEq, Int.reduceLT, Int.reduceLE, Int.reduceNeg, h18, h29, h0, h1, h2, h3, h4, h5, h34, h35, xx, xd, hsz, hp, hp2, Nat.reduceMod, Nat.reduceDiv, List.length_cons, List.length_nil, List.filter_replicate, List.all_replicate, List.filter_append, List.all_append, Bool.and_self, ite_self, if_true]
end Go.Sh
