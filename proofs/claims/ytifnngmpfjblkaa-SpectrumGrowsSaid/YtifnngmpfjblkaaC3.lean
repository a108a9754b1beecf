

import Derived.Test.YtifnngmpfjblkaaC2
namespace Go.Sh
set_option linter.unusedSectionVars false
set_option linter.unnecessarySimpa false
set_option linter.unusedVariables false
set_option linter.unusedSimpArgs false
set_option maxRecDepth 100000
set_option maxHeartbeats 4000000
theorem emod_of {x P q r : Int} (h : x = r + P * q) : x % P = r % P := by rw [h, Int.add_mul_emod_self_left]
theorem on_iff {s : Src} {x y : Int} (hs : perB s.per s.fr s.to = true) (hx : 0 ≤ x) (hxy : x ≤ y) : onB s x y = true ↔ ∃ t, x ≤ t ∧ t < y ∧ s.fr ≤ t % s.per ∧ t % s.per < s.to := by
  simp only [perB, Bool.and_eq_true, decide_eq_true_eq] at hs
  have hP : 0 < s.per := by omega
  have hm1 := Int.emod_nonneg x (show s.per ≠ 0 by omega)
  have hm2 := Int.emod_lt_of_pos x hP
  have hx1 : x = x % s.per + s.per * (x / s.per) := (Int.emod_add_mul_ediv x s.per).symm
  have hfr : s.fr < s.per → s.fr % s.per = s.fr := fun h => Int.emod_eq_of_lt (by omega) h
  generalize hr : x % s.per = r at *
  generalize x / s.per = q at *
  simp only [onB, hr]
  constructor
  · intro h
    split at h
    · cases h
    · rename_i hne
      simp only [Bool.or_eq_true, Bool.and_eq_true, decide_eq_true_eq] at h
      have hlt : s.fr < s.to := by omega
      rcases h with ⟨h1, h2⟩ | h1
      · rcases Int.lt_or_le r s.fr with h3 | h3
        · refine ⟨x + s.fr - r, by omega, by omega, ?_⟩
          rw [emod_of (q := q) (r := s.fr) (P := s.per) (by omega), hfr (by omega)]
          omega
        · refine ⟨x, by omega, by omega, ?_⟩
          rw [hr]; omega
      · refine ⟨x + s.fr - r + s.per, by omega, by omega, ?_⟩
        rw [emod_of (q := q + 1) (r := s.fr) (P := s.per) (by rw [Int.mul_add]; omega), hfr (by omega)]
        omega
  · rintro ⟨t, h1, h2, h3, h4⟩
    rw [if_neg (by omega)]
    simp only [Bool.or_eq_true, Bool.and_eq_true, decide_eq_true_eq]
    have hu : t % s.per = (r + (t - x)) % s.per := emod_of (q := q) (by omega)
    rw [hu] at h3 h4
    rcases Int.lt_or_le (r + (t - x)) s.per with h5 | h5
    · rw [Int.emod_eq_of_lt (by omega) h5] at h3 h4
      left; omega
    · right
      have he := Int.emod_add_mul_ediv (r + (t - x)) s.per
      have hq1 : 1 ≤ (r + (t - x)) / s.per := by
        have := Int.ediv_le_ediv hP h5
        rwa [Int.ediv_self (by omega)] at this
      have hq2 : s.per * 1 ≤ s.per * ((r + (t - x)) / s.per) := Int.mul_le_mul_of_nonneg_left hq1 (by omega)
      omega
theorem on_split {s : Src} {a b c : Int} (ha : 0 ≤ a) (hab : a ≤ b) (hbc : b ≤ c) (hc : c ≤ 1099511627776) : onS s a c = (onS s a b || onS s b c) := by
  have i1 : ivB a c = true := by simp only [ivB, Bool.and_eq_true, decide_eq_true_eq]; omega
  have i2 : ivB a b = true := by simp only [ivB, Bool.and_eq_true, decide_eq_true_eq]; omega
  have i3 : ivB b c = true := by simp only [ivB, Bool.and_eq_true, decide_eq_true_eq]; omega
  simp only [onS, i1, i2, i3, Bool.and_true]
  cases h0 : srB s with
  | false => rfl
  | true =>
    have hs := srB_per h0
    simp only [Bool.true_and]
    rw [Bool.eq_iff_iff, Bool.or_eq_true, on_iff hs ha (by omega), on_iff hs ha hab, on_iff hs (by omega) hbc]
    constructor
    · rintro ⟨t, h1, h2, h3⟩
      rcases Int.lt_or_le t b with h4 | h4
      · exact .inl ⟨t, h1, h4, h3⟩
      · exact .inr ⟨t, h4, h2, h3⟩
    · rintro (⟨t, h1, h2, h3⟩ | ⟨t, h1, h2, h3⟩)
      · exact ⟨t, h1, by omega, h3⟩
      · exact ⟨t, by omega, h2, h3⟩
theorem on_self (s : Src) (a : Int) : onS s a a = false := by simp [onS, onB]
theorem on_one {s : Src} {a : Int} (h0 : srB s = true) (ha : 0 ≤ a) (hc : a < 1099511627776) : onS s a (a + 1) = (decide (s.fr ≤ a % s.per) && decide (a % s.per < s.to)) := by
  have i1 : ivB a (a + 1) = true := by simp only [ivB, Bool.and_eq_true, decide_eq_true_eq]; omega
  simp only [onS, i1, h0, Bool.and_true, Bool.true_and]
  rw [Bool.eq_iff_iff, on_iff (srB_per h0) ha (by omega), Bool.and_eq_true, decide_eq_true_eq, decide_eq_true_eq]
  constructor
  · rintro ⟨t, h1, h2, h3⟩
    obtain rfl : t = a := by omega
    exact h3
  · intro h
    exact ⟨a, by omega, by omega, h⟩
theorem on_per {s : Src} {a : Int} (h0 : srB s = true) (ha : 0 ≤ a) (hc : a < 1099511627776) : onS s a (min (a + s.per) 1099511627776) = (decide (s.fr < s.to) && (decide (a + s.per ≤ 1099511627776) || onS s a 1099511627776)) := by
  have hs := srB_per h0
  have hs' := hs
  simp only [perB, Bool.and_eq_true, decide_eq_true_eq] at hs
  have hm1 := Int.emod_nonneg a (show s.per ≠ 0 by omega)
  have hm2 := Int.emod_lt_of_pos a (show 0 < s.per by omega)
  rcases Int.lt_or_le 1099511627776 (a + s.per) with h | h
  · rw [Int.min_eq_right (by omega)]
    have i1 : ivB a 1099511627776 = true := by simp only [ivB, Bool.and_eq_true, decide_eq_true_eq]; omega
    simp only [onS, i1, h0, Bool.and_true, Bool.true_and, onB]
    generalize a % s.per = r at *
    rw [Bool.eq_iff_iff]
    grind
  · rw [Int.min_eq_left h]
    have i1 : ivB a (a + s.per) = true := by simp only [ivB, Bool.and_eq_true, decide_eq_true_eq]; omega
    simp only [onS, i1, h0, h, decide_true, Bool.true_or, Bool.and_true, Bool.true_and, onB]
    generalize a % s.per = r at *
    rw [Bool.eq_iff_iff]
    grind
end Go.Sh
namespace Go.Sh
set_option linter.unusedSectionVars false
set_option linter.unnecessarySimpa false
set_option linter.unusedVariables false
set_option linter.unusedSimpArgs false
set_option maxRecDepth 100000
set_option maxHeartbeats 4000000
def sumH (f : Src → Int) (c x y : Int) : List Src → Int
  | [] => 0
  | s :: S => (if hit c x y s = true then f s else 0) + sumH f c x y S
theorem sumH_nn {f : Src → Int} (h : ∀ s, 0 ≤ f s) (c x y : Int) : ∀ S, 0 ≤ sumH f c x y S
  | [] => by simp [sumH]
  | s :: S => by
    have := sumH_nn h c x y S
    have := h s
    simp only [sumH]
    split <;> omega
theorem sumH_snoc (f : Src → Int) (c x y : Int) (s : Src) : ∀ S, sumH f c x y (S ++ [s]) = sumH f c x y S + (if hit c x y s = true then f s else 0)
  | [] => by simp [sumH]
  | t :: S => by
    have := sumH_snoc f c x y s S
    simp only [List.cons_append, sumH, this]
    omega
theorem sumH_mono {f : Src → Int} (h : ∀ s, 0 ≤ f s) {c x y y' : Int} : ∀ (S : List Src), (∀ s ∈ S, hit c x y s = true → hit c x y' s = true) → sumH f c x y S ≤ sumH f c x y' S
  | [], _ => Int.le_refl _
  | s :: S, hm => by
    have h1 := sumH_mono h S (fun t ht => hm t (by simp [ht]))
    have h2 := hm s (by simp)
    have := h s
    simp only [sumH]
    split
    · rename_i hh
      rw [if_pos (h2 hh)]; omega
    · split <;> omega
theorem sumH_zero (f : Src → Int) {c x y : Int} : ∀ (S : List Src), S.any (hit c x y) = false → sumH f c x y S = 0
  | [], _ => rfl
  | s :: S, hm => by
    simp only [List.any_cons, Bool.or_eq_false_iff] at hm
    simp only [sumH, hm.1, Bool.false_eq_true, if_false, sumH_zero f S hm.2]
    omega
theorem ext_sum {f : Src → Int} (h : ∀ s, 0 ≤ f s ∧ f s ≤ 68719476736) (c x y : Int) : ∀ (S : List Src) (v : Int), 0 ≤ v → v + S.length * 68719476736 ≤ 4611686018427387904 →
    S.foldl (hitF (fun v s => w64 (v + f s)) c x y) v = v + sumH f c x y S
  | [], v, _, _ => by simp [sumH]
  | s :: S, v, h0, hb => by
    have hs := h s
    simp only [List.length_cons] at hb
    simp only [List.foldl_cons, hitF, sumH]
    split
    · have e : w64 (v + f s) = v + f s := w64_id (by omega) (by omega)
      rw [e]
      have := ext_sum h c x y S (v + f s) (by omega) (by omega)
      rw [this]; omega
    · have := ext_sum h c x y S v h0 (by omega)
      rw [this]; omega
theorem extV_sum {f : Src → Int} (h : ∀ s, 0 ≤ f s ∧ f s ≤ 68719476736) (c x y : Int) {S : List Src} (hS : S.length ≤ 16) : extV f S c x y = sumH f c x y S := by
  unfold extV
  rw [ext_sum h c x y S 0 (by omega) (by omega)]
  omega
theorem exR_rng {N : List (Int × Int)} {P : List Int} {W : List G.Wl} {ex no th : Int} (hok : G.okI N P W ex no th = true) (k : Nat) (s : Src) : 0 ≤ exR N P W ex no th k s ∧ exR N P W ex no th k s ≤ 68719476736 := by
  unfold exR
  cases ha : G.argI s.a s.b s.p (G.nd N k).1 (G.nd N k).2 with
  | false => simp only [G.AtV, hok, Bool.and_false, cond_false]; omega
  | true =>
    have := G.pow_iff.1 (G.at_eq hok ha).2
    simp only [G.AtV, hok, Bool.and_self, cond_true]; exact this
theorem clr_any {S : List Src} {x y c : Int} (h : c ∈ clrL S x y 16) : S.any (hit c x y) = false := by
  simp only [clrL, List.mem_map, List.mem_filter] at h
  obtain ⟨i, ⟨_, h2⟩, rfl⟩ := h
  simpa [clrB] using h2
theorem iv_iff {x y : Int} : ivB x y = true ↔ 0 ≤ x ∧ x ≤ y ∧ y ≤ 1099511627776 := by
  simp only [ivB, Bool.and_eq_true, decide_eq_true_eq]; omega
theorem hit_mono {s : Src} (hs : srB s = true) {c x y y' : Int} (h0 : 0 ≤ x) (h1 : x ≤ y) (h2 : y ≤ y') (h : hit c x y s = true) : hit c x y' s = true := by
  simp only [hit, Bool.and_eq_true] at h ⊢
  refine ⟨h.1, ?_⟩
  have hp := srB_per hs
  obtain ⟨t, t1, t2, t3⟩ := (on_iff hp h0 h1).1 h.2
  exact (on_iff hp h0 (by omega)).2 ⟨t, t1, by omega, t3⟩
theorem ckB_len {S F} (h : ckB S F = true) : S.length ≤ 16 := by
  simp only [ckB, Bool.and_eq_true, decide_eq_true_eq] at h; exact h.1.1.1
theorem x22 : T 22 = some (stdClone 7 72 [.int .i64 0, .int .i64 0, .int .i64 0, .lst 0 [] true, .int .i64 0, .int .i64 0, .int .i64 0]) := e22
theorem srs_still (S : List Src) : Still (srsS S) := by
  intro cs hcs c hc
  simp only [srsS, List.mem_map] at hcs
  obtain ⟨h, _, rfl⟩ := hcs
  simp only [List.mem_cons, List.not_mem_nil, or_false] at hc
  rcases hc with rfl | rfl | rfl | rfl | rfl | rfl | rfl <;> exact ⟨by simp [SV.refs], fun N H d => by simp only [frz]⟩
theorem srs_snoc (S : List Src) (s : Src) : srsS S ++ [srC s] = srsS (S ++ [s]) := by simp [srsS]
end Go.Sh
namespace Go.Sh
set_option linter.unusedSectionVars false
set_option linter.unnecessarySimpa false
set_option linter.unusedVariables false
set_option linter.unusedSimpArgs false
set_option maxRecDepth 100000
set_option maxHeartbeats 4000000
theorem s5 (N P W g1 g2 g3 ex no th S f1 F f2) (a b c x y lo : Int) (s : Src) (w : Fd) (hN : N.length ≤ maxLen) (hP : P.length ≤ maxLen) (hW : W.length ≤ maxLen) (hS : okS S) (hF : F.length ≤ maxLen) :
    call1 T 41 (.fn 5) [G.st N P W g1 g2 g3 ex no th, sp S f1 F f2, .agg (moC a b c x y lo s w)] heap0 = some (.bool true, heap0) := by
  simp only [moC, srC, fdC, List.cons_append, List.nil_append]
  refine call_pure e5 (by rfl) ?_
  have h10 := s10
  have h18 := fun H => G.s18 39 H N P W g1 g2 g3 ex no th
  have h11 := fun H => s11 38 H S F f1 f2 hS.1
  simp only [c5, heap0, go_sem, Int.cast_ofNat_Int, Int.reduceToNat, Bool.true_xor, Bool.false_xor, Bool.xor_true, Bool.xor_false, Nat.reduceAdd, Nat.reduceBEq, Nat.reduceLeDiff, Nat.reduceLT, Nat.reduceMul, Nat.reduceSub, Int.reduceEq, Int.reduceLT, Int.reduceLE, Int.reduceNeg, h10, h18]
  cases hf0 : G.fewI N P W with
  | false => simp only [go_sem, Int.cast_ofNat_Int, Int.reduceToNat, Bool.true_xor, Bool.false_xor, Bool.xor_true, Bool.xor_false, Nat.reduceAdd, Nat.reduceBEq, Nat.reduceLeDiff, Nat.reduceLT, Nat.reduceMul, Nat.reduceSub, Int.reduceEq, Int.reduceLT, Int.reduceLE, Int.reduceNeg]
  | true =>
    simp only [go_sem, Int.cast_ofNat_Int, Int.reduceToNat, Bool.true_xor, Bool.false_xor, Bool.xor_true, Bool.xor_false, Nat.reduceAdd, Nat.reduceBEq, Nat.reduceLeDiff, Nat.reduceLT, Nat.reduceMul, Nat.reduceSub, Int.reduceEq, Int.reduceLT, Int.reduceLE, Int.reduceNeg, h11]
    cases hf : fewB S F with
    | false => simp only [go_sem, Int.cast_ofNat_Int, Int.reduceToNat, Bool.true_xor, Bool.false_xor, Bool.xor_true, Bool.xor_false, Nat.reduceAdd, Nat.reduceBEq, Nat.reduceLeDiff, Nat.reduceLT, Nat.reduceMul, Nat.reduceSub, Int.reduceEq, Int.reduceLT, Int.reduceLE, Int.reduceNeg]
    | true =>
      simp only [go_sem, Int.cast_ofNat_Int, Int.reduceToNat, Bool.true_xor, Bool.false_xor, Bool.xor_true, Bool.xor_false, Nat.reduceAdd, Nat.reduceBEq, Nat.reduceLeDiff, Nat.reduceLT, Nat.reduceMul, Nat.reduceSub, Int.reduceEq, Int.reduceLT, Int.reduceLE, Int.reduceNeg]
      by_cases hg : 15 < S.length ∨ 20 < s.C.length ∨ lo < 0 ∨ 1000000 < lo
      · clear h10 h18 h11
        repeat' (with_reducible refine fork_split (fun _ => ?_) (fun _ => ?_) <;> simp only [*, go_sem, Int.cast_ofNat_Int, Int.reduceToNat, Bool.true_xor, Bool.false_xor, Bool.xor_true, Bool.xor_false, Nat.reduceAdd, Nat.reduceBEq, Nat.reduceLeDiff, Nat.reduceLT, Nat.reduceMul, Nat.reduceSub, Int.reduceEq, Int.reduceLT, Int.reduceLE, Int.reduceNeg])
        all_goals (exfalso; simp only [decide_eq_true_eq, decide_eq_false_iff_not] at *; omega)
      · have q1 : decide ((15 : Int) < (S.length : Int)) = false := decide_eq_false (by omega)
        have q2 : decide ((20 : Int) < (s.C.length : Int)) = false := decide_eq_false (by omega)
        have q3 : decide (lo < 0) = false := decide_eq_false (by omega)
        have q4 : decide (1000000 < lo) = false := decide_eq_false (by omega)
        have h19 := fun H => s19 28 H N P W g1 g2 g3 ex no th S f1 F f2 a c x y hN hP hW hS hF
        simp only [go_sem, Int.cast_ofNat_Int, Int.reduceToNat, Bool.true_xor, Bool.false_xor, Bool.xor_true, Bool.xor_false, Nat.reduceAdd, Nat.reduceBEq, Nat.reduceLeDiff, Nat.reduceLT, Nat.reduceMul, Nat.reduceSub, Int.reduceEq, Int.reduceLT, Int.reduceLE, Int.reduceNeg, q1, q2, q3, q4]
        cases hok : G.okI N P W ex no th && ckB S F with
        | false =>
          simp only [hok, V3_eq, E3, cond_false] at h19
          simp only [go_sem, Int.cast_ofNat_Int, Int.reduceToNat, Bool.true_xor, Bool.false_xor, Bool.xor_true, Bool.xor_false, Nat.reduceAdd, Nat.reduceBEq, Nat.reduceLeDiff, Nat.reduceLT, Nat.reduceMul, Nat.reduceSub, Int.reduceEq, Int.reduceLT, Int.reduceLE, Int.reduceNeg, h19]
        | true =>
          cases hin : inB N.length a with
          | false =>
            simp only [hok, hin, V3_eq, E3, cond_false, cond_true] at h19
            simp only [go_sem, Int.cast_ofNat_Int, Int.reduceToNat, Bool.true_xor, Bool.false_xor, Bool.xor_true, Bool.xor_false, Nat.reduceAdd, Nat.reduceBEq, Nat.reduceLeDiff, Nat.reduceLT, Nat.reduceMul, Nat.reduceSub, Int.reduceEq, Int.reduceLT, Int.reduceLE, Int.reduceNeg, h19]
          | true =>
            cases har : chanB c && ivB x y with
            | false =>
              simp only [hok, hin, har, V3_eq, E3, cond_false, cond_true] at h19
              simp only [go_sem, Int.cast_ofNat_Int, Int.reduceToNat, Bool.true_xor, Bool.false_xor, Bool.xor_true, Bool.xor_false, Nat.reduceAdd, Nat.reduceBEq, Nat.reduceLeDiff, Nat.reduceLT, Nat.reduceMul, Nat.reduceSub, Int.reduceEq, Int.reduceLT, Int.reduceLE, Int.reduceNeg, h19]
            | true =>
              obtain ⟨hok1, hck⟩ := Bool.and_eq_true_iff.1 hok
              obtain ⟨hch, hiv⟩ := Bool.and_eq_true_iff.1 har
              obtain ⟨v0, v1, v2⟩ := iv_iff.1 hiv
              have hR := fun s => exR_rng hok1 a.toNat s
              have hR0 := fun s => (hR s).1
              have hw : w64 (y + lo) = y + lo := w64_id (by omega) (by omega)
              have m20 : 20 ≤ maxLen := by decide
              have hS1 : okS (S ++ [s]) := ⟨by simp; exact Nat.le_trans (show S.length + 1 ≤ 20 by omega) m20, fun t ht => by
                rcases List.mem_append.1 ht with h | h
                · exact hS.2 t h
                · simp only [List.mem_singleton] at h; subst h; omega⟩
              have h19l := fun H => s19 28 H N P W g1 g2 g3 ex no th S f1 F f2 a c x (y + lo) hN hP hW hS hF
              have h19m := fun H => s19 28 H N P W g1 g2 g3 ex no th (S ++ [s]) false F f2 a c x y hN hP hW hS1 hF
              have h12m := fun H => s12 33 H (S ++ [s]) F false f2 hS1 hF
              have h21 := fun H => s21 32 H S f1 F f2 x y hS hF
              have h20 := fun H => s20 38 H (clrL S x y 16) false c (Nat.le_trans (clrL_len 16) (by decide))
              have h22 := fun bl es ro => stdCloneK_ok (T := T) (f := 22) (n := 39) (z := 7) (z' := 7) (L := srsS S) (fl := f1) x22 (.inl rfl) (by rw [srsS_len]; exact Nat.le_trans (show S.length * 72 ≤ 10000 by omega) (by decide)) bl es ro
              simp only [srsS_len] at h22
              have hroom : decide ((S.length + 1) * 72 ≤ mostLen) = true := decide_eq_true (Nat.le_trans (show (S.length + 1) * 72 ≤ 10000 by omega) (by decide))
              have hfz6 := fun H v => (srs_still (S ++ [s])).fz 0 H 6 v (S.length + 1) 7 false (by simp [srsS])
              have hfz5 := fun H v => (srs_still (S ++ [s])).fz 0 H 5 v (S.length + 1) 7 false (by simp [srsS])
              have hsum := extV_sum hR c x y (ckB_len hck)
              have hlen := ckB_len hck
              simp only [hok, hin, har, V3_eq, E3, cond_true] at h19
              simp only [hok, hin, hch, V3_eq, E3, cond_true, Bool.true_and] at h19l
              simp only [hok1, hin, har, V3_eq, E3, cond_true, Bool.true_and] at h19m
              simp only [hck, hiv, ClrV, Bool.and_self, cond_true] at h21
              have n0 : decide (extV (exR N P W ex no th a.toNat) S c x y < 0) = false := decide_eq_false (by rw [hsum]; have := sumH_nn hR0 c x y S; omega)
              have k0 : c ∈ clrL S x y 16 → decide (extV (exR N P W ex no th a.toNat) S c x y = 0) = true := fun h => decide_eq_true (by rw [hsum]; exact sumH_zero _ S (clr_any h))
              have k1 : ivB x (y + lo) = true → decide (extV (exR N P W ex no th a.toNat) S c x (y + lo) < extV (exR N P W ex no th a.toNat) S c x y) = false := fun _ => decide_eq_false (by
                rw [hsum, extV_sum hR c x (y + lo) hlen]
                have := sumH_mono (f := exR N P W ex no th a.toNat) hR0 (c := c) (x := x) (y := y) (y' := y + lo) S (fun t ht h => hit_mono (ckB_src hck t ht) v0 v1 (by omega) h)
                omega)
              have k2 : ckB (S ++ [s]) F = true → decide (extV (exR N P W ex no th a.toNat) S c x y ≤ extV (exR N P W ex no th a.toNat) (S ++ [s]) c x y) = true := fun h => decide_eq_true (by
                rw [hsum, extV_sum hR c x y (ckB_len h), sumH_snoc]
                have := hR0 s
                split <;> omega)
              simp only [go_sem, Int.cast_ofNat_Int, Int.reduceToNat, Bool.true_xor, Bool.false_xor, Bool.xor_true, Bool.xor_false, Nat.reduceAdd, Nat.reduceBEq, Nat.reduceLeDiff, Nat.reduceLT, Nat.reduceMul, Nat.reduceSub, Int.reduceEq, Int.reduceLT, Int.reduceLE, Int.reduceNeg, h19, h21, h20, n0]
              clear hsum hR hR0 har hok
              have hcl : (decide (c ∈ clrL S x y 16) = false) ∨ (decide (c ∈ clrL S x y 16) = true ∧ decide (extV (exR N P W ex no th a.toNat) S c x y = 0) = true) := by
                by_cases h : c ∈ clrL S x y 16
                · exact .inr ⟨decide_eq_true h, k0 h⟩
                · exact .inl (decide_eq_false h)
              have hlo : ivB x (y + lo) = false ∨ (ivB x (y + lo) = true ∧ decide (extV (exR N P W ex no th a.toNat) S c x (y + lo) < extV (exR N P W ex no th a.toNat) S c x y) = false) := by
                cases h : ivB x (y + lo) with
                | false => exact .inl rfl
                | true => exact .inr ⟨rfl, k1 h⟩
              have hmo : (ckB (S ++ [s]) F = false ∧ ck (S ++ [s]) F = 1) ∨ (ckB (S ++ [s]) F = true ∧ decide (extV (exR N P W ex no th a.toNat) S c x y ≤ extV (exR N P W ex no th a.toNat) (S ++ [s]) c x y) = true) := by
                cases h : ckB (S ++ [s]) F with
                | false => exact .inl ⟨rfl, by simp only [ck, h, cond_false]⟩
                | true => exact .inr ⟨rfl, k2 h⟩
              rcases hcl with e1 | ⟨e1, e2⟩ <;> rcases hlo with e3 | ⟨e3, e4⟩ <;> rcases hmo with ⟨e5, e6⟩ | ⟨e5, e6⟩ <;>
                (simp only [e3, cond_false, cond_true] at h19l
                 simp only [e5, cond_false, cond_true] at h19m
                 simp only [*, go_sem, Int.cast_ofNat_Int, Int.reduceToNat, Bool.true_xor, Bool.false_xor, Bool.xor_true, Bool.xor_false, Nat.reduceAdd, Nat.reduceBEq, Nat.reduceLeDiff, Nat.reduceLT, Nat.reduceMul, Nat.reduceSub, Int.reduceEq, Int.reduceLT, Int.reduceLE, Int.reduceNeg, put1, apB_grow _ _ _ _ _ _ _ srsS_len, srs_snoc])
end Go.Sh
namespace Go.Sh
set_option linter.unusedSectionVars false
set_option linter.unnecessarySimpa false
set_option linter.unusedVariables false
set_option linter.unusedSimpArgs false
set_option maxRecDepth 100000
set_option maxHeartbeats 4000000
theorem law5 (xs : List SV) (h : FitsAll [siteD, spD, moD] xs) : ∃ m, call1 T m (.fn 5) xs heap0 = some (.bool true, heap0) := by
  obtain ⟨x1, r1, rfl, h1, h⟩ := fitsAll_cons h
  obtain ⟨x2, r2, rfl, h2, h⟩ := fitsAll_cons h
  obtain ⟨x3, r3, rfl, h3, h⟩ := fitsAll_cons h
  cases fitsAll_nil h
  obtain ⟨N, P, W, g1, g2, g3, ex, no, th, rfl, hN, hP, hW⟩ := site_of h1
  obtain ⟨S, f1, F, f2, rfl, hS, hF⟩ := sp_of h2
  obtain ⟨a, b, c, u, v, lo, s, w, rfl, hs⟩ := mo_of h3
  exact ⟨41, s5 N P W g1 g2 g3 ex no th S f1 F f2 a b c u v lo s w hN hP hW hS hF⟩
end Go.Sh
