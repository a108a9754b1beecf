

import Derived.Test.YtcfgikdpokjhpaaGreatC2
import Derived.Test.YtcfgikdpokjhpaaGreatB4
namespace Go.Sh
set_option linter.unusedSectionVars false
set_option linter.unnecessarySimpa false
set_option linter.unusedVariables false
set_option linter.unusedSimpArgs false
set_option maxRecDepth 100000
set_option maxHeartbeats 4000000
def flI (a : Int) : Int := bif decide (a.tmod 1000000000 < 0) then w64 (w64 (a.tdiv 1000000000) - 1) else w64 (a.tdiv 1000000000)
theorem s167 (n : Nat) (H : Heap) (a : Int) : call1 T (n + 1) (.fn 167) [.int .i64 a, .int .i64 1000000000] H = some (.int .i64 (flI a), H) := by
  refine call_pure e167 (by rfl) ?_
  simp only [c167, heap0, go_sem, Int.reduceToNat, Nat.reduceAdd, Nat.reduceBEq, Nat.reduceLeDiff, Nat.reduceLT, Nat.reduceMul, Nat.reduceSub, Int.reduceEq, Int.reduceLT, Int.reduceLE, Int.reduceNeg, flI]
  repeat' (with_reducible refine fork_split (fun _ => ?_) (fun _ => ?_) <;> simp only [*, go_sem, Int.reduceToNat, Nat.reduceAdd, Nat.reduceBEq, Nat.reduceLeDiff, Nat.reduceLT, Nat.reduceMul, Nat.reduceSub, Int.reduceEq, Int.reduceLT, Int.reduceLE, Int.reduceNeg, flI])
theorem s126 (n : Nat) (H : Heap) (a : Int) : call1 T (n + 1) (.fn 126) [.int .i64 a, .int .i64 1000000000] H = some (.int .i64 (flI a), H) := by
  refine call_pure e126 (by rfl) ?_
  simp only [c126, heap0, go_sem, Int.reduceToNat, Nat.reduceAdd, Nat.reduceBEq, Nat.reduceLeDiff, Nat.reduceLT, Nat.reduceMul, Nat.reduceSub, Int.reduceEq, Int.reduceLT, Int.reduceLE, Int.reduceNeg, flI]
  repeat' (with_reducible refine fork_split (fun _ => ?_) (fun _ => ?_) <;> simp only [*, go_sem, Int.reduceToNat, Nat.reduceAdd, Nat.reduceBEq, Nat.reduceLeDiff, Nat.reduceLT, Nat.reduceMul, Nat.reduceSub, Int.reduceEq, Int.reduceLT, Int.reduceLE, Int.reduceNeg, flI])
def ckC (o d : Int) : Bool := decide (-1099511627776 ≤ o) && decide (o ≤ 1099511627776) && decide (-100000 ≤ d) && decide (d ≤ 100000)
def ckCI (o d : Int) : Int := bif ckC o d then 0 else 1
theorem ckCI_eq (o d : Int) : ckCI o d = if -1099511627776 ≤ o ∧ o ≤ 1099511627776 ∧ -100000 ≤ d ∧ d ≤ 100000 then 0 else 1 := by
  unfold ckCI ckC
  by_cases h1 : -1099511627776 ≤ o <;> by_cases h2 : o ≤ 1099511627776 <;> by_cases h3 : -100000 ≤ d <;> by_cases h4 : d ≤ 100000 <;> simp [h1, h2, h3, h4]
theorem s60 (n : Nat) (H : Heap) (o d : Int) : call1 T (n + 1) (.fn 60) [.agg [.int .i64 o, .int .i64 d]] H = some (.int .i64 (ckCI o d), H) := by
  refine call_pure e60 (by rfl) ?_
  simp only [c60, heap0, go_sem, Int.reduceToNat, Nat.reduceAdd, Nat.reduceBEq, Nat.reduceLeDiff, Nat.reduceLT, Nat.reduceMul, Nat.reduceSub, Int.reduceEq, Int.reduceLT, Int.reduceLE, Int.reduceNeg]
  repeat' (with_reducible refine fork_split (fun _ => ?_) (fun _ => ?_) <;> simp only [*, go_sem, Int.reduceToNat, Nat.reduceAdd, Nat.reduceBEq, Nat.reduceLeDiff, Nat.reduceLT, Nat.reduceMul, Nat.reduceSub, Int.reduceEq, Int.reduceLT, Int.reduceLE, Int.reduceNeg])
  all_goals (refine congrArg some (congrArg (SV.int .i64) ?_); simp only [decide_eq_true_eq, decide_eq_false_iff_not] at *; rw [ckCI_eq]; split <;> omega)
theorem s69 (n : Nat) (H : Heap) (o d : Int) : call1 T (n + 1) (.fn 69) [.agg [.int .i64 o, .int .i64 d]] H = some (.int .i64 (ckCI o d), H) := by
  refine call_pure e69 (by rfl) ?_
  simp only [c69, heap0, go_sem, Int.reduceToNat, Nat.reduceAdd, Nat.reduceBEq, Nat.reduceLeDiff, Nat.reduceLT, Nat.reduceMul, Nat.reduceSub, Int.reduceEq, Int.reduceLT, Int.reduceLE, Int.reduceNeg]
  repeat' (with_reducible refine fork_split (fun _ => ?_) (fun _ => ?_) <;> simp only [*, go_sem, Int.reduceToNat, Nat.reduceAdd, Nat.reduceBEq, Nat.reduceLeDiff, Nat.reduceLT, Nat.reduceMul, Nat.reduceSub, Int.reduceEq, Int.reduceLT, Int.reduceLE, Int.reduceNeg])
  all_goals (refine congrArg some (congrArg (SV.int .i64) ?_); simp only [decide_eq_true_eq, decide_eq_false_iff_not] at *; rw [ckCI_eq]; split <;> omega)
def shI (o d t : Int) : Int := w64 (w64 (o + t) + flI (w64 (t * d)))
theorem s166 (n b : Nat) (H : Heap) (t o d : Int) (hb : H.bl[b]? = some (.box [.int .i64 o, .int .i64 d])) : call1 T (n + 2) (.fn 166) [.int .i64 t, .ptr b 0 0 0] H = some (.int .i64 (shI o d t), H) := by
  refine call_rox e166 rfl rfl (fun R k bl ro r hbl hk => ?_)
  have hb' : bl[b]? = some (.box [.int .i64 o, .int .i64 d]) := by
    rcases hbl with ⟨rfl, h0⟩ | rfl
    · simp [SV.refs.refsL, SV.refs] at h0
    · exact hb
  have hB : ∀ l : List SBlk, (bl ++ l)[b]? = some (.box [.int .i64 o, .int .i64 d]) := fun l => fr_b hb'
  simp only [c166, fr_get0, fr_getk, fr_set0, fr_setk, fr_take0, fr_takek, fr_drop0, fr_dropk, fr_le, fr_le0, fr_lt, fr_lt0, fr_lt1, fr_min, fr_mink, fr_beq, fr_beq0, fr_beq1, fr_maxle, fr_refl, fr_z, fr_s, List.append_assoc, List.length_append, Nat.add_assoc, go_sem, Int.reduceToNat, Nat.reduceAdd, Nat.reduceBEq, Nat.reduceLeDiff, Nat.reduceLT, Nat.reduceMul, Nat.reduceSub, Int.reduceEq, Int.reduceLT, Int.reduceLE, Int.reduceNeg, hb', hB, s167]
  have := hk []
  rw [List.append_nil] at this
  exact this
theorem s71 (n : Nat) (H : Heap) (t o d : Int) : call1 T (n + 2) (.fn 71) [.agg [.int .i64 o, .int .i64 d], .int .i64 t] H = some (.int .i64 (shI o d t), H) := by
  refine call_pure e71 (by rfl) ?_
  simp only [c71, heap0, go_sem, Int.reduceToNat, Nat.reduceAdd, Nat.reduceBEq, Nat.reduceLeDiff, Nat.reduceLT, Nat.reduceMul, Nat.reduceSub, Int.reduceEq, Int.reduceLT, Int.reduceLE, Int.reduceNeg, s126, shI]
theorem s169 (n b b1 b2 : Nat) (H : Heap) (t o d x : Int) (hb : H.bl[b]? = some (.box [.int .i64 o, .int .i64 d])) (hb1 : H.bl[b1]? = some (.box [.fn 166 [.ptr b 0 0 0]])) (hb2 : H.bl[b2]? = some (.box [.int .i64 x])) :
    call1 T (n + 3) (.fn 169) [.int .i64 t, .ptr b1 0 0 0, .ptr b2 0 0 0] H = some (.bool (decide (x ≤ shI o d t)), H) := by
  refine call_rox e169 rfl rfl (fun R k bl ro r hbl hk => ?_)
  obtain rfl : bl = H.bl := by
    rcases hbl with ⟨rfl, h0⟩ | rfl
    · simp [SV.refs.refsL, SV.refs] at h0
    · rfl
  have h6 := fun H' (h : H'.bl = H.bl) => s166 n b H' t o d (by rw [h]; exact hb)
  simp only [c169, fr_get0, fr_getk, fr_set0, fr_setk, fr_take0, fr_takek, fr_drop0, fr_dropk, fr_le, fr_le0, fr_lt, fr_lt0, fr_lt1, fr_min, fr_mink, fr_beq, fr_beq0, fr_beq1, fr_maxle, fr_refl, fr_z, fr_s, List.append_assoc, List.length_append, Nat.add_assoc, go_sem, Int.reduceToNat, Nat.reduceAdd, Nat.reduceBEq, Nat.reduceLeDiff, Nat.reduceLT, Nat.reduceMul, Nat.reduceSub, Int.reduceEq, Int.reduceLT, Int.reduceLE, Int.reduceNeg, hb1, hb2, h6]
  have := hk []
  rw [List.append_nil] at this
  exact this
end Go.Sh
namespace Go.Sh
set_option linter.unusedSectionVars false
set_option linter.unnecessarySimpa false
set_option linter.unusedVariables false
set_option linter.unusedSimpArgs false
set_option maxRecDepth 100000
set_option maxHeartbeats 4000000
def bs (q : Int → Bool) : Nat → Int × Int
  | 0 => (0, 1099511627776)
  | i + 1 => bif decide ((bs q i).1 < (bs q i).2) then (bif q (((bs q i).1 + (bs q i).2) / 2) then ((bs q i).1, ((bs q i).1 + (bs q i).2) / 2) else (((bs q i).1 + (bs q i).2) / 2 + 1, (bs q i).2)) else bs q i
theorem bs_inv (q : Int → Bool) : ∀ i, 0 ≤ (bs q i).1 ∧ (bs q i).1 ≤ (bs q i).2 ∧ (bs q i).2 ≤ 1099511627776 ∧ ((bs q i).2 - (bs q i).1) * 2 ^ i ≤ 1099511627776
  | 0 => by simp [bs]
  | i + 1 => by
    obtain ⟨h1, h2, h3, h4⟩ := bs_inv q i
    rw [bs]
    generalize hl : (bs q i).1 = l at *
    generalize hh : (bs q i).2 = h at *
    have hp : (0 : Int) ≤ 2 ^ i := Int.pow_nonneg (by omega)
    have key : ∀ d : Int, 2 * d ≤ h - l → d * 2 ^ (i + 1) ≤ 1099511627776 := fun d hd => by
      rw [Int.pow_succ, Int.mul_comm (2 ^ i) 2, ← Int.mul_assoc, Int.mul_comm d 2]
      exact Int.le_trans (Int.mul_le_mul_of_nonneg_right hd hp) h4
    cases hlt : decide (l < h) with
    | true =>
      simp only [decide_eq_true_eq] at hlt
      cases q ((l + h) / 2) with
      | true =>
        simp only [cond_true]
        exact ⟨by omega, by omega, by omega, key _ (by omega)⟩
      | false =>
        simp only [cond_true, cond_false]
        exact ⟨by omega, by omega, by omega, key _ (by omega)⟩
    | false =>
      simp only [decide_eq_false_iff_not] at hlt
      simp only [cond_false]
      rw [hl, hh]
      exact ⟨h1, h2, h3, by rw [show h - l = 0 by omega]; omega⟩
theorem bs_end (q : Int → Bool) : (bs q 41).1 = (bs q 41).2 := by
  obtain ⟨h1, h2, h3, h4⟩ := bs_inv q 41
  have : ((2 : Int) ^ 41) = 2199023255552 := by decide
  rw [this] at h4
  omega
theorem bs_fix (q : Int → Bool) (i : Nat) (h : decide ((bs q i).1 < (bs q i).2) = false) : ∀ k, bs q (i + k) = bs q i
  | 0 => rfl
  | k + 1 => by
    have e := bs_fix q i h k
    rw [← Nat.add_assoc, bs, e, h]
    rfl
def srch (q : Int → Bool) : Int := (bs q 41).1
theorem srch_at (q : Int → Bool) (i : Nat) (hi : i ≤ 41) (h : decide ((bs q i).1 < (bs q i).2) = false) : srch q = (bs q i).1 := by
  have := bs_fix q i h (41 - i)
  rw [srch, show 41 = i + (41 - i) by omega, this]
theorem half_eq {z : Int} (h0 : 0 ≤ z) (h1 : z ≤ 2199023255552) : w64 ((IntKind.u64.wrap z).fdiv (2 ^ min 1 64)) = z / 2 := by
  have e : IntKind.u64.wrap z = z % 18446744073709551616 := by simp [IntKind.wrap, IntKind.bits, IntKind.signed]
  have e2 : (2 : Int) ^ min 1 64 = 2 := by decide
  rw [e, e2, Int.fdiv_eq_ediv_of_nonneg _ (by omega), Int.emod_eq_of_lt h0 (by omega)]
  exact w64_id (by omega) (by omega)
theorem s168 (n b b1 b2 : Nat) (H : Heap) (o d x : Int) (hb : H.bl[b]? = some (.box [.int .i64 o, .int .i64 d])) (hb1 : H.bl[b1]? = some (.box [.fn 166 [.ptr b 0 0 0]])) (hb2 : H.bl[b2]? = some (.box [.int .i64 x])) :
    call1 T (n + 4) (.fn 168) [.int .i64 1099511627776, .fn 169 [.ptr b1 0 0 0, .ptr b2 0 0 0]] H = some (.int .i64 (srch fun t => decide (x ≤ shI o d t)), H) := by
  refine call_rox e168 rfl rfl (fun R k bl ro r hbl hk => ?_)
  obtain rfl : bl = H.bl := by
    rcases hbl with ⟨rfl, h0⟩ | rfl
    · simp [SV.refs.refsL, SV.refs] at h0
    · rfl
  have h6 := fun t H' (h : H'.bl = H.bl) => s169 n b b1 b2 H' t o d x (by rw [h]; exact hb) (by rw [h]; exact hb1) (by rw [h]; exact hb2)
  obtain ⟨q, hq⟩ : ∃ q : Int → Bool, q = fun t => decide (x ≤ shI o d t) := ⟨_, rfl⟩
  rw [← hq] at hk
  simp only [c168, fr_get0, fr_getk, fr_set0, fr_setk, fr_take0, fr_takek, fr_drop0, fr_dropk, fr_le, fr_le0, fr_lt, fr_lt0, fr_lt1, fr_min, fr_mink, fr_beq, fr_beq0, fr_beq1, fr_maxle, fr_refl, fr_z, fr_s, List.append_assoc, List.length_append, Nat.add_assoc, go_sem, Int.reduceToNat, Nat.reduceAdd, Nat.reduceBEq, Nat.reduceLeDiff, Nat.reduceLT, Nat.reduceMul, Nat.reduceSub, Int.reduceEq, Int.reduceLT, Int.reduceLE, Int.reduceNeg]
  refine loop_rule (fun i => ([(1, .fn 169 [.ptr b1 0 0 0, .ptr b2 0 0 0]), (5, .int .i64 (bs q i).1), (6, .int .i64 (bs q i).2)], ⟨H.bl, [], min ro H.bl.length⟩)) (fun _ => True) 41 ?_ trivial ?_
  · have l1 : decide (b1 + 1 ≤ H.bl.length) = true := decide_eq_true (List.getElem?_eq_some_iff.1 hb1).1
    have l2 : decide (b2 + 1 ≤ H.bl.length) = true := decide_eq_true (List.getElem?_eq_some_iff.1 hb2).1
    simp only [fr_get0, fr_getk, fr_set0, fr_setk, fr_take0, fr_takek, fr_drop0, fr_dropk, fr_le, fr_le0, fr_lt, fr_lt0, fr_lt1, fr_min, fr_mink, fr_beq, fr_beq0, fr_beq1, fr_maxle, fr_refl, fr_z, fr_s, List.append_assoc, List.length_append, Nat.add_assoc, go_sem, Int.reduceToNat, Nat.reduceAdd, Nat.reduceBEq, Nat.reduceLeDiff, Nat.reduceLT, Nat.reduceMul, Nat.reduceSub, Int.reduceEq, Int.reduceLT, Int.reduceLE, Int.reduceNeg, bs, l1, l2]
  · intro i hi _
    have l1 : decide (b1 + 1 ≤ H.bl.length) = true := decide_eq_true (List.getElem?_eq_some_iff.1 hb1).1
    have l2 : decide (b2 + 1 ≤ H.bl.length) = true := decide_eq_true (List.getElem?_eq_some_iff.1 hb2).1
    obtain ⟨g1, g2, g3, _⟩ := bs_inv q i
    cases hlt : decide ((bs q i).1 < (bs q i).2) with
    | false =>
      simp only [fr_get0, fr_getk, fr_set0, fr_setk, fr_take0, fr_takek, fr_drop0, fr_dropk, fr_le, fr_le0, fr_lt, fr_lt0, fr_lt1, fr_min, fr_mink, fr_beq, fr_beq0, fr_beq1, fr_maxle, fr_refl, fr_z, fr_s, List.append_assoc, List.length_append, Nat.add_assoc, go_sem, Int.reduceToNat, Nat.reduceAdd, Nat.reduceBEq, Nat.reduceLeDiff, Nat.reduceLT, Nat.reduceMul, Nat.reduceSub, Int.reduceEq, Int.reduceLT, Int.reduceLE, Int.reduceNeg, hlt]
      have := hk []
      rw [List.append_nil, srch_at q i hi hlt] at this
      exact this
    | true =>
      have hw : w64 ((bs q i).1 + (bs q i).2) = (bs q i).1 + (bs q i).2 := w64_id (by omega) (by omega)
      have hm := half_eq (z := (bs q i).1 + (bs q i).2) (by omega) (by omega)
      have hw2 : w64 (((bs q i).1 + (bs q i).2) / 2 + 1) = ((bs q i).1 + (bs q i).2) / 2 + 1 := w64_id (by omega) (by omega)
      have hi2 : i < 41 := by
        rcases Nat.lt_or_ge i 41 with h | h
        · exact h
        · obtain rfl : i = 41 := by omega
          rw [bs_end, decide_eq_true_eq] at hlt
          omega
      have hb : bs q (i + 1) = bif q (((bs q i).1 + (bs q i).2) / 2) then ((bs q i).1, ((bs q i).1 + (bs q i).2) / 2) else (((bs q i).1 + (bs q i).2) / 2 + 1, (bs q i).2) := by rw [bs, hlt]; rfl
      have h6 := h6 (((bs q i).1 + (bs q i).2) / 2) ⟨H.bl, [], min ro H.bl.length⟩ rfl
      rw [show decide (x ≤ shI o d (((bs q i).1 + (bs q i).2) / 2)) = q (((bs q i).1 + (bs q i).2) / 2) by rw [hq]] at h6
      cases hv : q (((bs q i).1 + (bs q i).2) / 2) with
      | false =>
        rw [hv] at h6 hb
        simp only [fr_get0, fr_getk, fr_set0, fr_setk, fr_take0, fr_takek, fr_drop0, fr_dropk, fr_le, fr_le0, fr_lt, fr_lt0, fr_lt1, fr_min, fr_mink, fr_beq, fr_beq0, fr_beq1, fr_maxle, fr_refl, fr_z, fr_s, List.append_assoc, List.length_append, Nat.add_assoc, go_sem, Int.reduceToNat, Nat.reduceAdd, Nat.reduceBEq, Nat.reduceLeDiff, Nat.reduceLT, Nat.reduceMul, Nat.reduceSub, Int.reduceEq, Int.reduceLT, Int.reduceLE, Int.reduceNeg, hlt, hw, hm, h6, hw2, hb, l1, l2]
        exact ⟨hi2, trivial, trivial⟩
      | true =>
        rw [hv] at h6 hb
        simp only [fr_get0, fr_getk, fr_set0, fr_setk, fr_take0, fr_takek, fr_drop0, fr_dropk, fr_le, fr_le0, fr_lt, fr_lt0, fr_lt1, fr_min, fr_mink, fr_beq, fr_beq0, fr_beq1, fr_maxle, fr_refl, fr_z, fr_s, List.append_assoc, List.length_append, Nat.add_assoc, go_sem, Int.reduceToNat, Nat.reduceAdd, Nat.reduceBEq, Nat.reduceLeDiff, Nat.reduceLT, Nat.reduceMul, Nat.reduceSub, Int.reduceEq, Int.reduceLT, Int.reduceLE, Int.reduceNeg, hlt, hw, hm, h6, hb, l1, l2]
        exact ⟨hi2, trivial, trivial⟩
end Go.Sh
namespace Go.Sh
set_option linter.unusedSectionVars false
set_option linter.unnecessarySimpa false
set_option linter.unusedVariables false
set_option linter.unusedSimpArgs false
set_option maxRecDepth 100000
set_option maxHeartbeats 4000000
theorem call_rot {T : FuncId → Option Fun1} {f : FuncId} {F : Fun1} {xs : List SV} {n : Nat} {H : Heap} {a c : Int} (hT : T f = some F) (hk : F.keep = false)
    (h : ∀ (R : Type) (k : SV → Heap → Option R) (bl : List SBlk) (ro : Nat) (r : Option R), (bl = [] ∧ SV.refs.refsL xs = 0 ∨ bl = H.bl) → (∀ ext, k (.tup [.int .i64 a, .int .i64 c]) ⟨bl ++ ext, [], min ro bl.length⟩ = r) →
      runK (call1 T n) (fin1 F.res k) F.body [] (env0 xs) ⟨bl, [], min ro bl.length⟩ () = r) :
    call1 T (n + 1) (.fn f) xs H = some (.tup [.int .i64 a, .int .i64 c], H) := by
  have hfz : ∀ N H', frz N H' depth1 (.tup [.int .i64 a, .int .i64 c]) = some (.tup [.int .i64 a, .int .i64 c]) := fun N H' => by simp [depth1, frz, allS]
  cases hp : pure0 F xs with
  | true =>
    refine call_pure hT hp ?_
    have hr : SV.refs.refsL xs = 0 := by
      unfold pure0 at hp
      simp only [Bool.and_eq_true, beq_iff_eq] at hp
      exact hp.1
    exact h SV (fun v H' => frz 0 H' depth1 v) [] 0 _ (.inl ⟨rfl, hr⟩) (fun ext => hfz _ _)
  | false =>
    refine call_in hT hp ?_
    refine h _ (fun v H' => leave1 F.keep H v H') H.bl H.ro _ (.inr rfl) (fun ext => ?_)
    rw [hk, leave_not, hfz]
    obtain ⟨bl, es, ro⟩ := H
    simp [Sh.trunc]
def rV (o d x : Int) : Int := bif decide (shI o d 1099511627776 < x) then 0 else srch fun t => decide (x ≤ shI o d t)
def rE (o d x : Int) : Int := bif decide (shI o d 1099511627776 < x) then 15 else 0
theorem s124 (n b : Nat) (H : Heap) (o d x : Int) (hb : H.bl[b]? = some (.box [.int .i64 o, .int .i64 d])) :
    call1 T (n + 5) (.fn 124) [.agg [.fn 166 [.ptr b 0 0 0]], .int .i64 x] H = some (.tup [.int .i64 (rV o d x), .int .i64 (rE o d x)], H) := by
  refine call_rot e124 rfl (fun R k bl ro r hbl hk => ?_)
  obtain rfl : bl = H.bl := by
    rcases hbl with ⟨rfl, h0⟩ | rfl
    · simp [SV.refs.refsL, SV.refs] at h0
    · rfl
  have h6 := fun t H' (h : H'.bl[b]? = some (.box [.int .i64 o, .int .i64 d])) => s166 (n + 2) b H' t o d h
  have h7 := fun H' hb hb1 hb2 => s168 n b H.bl.length (H.bl.length + 1) H' o d x hb hb1 hb2
  have hB : ∀ l : List SBlk, (H.bl ++ l)[b]? = some (.box [.int .i64 o, .int .i64 d]) := fun l => fr_b hb
  unfold rV rE at hk
  cases hc : decide (shI o d 1099511627776 < x) with
  | true =>
    rw [hc] at hk
    simp only [c124, fr_get0, fr_getk, fr_set0, fr_setk, fr_take0, fr_takek, fr_drop0, fr_dropk, fr_le, fr_le0, fr_lt, fr_lt0, fr_lt1, fr_min, fr_mink, fr_beq, fr_beq0, fr_beq1, fr_maxle, fr_refl, fr_z, fr_s, List.append_assoc, List.length_append, Nat.add_assoc, go_sem, Int.reduceToNat, Nat.reduceAdd, Nat.reduceBEq, Nat.reduceLeDiff, Nat.reduceLT, Nat.reduceMul, Nat.reduceSub, Int.reduceEq, Int.reduceLT, Int.reduceLE, Int.reduceNeg, h6, hB, hc]
    exact hk _
  | false =>
    rw [hc] at hk
    simp only [c124, fr_get0, fr_getk, fr_set0, fr_setk, fr_take0, fr_takek, fr_drop0, fr_dropk, fr_le, fr_le0, fr_lt, fr_lt0, fr_lt1, fr_min, fr_mink, fr_beq, fr_beq0, fr_beq1, fr_maxle, fr_refl, fr_z, fr_s, List.append_assoc, List.length_append, Nat.add_assoc, go_sem, Int.reduceToNat, Nat.reduceAdd, Nat.reduceBEq, Nat.reduceLeDiff, Nat.reduceLT, Nat.reduceMul, Nat.reduceSub, Int.reduceEq, Int.reduceLT, Int.reduceLE, Int.reduceNeg, h6, h7, hB, hc]
    exact hk _
theorem s123 (n : Nat) (bl es ro) (o d : Int) : call1 T (n + 1) (.kfn 123) [.agg [.int .i64 o, .int .i64 d]] ⟨bl, es, ro⟩ =
    some (.agg [.fn 166 [.ptr bl.length 0 0 0]], ⟨bl ++ [.box [.int .i64 o, .int .i64 d], .box [.fn 166 [.ptr bl.length 0 0 0]]], es, ro⟩) := by
  refine kcall_in e123 ?_
  simp only [c123, fr_get0, fr_getk, fr_set0, fr_setk, fr_take0, fr_takek, fr_drop0, fr_dropk, fr_le, fr_le0, fr_lt, fr_lt0, fr_lt1, fr_min, fr_mink, fr_beq, fr_beq0, fr_beq1, fr_maxle, fr_refl, fr_z, fr_s, List.append_assoc, List.length_append, Nat.add_assoc, go_sem, Int.reduceToNat, Nat.reduceAdd, Nat.reduceBEq, Nat.reduceLeDiff, Nat.reduceLT, Nat.reduceMul, Nat.reduceSub, Int.reduceEq, Int.reduceLT, Int.reduceLE, Int.reduceNeg]
def slB (o d s : Int) : Bool := ckC o d && (decide (0 ≤ s) && decide (s ≤ 109951162))
def slE (o d s : Int) : Int := bif ckC o d then (bif decide (0 ≤ s) && decide (s ≤ 109951162) then 0 else 2) else 1
theorem s122 (n : Nat) (H : Heap) (o d s : Int) : call1 T (n + 2) (.fn 122) [.agg [.int .i64 o, .int .i64 d], .int .i64 s] H = some (.int .i64 (slE o d s), H) := by
  have h6 := fun H => s60 n H o d
  unfold slE
  unfold ckCI at h6
  cases hc : ckC o d with
  | false =>
    rw [hc] at h6
    (refine call_pure e122 (by rfl) ?_; simp only [c122, heap0, go_sem, Int.reduceToNat, Nat.reduceAdd, Nat.reduceBEq, Nat.reduceLeDiff, Nat.reduceLT, Nat.reduceMul, Nat.reduceSub, Int.reduceEq, Int.reduceLT, Int.reduceLE, Int.reduceNeg, h6])
  | true =>
    rw [hc] at h6
    by_cases h1 : s < 0
    · have e1 : decide (s < 0) = true := decide_eq_true h1
      have e2 : decide (0 ≤ s) = false := decide_eq_false (by omega)
      (refine call_pure e122 (by rfl) ?_; simp only [c122, heap0, go_sem, Int.reduceToNat, Nat.reduceAdd, Nat.reduceBEq, Nat.reduceLeDiff, Nat.reduceLT, Nat.reduceMul, Nat.reduceSub, Int.reduceEq, Int.reduceLT, Int.reduceLE, Int.reduceNeg, h6, e1, e2])
    · have e1 : decide (s < 0) = false := decide_eq_false h1
      have e2 : decide (0 ≤ s) = true := decide_eq_true (by omega)
      by_cases h3 : s ≤ 109951162
      · have e3 : decide (s ≤ 109951162) = true := decide_eq_true h3
        have e4 : decide (109951162 < s) = false := decide_eq_false (by omega)
        (refine call_pure e122 (by rfl) ?_; simp only [c122, heap0, go_sem, Int.reduceToNat, Nat.reduceAdd, Nat.reduceBEq, Nat.reduceLeDiff, Nat.reduceLT, Nat.reduceMul, Nat.reduceSub, Int.reduceEq, Int.reduceLT, Int.reduceLE, Int.reduceNeg, h6, e1, e2, e3, e4])
      · have e3 : decide (s ≤ 109951162) = false := decide_eq_false h3
        have e4 : decide (109951162 < s) = true := decide_eq_true (by omega)
        (refine call_pure e122 (by rfl) ?_; simp only [c122, heap0, go_sem, Int.reduceToNat, Nat.reduceAdd, Nat.reduceBEq, Nat.reduceLeDiff, Nat.reduceLT, Nat.reduceMul, Nat.reduceSub, Int.reduceEq, Int.reduceLT, Int.reduceLE, Int.reduceNeg, h6, e1, e2, e3, e4])
def snV (o d s : Int) : Int := bif slB o d s then rV o d (s * 10000 + 2120) else 0
def snE (o d s : Int) : Int := bif slB o d s then rE o d (s * 10000 + 2120) else slE o d s
def wnE (o d s : Int) : Int := bif slB o d s then rE o d (s * 10000 + 3221) else slE o d s
def wnA (o d s : Int) : Int := bif slB o d s && decide (s * 10000 + 3221 ≤ shI o d 1099511627776) then rV o d (s * 10000 + 1020) else 0
def wnB (o d s : Int) : Int := bif slB o d s && decide (s * 10000 + 3221 ≤ shI o d 1099511627776) then w64 (rV o d (s * 10000 + 3221) - 1) else 0
theorem slB_spec {o d s : Int} (h : slB o d s = true) : ckC o d = true ∧ 0 ≤ s ∧ s ≤ 109951162 ∧ slE o d s = 0 := by
  unfold slB at h
  unfold slE
  cases h1 : ckC o d
  · rw [h1, Bool.false_and] at h; cases h
  · rw [h1, Bool.true_and] at h
    rw [h]
    simp only [Bool.and_eq_true, decide_eq_true_eq] at h
    exact ⟨rfl, h.1, h.2, rfl⟩
theorem slB_no {o d s : Int} (h : slB o d s = false) : decide (slE o d s = 0) = false := by
  unfold slB at h
  unfold slE
  cases h1 : ckC o d
  · rfl
  · rw [h1, Bool.true_and] at h
    rw [h]
    rfl
theorem s66 (n : Nat) (H : Heap) (o d s : Int) : call1 T (n + 6) (.fn 66) [.agg [.int .i64 o, .int .i64 d], .int .i64 s] H = some (.tup [.int .i64 (snV o d s), .int .i64 (snE o d s)], H) := by
  have h122 := fun H => s122 (n + 3) H o d s
  have h123 := fun bl es ro => s123 (n + 4) bl es ro o d
  unfold snV snE
  cases hb : slB o d s with
  | false =>
    have h0 := slB_no hb
    (refine call_pure e66 (by rfl) ?_; simp only [c66, heap0, go_sem, Int.reduceToNat, Nat.reduceAdd, Nat.reduceBEq, Nat.reduceLeDiff, Nat.reduceLT, Nat.reduceMul, Nat.reduceSub, Int.reduceEq, Int.reduceLT, Int.reduceLE, Int.reduceNeg, h122, h0])
  | true =>
    obtain ⟨h1, h2, h3, h4⟩ := slB_spec hb
    rw [h4] at h122
    have hw : w64 (w64 (s * 10000) + 2120) = s * 10000 + 2120 := by rw [w64_id (n := s * 10000) (by omega) (by omega)]; exact w64_id (by omega) (by omega)
    have h124 := fun H hb => s124 n 1 H o d (s * 10000 + 2120) hb
    (refine call_pure e66 (by rfl) ?_; simp only [c66, heap0, go_sem, Int.reduceToNat, Nat.reduceAdd, Nat.reduceBEq, Nat.reduceLeDiff, Nat.reduceLT, Nat.reduceMul, Nat.reduceSub, Int.reduceEq, Int.reduceLT, Int.reduceLE, Int.reduceNeg, h122, h123, h124, hw])
theorem s67 (n : Nat) (H : Heap) (o d s : Int) : call1 T (n + 6) (.fn 67) [.agg [.int .i64 o, .int .i64 d], .int .i64 s] H = some (.tup [.int .i64 (wnA o d s), .int .i64 (wnB o d s), .int .i64 (wnE o d s)], H) := by
  have h122 := fun H => s122 (n + 3) H o d s
  have h123 := fun bl es ro => s123 (n + 4) bl es ro o d
  unfold wnA wnB wnE
  cases hb : slB o d s with
  | false =>
    have h0 := slB_no hb
    (refine call_pure e67 (by rfl) ?_; simp only [c67, heap0, go_sem, Int.reduceToNat, Nat.reduceAdd, Nat.reduceBEq, Nat.reduceLeDiff, Nat.reduceLT, Nat.reduceMul, Nat.reduceSub, Int.reduceEq, Int.reduceLT, Int.reduceLE, Int.reduceNeg, h122, h0])
  | true =>
    obtain ⟨h1, h2, h3, h4⟩ := slB_spec hb
    rw [h4] at h122
    have hw0 : w64 (w64 (s * 10000) + 2120) = s * 10000 + 2120 := by rw [w64_id (n := s * 10000) (by omega) (by omega)]; exact w64_id (by omega) (by omega)
    have hw1 : w64 (s * 10000 + 2120 - 1100) = s * 10000 + 1020 := by rw [w64_id (by omega) (by omega)]; omega
    have hw2 : w64 (w64 (s * 10000 + 2120 + 1100) + 1) = s * 10000 + 3221 := by rw [w64_id (n := s * 10000 + 2120 + 1100) (by omega) (by omega), w64_id (by omega) (by omega)]; omega
    have h124 := fun H hb => s124 n 1 H o d (s * 10000 + 1020) hb
    have h125 := fun H hb => s124 n 3 H o d (s * 10000 + 3221) hb
    cases hc : decide (s * 10000 + 3221 ≤ shI o d 1099511627776) with
    | true =>
      have hE1 : rE o d (s * 10000 + 1020) = 0 := by unfold rE; rw [decide_eq_false (by rw [decide_eq_true_eq] at hc; omega)]; rfl
      have hE2 : rE o d (s * 10000 + 3221) = 0 := by unfold rE; rw [decide_eq_false (by rw [decide_eq_true_eq] at hc; omega)]; rfl
      rw [hE1] at h124
      rw [hE2] at h125
      (refine call_pure e67 (by rfl) ?_; simp only [c67, heap0, go_sem, Int.reduceToNat, Nat.reduceAdd, Nat.reduceBEq, Nat.reduceLeDiff, Nat.reduceLT, Nat.reduceMul, Nat.reduceSub, Int.reduceEq, Int.reduceLT, Int.reduceLE, Int.reduceNeg, h122, h123, h124, h125, hw0, hw1, hw2, hE2])
    | false =>
      have hE2 : rE o d (s * 10000 + 3221) = 15 := by unfold rE; rw [decide_eq_true (by rw [decide_eq_false_iff_not] at hc; omega)]; rfl
      rw [hE2] at h125
      cases hd : decide (rE o d (s * 10000 + 1020) = 0) with
      | true =>
        (refine call_pure e67 (by rfl) ?_; simp only [c67, heap0, go_sem, Int.reduceToNat, Nat.reduceAdd, Nat.reduceBEq, Nat.reduceLeDiff, Nat.reduceLT, Nat.reduceMul, Nat.reduceSub, Int.reduceEq, Int.reduceLT, Int.reduceLE, Int.reduceNeg, h122, h123, h124, h125, hw0, hw1, hw2, hE2, hd])
      | false =>
        (refine call_pure e67 (by rfl) ?_; simp only [c67, heap0, go_sem, Int.reduceToNat, Nat.reduceAdd, Nat.reduceBEq, Nat.reduceLeDiff, Nat.reduceLT, Nat.reduceMul, Nat.reduceSub, Int.reduceEq, Int.reduceLT, Int.reduceLE, Int.reduceNeg, h122, h123, h124, h125, hw0, hw1, hw2, hE2, hd])
end Go.Sh
namespace Go.Sh
set_option linter.unusedSectionVars false
set_option linter.unnecessarySimpa false
set_option linter.unusedVariables false
set_option linter.unusedSimpArgs false
set_option maxRecDepth 100000
set_option maxHeartbeats 4000000
theorem s88 (n : Nat) (H : Heap) (o d x : Int) (hk : ckC o d = true) : call1 T (n + 3) (.fn 88) [.agg [.int .i64 o, .int .i64 d], .int .i64 x] H = some (.tup [.int .i64 (rV o d x), .int .i64 (rE o d x)], H) := by
  refine call_pure e88 (by rfl) ?_
  have h69 := fun H => s69 (n + 1) H o d
  unfold ckCI at h69
  rw [hk] at h69
  have h71 := fun H t => s71 n H t o d
  unfold rV rE
  cases hc : decide (shI o d 1099511627776 < x) with
  | true => simp only [c88, heap0, go_sem, Int.reduceToNat, Nat.reduceAdd, Nat.reduceBEq, Nat.reduceLeDiff, Nat.reduceLT, Nat.reduceMul, Nat.reduceSub, Int.reduceEq, Int.reduceLT, Int.reduceLE, Int.reduceNeg, h69, h71, hc]
  | false =>
    simp only [c88, heap0, go_sem, Int.reduceToNat, Nat.reduceAdd, Nat.reduceBEq, Nat.reduceLeDiff, Nat.reduceLT, Nat.reduceMul, Nat.reduceSub, Int.reduceEq, Int.reduceLT, Int.reduceLE, Int.reduceNeg, h69, h71, hc]
    obtain ⟨q, hq⟩ : ∃ q : Int → Bool, q = fun t => decide (x ≤ shI o d t) := ⟨_, rfl⟩
    rw [← hq]
    refine loop_rule (fun i => ([(1, .int .i64 x), (2, .ptr 0 0 0 0), (6, .int .i64 (bs q i).1), (7, .int .i64 (bs q i).2)], ⟨[.box [.int .i64 o, .int .i64 d]], [], 0⟩)) (fun _ => True) 41 ?_ trivial ?_
    · simp only [go_sem, Int.reduceToNat, Nat.reduceAdd, Nat.reduceBEq, Nat.reduceLeDiff, Nat.reduceLT, Nat.reduceMul, Nat.reduceSub, Int.reduceEq, Int.reduceLT, Int.reduceLE, Int.reduceNeg, bs] <;> rfl
    · intro i hi _
      obtain ⟨g1, g2, g3, _⟩ := bs_inv q i
      cases hlt : decide ((bs q i).1 < (bs q i).2) with
      | false =>
        simp only [go_sem, Int.reduceToNat, Nat.reduceAdd, Nat.reduceBEq, Nat.reduceLeDiff, Nat.reduceLT, Nat.reduceMul, Nat.reduceSub, Int.reduceEq, Int.reduceLT, Int.reduceLE, Int.reduceNeg, hlt, srch_at q i hi hlt]
      | true =>
        have hw : w64 ((bs q i).1 + (bs q i).2) = (bs q i).1 + (bs q i).2 := w64_id (by omega) (by omega)
        have ht : ((bs q i).1 + (bs q i).2).tdiv 2 = ((bs q i).1 + (bs q i).2) / 2 := Int.tdiv_eq_ediv_of_nonneg (by omega)
        have hm : w64 (((bs q i).1 + (bs q i).2) / 2) = ((bs q i).1 + (bs q i).2) / 2 := w64_id (by omega) (by omega)
        have hw2 : w64 (((bs q i).1 + (bs q i).2) / 2 + 1) = ((bs q i).1 + (bs q i).2) / 2 + 1 := w64_id (by omega) (by omega)
        have hi2 : i < 41 := by
          rcases Nat.lt_or_ge i 41 with h | h
          · exact h
          · obtain rfl : i = 41 := by omega
            rw [bs_end, decide_eq_true_eq] at hlt
            omega
        have hb : bs q (i + 1) = bif q (((bs q i).1 + (bs q i).2) / 2) then ((bs q i).1, ((bs q i).1 + (bs q i).2) / 2) else (((bs q i).1 + (bs q i).2) / 2 + 1, (bs q i).2) := by rw [bs, hlt]; rfl
        have hv' : decide (x ≤ shI o d (((bs q i).1 + (bs q i).2) / 2)) = q (((bs q i).1 + (bs q i).2) / 2) := by rw [hq]
        cases hv : q (((bs q i).1 + (bs q i).2) / 2) with
        | false =>
          rw [hv] at hv' hb
          simp only [go_sem, Int.reduceToNat, Nat.reduceAdd, Nat.reduceBEq, Nat.reduceLeDiff, Nat.reduceLT, Nat.reduceMul, Nat.reduceSub, Int.reduceEq, Int.reduceLT, Int.reduceLE, Int.reduceNeg, hlt, hw, ht, hm, h71, hv', hw2, hb]
          refine ⟨hi2, ?_, ?_⟩ <;> first | trivial | rfl
        | true =>
          rw [hv] at hv' hb
          simp only [go_sem, Int.reduceToNat, Nat.reduceAdd, Nat.reduceBEq, Nat.reduceLeDiff, Nat.reduceLT, Nat.reduceMul, Nat.reduceSub, Int.reduceEq, Int.reduceLT, Int.reduceLE, Int.reduceNeg, hlt, hw, ht, hm, h71, hv', hb]
          refine ⟨hi2, ?_, ?_⟩ <;> first | trivial | rfl
theorem s50 (n : Nat) (H : Heap) (o d s x : Int) (hx0 : 0 ≤ x) (hx : x ≤ 10000) : call1 T (n + 4) (.fn 50) [.agg [.int .i64 o, .int .i64 d], .int .i64 s, .int .i64 x] H =
    some (.tup [.int .i64 (bif slB o d s then rV o d (s * 10000 + x) else 0), .int .i64 (bif slB o d s then rE o d (s * 10000 + x) else slE o d s)], H) := by
  have h69 := fun H => s69 (n + 2) H o d
  unfold ckCI at h69
  cases hb : slB o d s with
  | false =>
    unfold slE
    unfold slB at hb
    cases hc : ckC o d with
    | false =>
      rw [hc] at h69
      (refine call_pure e50 (by rfl) ?_; simp only [c50, heap0, go_sem, Int.reduceToNat, Nat.reduceAdd, Nat.reduceBEq, Nat.reduceLeDiff, Nat.reduceLT, Nat.reduceMul, Nat.reduceSub, Int.reduceEq, Int.reduceLT, Int.reduceLE, Int.reduceNeg, h69])
    | true =>
      rw [hc] at h69 hb
      rw [Bool.true_and] at hb
      by_cases h1 : s < 0
      · have e1 : decide (s < 0) = true := decide_eq_true h1
        (refine call_pure e50 (by rfl) ?_; simp only [c50, heap0, go_sem, Int.reduceToNat, Nat.reduceAdd, Nat.reduceBEq, Nat.reduceLeDiff, Nat.reduceLT, Nat.reduceMul, Nat.reduceSub, Int.reduceEq, Int.reduceLT, Int.reduceLE, Int.reduceNeg, h69, e1, hb])
      · have e1 : decide (s < 0) = false := decide_eq_false h1
        have e2 : decide (0 ≤ s) = true := decide_eq_true (by omega)
        rw [e2, Bool.true_and] at hb
        have e4 : decide (109951162 < s) = true := by simp only [decide_eq_true_eq, decide_eq_false_iff_not] at *; omega
        (refine call_pure e50 (by rfl) ?_; simp only [c50, heap0, go_sem, Int.reduceToNat, Nat.reduceAdd, Nat.reduceBEq, Nat.reduceLeDiff, Nat.reduceLT, Nat.reduceMul, Nat.reduceSub, Int.reduceEq, Int.reduceLT, Int.reduceLE, Int.reduceNeg, h69, e1, e2, hb, e4])
  | true =>
    obtain ⟨h1, h2, h3, h4⟩ := slB_spec hb
    rw [h1] at h69
    have e1 : decide (s < 0) = false := decide_eq_false (by omega)
    have e4 : decide (109951162 < s) = false := decide_eq_false (by omega)
    have hw : w64 (w64 (s * 10000) + x) = s * 10000 + x := by rw [w64_id (n := s * 10000) (by omega) (by omega)]; exact w64_id (by omega) (by omega)
    have h88 := fun H => s88 n H o d (s * 10000 + x) h1
    (refine call_pure e50 (by rfl) ?_; simp only [c50, heap0, go_sem, Int.reduceToNat, Nat.reduceAdd, Nat.reduceBEq, Nat.reduceLeDiff, Nat.reduceLT, Nat.reduceMul, Nat.reduceSub, Int.reduceEq, Int.reduceLT, Int.reduceLE, Int.reduceNeg, h69, e1, e4, hw, h88])
theorem s13 (n : Nat) (H : Heap) (o d s : Int) : call1 T (n + 5) (.fn 13) [.agg [.int .i64 o, .int .i64 d], .int .i64 s] H = some (.tup [.int .i64 (snV o d s), .int .i64 (snE o d s)], H) := by
  have h50 := fun H => s50 n H o d s 2120 (by omega) (by omega)
  (refine call_pure e13 (by rfl) ?_; simp only [c13, heap0, go_sem, Int.reduceToNat, Nat.reduceAdd, Nat.reduceBEq, Nat.reduceLeDiff, Nat.reduceLT, Nat.reduceMul, Nat.reduceSub, Int.reduceEq, Int.reduceLT, Int.reduceLE, Int.reduceNeg, h50, snV, snE])
theorem s54 (n : Nat) (H : Heap) (o d s : Int) : call1 T (n + 5) (.fn 54) [.agg [.int .i64 o, .int .i64 d], .int .i64 s] H = some (.tup [.int .i64 (wnA o d s), .int .i64 (wnB o d s), .int .i64 (wnE o d s)], H) := by
  have h50 := fun H => s50 n H o d s 3221 (by omega) (by omega)
  have h51 := fun H => s50 n H o d s 1020 (by omega) (by omega)
  unfold wnA wnB wnE
  cases hb : slB o d s with
  | false =>
    rw [hb] at h50 h51
    have h0 := slB_no hb
    (refine call_pure e54 (by rfl) ?_; simp only [c54, heap0, go_sem, Int.reduceToNat, Nat.reduceAdd, Nat.reduceBEq, Nat.reduceLeDiff, Nat.reduceLT, Nat.reduceMul, Nat.reduceSub, Int.reduceEq, Int.reduceLT, Int.reduceLE, Int.reduceNeg, h50, h51, h0])
  | true =>
    rw [hb] at h50 h51
    cases hc : decide (s * 10000 + 3221 ≤ shI o d 1099511627776) with
    | true =>
      have hE2 : rE o d (s * 10000 + 3221) = 0 := by unfold rE; rw [decide_eq_false (by rw [decide_eq_true_eq] at hc; omega)]; rfl
      rw [hE2] at h50
      (refine call_pure e54 (by rfl) ?_; simp only [c54, heap0, go_sem, Int.reduceToNat, Nat.reduceAdd, Nat.reduceBEq, Nat.reduceLeDiff, Nat.reduceLT, Nat.reduceMul, Nat.reduceSub, Int.reduceEq, Int.reduceLT, Int.reduceLE, Int.reduceNeg, h50, h51, hE2])
    | false =>
      have hE2 : rE o d (s * 10000 + 3221) = 15 := by unfold rE; rw [decide_eq_true (by rw [decide_eq_false_iff_not] at hc; omega)]; rfl
      rw [hE2] at h50
      (refine call_pure e54 (by rfl) ?_; simp only [c54, heap0, go_sem, Int.reduceToNat, Nat.reduceAdd, Nat.reduceBEq, Nat.reduceLeDiff, Nat.reduceLT, Nat.reduceMul, Nat.reduceSub, Int.reduceEq, Int.reduceLT, Int.reduceLE, Int.reduceNeg, h50, h51, hE2])
end Go.Sh
namespace Go.Sh
set_option linter.unusedSectionVars false
set_option linter.unnecessarySimpa false
set_option linter.unusedVariables false
set_option linter.unusedSimpArgs false
set_option maxRecDepth 100000
set_option maxHeartbeats 4000000
namespace G
abbrev pt (a b : Int) : SV := .agg [.int .i64 a, .int .i64 b]
abbrev wl (a b c d f : Int) : SV := .agg [.int .i64 a, .int .i64 b, .int .i64 c, .int .i64 d, .int .i64 f]
def cmpI (a b : Int) : Int := if a < b then -1 else if b < a then 1 else 0
def turnI (a b c d x y : Int) : Int := cmpI (w64 (w64 (c - a) * w64 (y - b))) (w64 (w64 (d - b) * w64 (x - a)))
def withinI (p q a b c d : Int) : Bool := decide (min a c ≤ p) && decide (p ≤ max a c) && decide (min b d ≤ q) && decide (q ≤ max b d)
def onI (p q a b c d : Int) : Bool := (decide (p = a) && decide (q = b)) || (decide (p = c) && decide (q = d)) || (decide (turnI a b c d p q = 0) && withinI p q a b c d)
def crossI (a b c d x y z t : Int) : Bool := onI x y a b c d || onI z t a b c d || onI a b x y z t || onI c d x y z t ||
  (decide (w64 (turnI a b c d x y * turnI a b c d z t) < 0) && decide (w64 (turnI x y z t a b * turnI x y z t c d) < 0))
theorem s155 (n id : Nat) (H : Heap) (L : List (List SV)) (fl : Bool) (p : List SV → Bool) (hr : ∀ r ∈ L, r.length = 2) (hm : L.length ≤ maxLen)
    (hc : ∀ r ∈ L, ∀ H, call1 T n (.fn id) [.agg r] H = some (.bool (p r), H)) : call1 T (n + 1) (.fn 155) [.lst 2 L fl, .fn id []] H = some (.int .i64 (idx1 p L), H) := by
  refine call_pure e155 (by rfl) ?_
  simp only [c155, heap0, go_sem, Nat.reduceAdd, Nat.reduceBEq]
  refine loop_rule (fun i => ([(0, .lst 2 L fl), (1, .fn id []), (7, .int .i64 L.length), (8, .int .i64 i)], ⟨[], [], 0⟩)) (fun i => ∀ (j : Nat) r, j < i → L[j]? = some r → p r = false) L.length ?_ (fun j r h => by omega) ?_
  · simp only [go_sem, Nat.reduceAdd, Nat.reduceBEq, Nat.reduceLeDiff] <;> rfl
  · intro i hi hP
    have hm : maxLen = maxLen := rfl
    rcases Nat.lt_or_ge i L.length with hlt | hge
    · obtain ⟨r, hr'⟩ : ∃ r, L[i]? = some r := ⟨L[i], List.getElem?_eq_getElem hlt⟩
      have hmem := List.mem_of_getElem? hr'
      have h1 := hr _ hmem
      have ht : List.take 2 r = r := List.take_of_length_le (by omega)
      have hw : w64 ((i : Int) + 1) = ((i + 1 : Nat) : Int) := by
        rw [w64_id] <;> simp [maxLen] at * <;> omega
      cases hp : p r with
      | true =>
        have hx := idx1_at hr' hp hP
        simp only [go_sem, Nat.reduceAdd, Nat.reduceBEq, Nat.reduceLeDiff, hlt, hr', hc r hmem, hw, h1, ht, hp, hx]
      | false =>
        simp only [go_sem, Nat.reduceAdd, Nat.reduceBEq, Nat.reduceLeDiff, hlt, hr', hc r hmem, hw, h1, ht, hp]
        refine ⟨trivial, trivial, fun j r' hj hr2 => ?_⟩
        rcases Nat.lt_or_ge j i with hlt2 | hge2
        · exact hP j r' hlt2 hr2
        · have : j = i := by omega
          subst this
          rw [hr'] at hr2
          cases hr2
          exact hp
    · have hlt : ¬ i < L.length := by omega
      have hx : idx1 p L = -1 := idx1_none (fun j a hj => hP j a (by have := (List.getElem?_eq_some_iff.1 hj).1; omega) hj)
      simp only [go_sem, Nat.reduceAdd, Nat.reduceBEq, Nat.reduceLeDiff, hlt, hx]
theorem s156 (n id : Nat) (H : Heap) (L : List (List SV)) (fl : Bool) (p : List SV → Bool) (hr : ∀ r ∈ L, ∃ x, r = [x]) (hm : L.length ≤ maxLen)
    (hc : ∀ r ∈ L, ∀ H, call1 T n (.fn id) [r.headD .undef] H = some (.bool (p r), H)) : call1 T (n + 1) (.fn 156) [.lst 1 L fl, .fn id []] H = some (.int .i64 (idx1 p L), H) := by
  refine call_pure e156 (by rfl) ?_
  simp only [c156, heap0, go_sem, Nat.reduceAdd, Nat.reduceBEq]
  refine loop_rule (fun i => ([(0, .lst 1 L fl), (1, .fn id []), (7, .int .i64 L.length), (8, .int .i64 i)], ⟨[], [], 0⟩)) (fun i => ∀ (j : Nat) r, j < i → L[j]? = some r → p r = false) L.length ?_ (fun j r h => by omega) ?_
  · simp only [go_sem, Nat.reduceAdd, Nat.reduceBEq, Nat.reduceLeDiff] <;> rfl
  · intro i hi hP
    have hm : maxLen = maxLen := rfl
    rcases Nat.lt_or_ge i L.length with hlt | hge
    · obtain ⟨r, hr'⟩ : ∃ r, L[i]? = some r := ⟨L[i], List.getElem?_eq_getElem hlt⟩
      have hmem := List.mem_of_getElem? hr'
      have h1 := hr _ hmem
      obtain ⟨x, rfl⟩ := h1
      have hcr := hc _ hmem
      simp only [List.headD_cons] at hcr
      have hw : w64 ((i : Int) + 1) = ((i + 1 : Nat) : Int) := by
        rw [w64_id] <;> simp [maxLen] at * <;> omega
      cases hp : p [x] with
      | true =>
        have hx := idx1_at hr' hp hP
        simp only [go_sem, Nat.reduceAdd, Nat.reduceBEq, Nat.reduceLeDiff, hlt, hr', hcr, hw, hp, hx]
      | false =>
        simp only [go_sem, Nat.reduceAdd, Nat.reduceBEq, Nat.reduceLeDiff, hlt, hr', hcr, hw, hp]
        refine ⟨trivial, trivial, fun j r' hj hr2 => ?_⟩
        rcases Nat.lt_or_ge j i with hlt2 | hge2
        · exact hP j r' hlt2 hr2
        · have : j = i := by omega
          subst this
          rw [hr'] at hr2
          cases hr2
          exact hp
    · have hlt : ¬ i < L.length := by omega
      have hx : idx1 p L = -1 := idx1_none (fun j a hj => hP j a (by have := (List.getElem?_eq_some_iff.1 hj).1; omega) hj)
      simp only [go_sem, Nat.reduceAdd, Nat.reduceBEq, Nat.reduceLeDiff, hlt, hx]
def ptsS (L : List (Int × Int)) : List (List SV) := L.map fun p => [.int .i64 p.1, .int .i64 p.2]
theorem ptsS_len {L : List (Int × Int)} : ∀ r ∈ ptsS L, r.length = 2 := by
  intro r hr; simp only [ptsS, List.mem_map] at hr; obtain ⟨p, _, rfl⟩ := hr; rfl
theorem ptsS_any {p : List SV → Bool} {q : Int × Int → Bool} (h : ∀ a b, p [.int .i64 a, .int .i64 b] = q (a, b)) (L : List (Int × Int)) : (ptsS L).any p = L.any q := by
  induction L with
  | nil => rfl
  | cons a l ih => simp only [ptsS, List.map_cons, List.any_cons, h] at *; rw [ih]
theorem s108 (n id : Nat) (H : Heap) (L : List (List SV)) (fl : Bool) (p : List SV → Bool) (hr : ∀ r ∈ L, r.length = 2) (hm : L.length ≤ maxLen)
    (hc : ∀ r ∈ L, ∀ H, call1 T n (.fn id) [.agg r] H = some (.bool (p r), H)) : call1 T (n + 2) (.fn 108) [.lst 2 L fl, .fn id []] H = some (.bool (L.any p), H) := by
  refine call_pure e108 (by rfl) ?_
  simp only [c108, heap0, go_sem, Nat.reduceAdd, Nat.reduceBEq, s155 n id _ L fl p hr hm hc, idx1_any]
theorem s109 (n id : Nat) (H : Heap) (L : List (List SV)) (fl : Bool) (p : List SV → Bool) (hr : ∀ r ∈ L, ∃ x, r = [x]) (hm : L.length ≤ maxLen)
    (hc : ∀ r ∈ L, ∀ H, call1 T n (.fn id) [r.headD .undef] H = some (.bool (p r), H)) : call1 T (n + 2) (.fn 109) [.lst 1 L fl, .fn id []] H = some (.bool (L.any p), H) := by
  refine call_pure e109 (by rfl) ?_
  simp only [c109, heap0, go_sem, Nat.reduceAdd, Nat.reduceBEq, s156 n id _ L fl p hr hm hc, idx1_any]
structure Wl where
  a : Int
  b : Int
  c : Int
  d : Int
  f : Int
abbrev wlC (w : Wl) : List SV := [.int .i64 w.a, .int .i64 w.b, .int .i64 w.c, .int .i64 w.d, .int .i64 w.f]
def wlsS (W : List Wl) : List (List SV) := W.map wlC
def intsS (P : List Int) : List (List SV) := P.map fun p => [.int .i64 p]
@[go_sem] theorem wlsS_len {W : List Wl} : (wlsS W).length = W.length := by simp [wlsS]
@[go_sem] theorem intsS_len {W : List Int} : (intsS W).length = W.length := by simp [intsS]
@[go_sem] theorem ptsS_len' {W : List (Int × Int)} : (ptsS W).length = W.length := by simp [ptsS]
abbrev st (N : List (Int × Int)) (P : List Int) (W : List Wl) (f1 f2 f3 : Bool) (ex no th : Int) : SV := .agg [.lst 2 (ptsS N) f1, .lst 1 (intsS P) f2, .lst 5 (wlsS W) f3, .int .i64 ex, .int .i64 no, .int .i64 th]
def pointI (a b : Int) : Bool := decide (0 ≤ a) && decide (a ≤ 10000) && decide (0 ≤ b) && decide (b ≤ 10000)
theorem s107 (n : Nat) (H : Heap) (a b : Int) : call1 T (n + 1) (.fn 107) [pt a b] H = some (.bool (pointI a b), H) := by
  refine call_pure e107 (by rfl) ?_
  simp only [c107, heap0, go_sem, Int.reduceToNat, Nat.reduceAdd, Nat.reduceBEq, Nat.reduceLeDiff, Nat.reduceLT, Nat.reduceMul, Nat.reduceSub, Int.reduceEq, Int.reduceLT, Int.reduceLE, Int.reduceNeg]
  repeat' (with_reducible refine fork_split (fun _ => ?_) (fun _ => ?_) <;> simp only [*, go_sem, Int.reduceToNat, Nat.reduceAdd, Nat.reduceBEq, Nat.reduceLeDiff, Nat.reduceLT, Nat.reduceMul, Nat.reduceSub, Int.reduceEq, Int.reduceLT, Int.reduceLE, Int.reduceNeg])
  all_goals (simp only [decide_eq_true_eq, decide_eq_false_iff_not] at *; simp only [pointI]; congr 2; rw [Bool.eq_iff_iff]; simp only [Bool.and_eq_true, decide_eq_true_eq, Bool.false_eq_true, false_iff]; omega)
def powI (n : Int) : Bool := decide (0 ≤ n) && decide (n ≤ 68719476736)
theorem s111 (n : Nat) (H : Heap) (a : Int) : call1 T (n + 1) (.fn 111) [.int .i64 a] H = some (.bool (powI a), H) := by
  refine call_pure e111 (by rfl) ?_
  simp only [c111, heap0, go_sem, Int.reduceToNat, Nat.reduceAdd, Nat.reduceBEq, Nat.reduceLeDiff, Nat.reduceLT, Nat.reduceMul, Nat.reduceSub, Int.reduceEq, Int.reduceLT, Int.reduceLE, Int.reduceNeg]
  repeat' (with_reducible refine fork_split (fun _ => ?_) (fun _ => ?_) <;> simp only [*, go_sem, Int.reduceToNat, Nat.reduceAdd, Nat.reduceBEq, Nat.reduceLeDiff, Nat.reduceLT, Nat.reduceMul, Nat.reduceSub, Int.reduceEq, Int.reduceLT, Int.reduceLE, Int.reduceNeg])
  all_goals (simp only [powI]; grind)
theorem s130 (n : Nat) (H : Heap) (a : Int) : call1 T (n + 1) (.fn 130) [.int .i64 a] H = some (.bool (powI a), H) := by
  refine call_pure e130 (by rfl) ?_
  simp only [c130, heap0, go_sem, Int.reduceToNat, Nat.reduceAdd, Nat.reduceBEq, Nat.reduceLeDiff, Nat.reduceLT, Nat.reduceMul, Nat.reduceSub, Int.reduceEq, Int.reduceLT, Int.reduceLE, Int.reduceNeg]
  repeat' (with_reducible refine fork_split (fun _ => ?_) (fun _ => ?_) <;> simp only [*, go_sem, Int.reduceToNat, Nat.reduceAdd, Nat.reduceBEq, Nat.reduceLeDiff, Nat.reduceLT, Nat.reduceMul, Nat.reduceSub, Int.reduceEq, Int.reduceLT, Int.reduceLE, Int.reduceNeg])
  all_goals (simp only [powI]; grind)
theorem s106 (n : Nat) (H : Heap) (a b : Int) : call1 T (n + 2) (.fn 106) [pt a b] H = some (.bool (!pointI a b), H) := by
  refine call_pure e106 (by rfl) ?_
  simp only [c106, heap0, go_sem, Int.reduceToNat, Nat.reduceAdd, Nat.reduceBEq, Nat.reduceLeDiff, Nat.reduceLT, Nat.reduceMul, Nat.reduceSub, Int.reduceEq, Int.reduceLT, Int.reduceLE, Int.reduceNeg, s107]
theorem s110 (n : Nat) (H : Heap) (a : Int) : call1 T (n + 2) (.fn 110) [.int .i64 a] H = some (.bool (!powI a), H) := by
  refine call_pure e110 (by rfl) ?_
  simp only [c110, heap0, go_sem, Int.reduceToNat, Nat.reduceAdd, Nat.reduceBEq, Nat.reduceLeDiff, Nat.reduceLT, Nat.reduceMul, Nat.reduceSub, Int.reduceEq, Int.reduceLT, Int.reduceLE, Int.reduceNeg, s111]
theorem s129 (n : Nat) (H : Heap) (a b : Int) : call1 T (n + 1) (.fn 129) [pt a b] H = some (.bool (pointI a b), H) := by
  refine call_pure e129 (by rfl) ?_
  simp only [c129, heap0, go_sem, Int.reduceToNat, Nat.reduceAdd, Nat.reduceBEq, Nat.reduceLeDiff, Nat.reduceLT, Nat.reduceMul, Nat.reduceSub, Int.reduceEq, Int.reduceLT, Int.reduceLE, Int.reduceNeg]
  repeat' (with_reducible refine fork_split (fun _ => ?_) (fun _ => ?_) <;> simp only [*, go_sem, Int.reduceToNat, Nat.reduceAdd, Nat.reduceBEq, Nat.reduceLeDiff, Nat.reduceLT, Nat.reduceMul, Nat.reduceSub, Int.reduceEq, Int.reduceLT, Int.reduceLE, Int.reduceNeg])
  all_goals (simp only [pointI]; grind)
def rightI (t m : Int) : Bool := decide (1000 ≤ t) && decide (t ≤ 100000) && decide (1 ≤ m) && decide (m ≤ 68719476736)
theorem s128 (n : Nat) (H : Heap) (t m : Int) : call1 T (n + 1) (.fn 128) [.int .i64 t, .int .i64 m] H = some (.bool (rightI t m), H) := by
  refine call_pure e128 (by rfl) ?_
  simp only [c128, heap0, go_sem, Int.reduceToNat, Nat.reduceAdd, Nat.reduceBEq, Nat.reduceLeDiff, Nat.reduceLT, Nat.reduceMul, Nat.reduceSub, Int.reduceEq, Int.reduceLT, Int.reduceLE, Int.reduceNeg]
  repeat' (with_reducible refine fork_split (fun _ => ?_) (fun _ => ?_) <;> simp only [*, go_sem, Int.reduceToNat, Nat.reduceAdd, Nat.reduceBEq, Nat.reduceLeDiff, Nat.reduceLT, Nat.reduceMul, Nat.reduceSub, Int.reduceEq, Int.reduceLT, Int.reduceLE, Int.reduceNeg])
  all_goals (simp only [rightI]; grind)
def scOk (p f : Int) : Bool := powI p && decide (0 ≤ f) && decide (f ≤ 1000)
def scV (p f : Int) : Int := if scOk p f = true then w64 ((w64 (p * f)).tdiv 1000) else 0
def fewI (N : List (Int × Int)) (P : List Int) (W : List Wl) : Bool := decide (N.length ≤ 40) && decide (P.length ≤ 40) && decide (W.length ≤ 40)
theorem s86 (n : Nat) (H : Heap) (N P W f1 f2 f3 ex no th) : call1 T (n + 1) (.fn 86) [st N P W f1 f2 f3 ex no th] H = some (.bool (fewI N P W), H) := by
  refine call_pure e86 (by rfl) ?_
  simp only [c86, heap0, go_sem, Int.reduceToNat, Nat.reduceAdd, Nat.reduceBEq, Nat.reduceLeDiff, Nat.reduceLT, Nat.reduceMul, Nat.reduceSub, Int.reduceEq, Int.reduceLT, Int.reduceLE, Int.reduceNeg, wlsS_len, intsS_len, ptsS_len']
  repeat' (with_reducible refine fork_split (fun _ => ?_) (fun _ => ?_) <;> simp only [*, go_sem, Int.reduceToNat, Nat.reduceAdd, Nat.reduceBEq, Nat.reduceLeDiff, Nat.reduceLT, Nat.reduceMul, Nat.reduceSub, Int.reduceEq, Int.reduceLT, Int.reduceLE, Int.reduceNeg])
  all_goals (simp only [fewI]; refine congrArg some (congrArg SV.bool ?_); rw [Bool.eq_iff_iff]; grind)
def sqI (a b c d : Int) : Int := w64 (w64 (w64 (a - c) * w64 (a - c)) + w64 (w64 (b - d) * w64 (b - d)))
def mI (a b c d : Int) : Int := max (sqI a b c d) 100
def startI (ex a b p c d : Int) : Int := let p1 := w64 ((w64 (p * 100)).tdiv (mI a b c d)); if ex = 4 then w64 ((w64 (p1 * 100)).tdiv (mI a b c d)) else p1
@[go_sem] theorem wlsS_get (W : List Wl) (i : Nat) : (wlsS W)[i]? = (W[i]?).map wlC := by simp [wlsS]
@[go_sem] theorem intsS_get (W : List Int) (i : Nat) : (intsS W)[i]? = (W[i]?).map (fun p => [.int .i64 p]) := by simp [intsS]
@[go_sem] theorem ptsS_get (W : List (Int × Int)) (i : Nat) : (ptsS W)[i]? = (W[i]?).map (fun p => [.int .i64 p.1, .int .i64 p.2]) := by simp [ptsS]
theorem w64_succ {i n : Nat} (h : i < n) (hn : n ≤ maxLen) : w64 ((i : Int) + 1) = ((i + 1 : Nat) : Int) := by
  simp only [maxLen] at hn
  rw [w64_id (by omega) (by omega)]; omega
def stepI (a b c d p : Int) (w : Wl) : Int := if crossI a b c d w.a w.b w.c w.d = true then scV p w.f else p
theorem onSome_of {A R : Type} {v : Option A} {f : A → Option R} {t : Tok f} {r : Option R} (o : A) (h : v = some o) (k : f o = r) : onSome v f t = r := by rw [h]; exact k
def atI (W : List Wl) (ex a b p c d : Int) : Int := W.foldl (stepI a b c d) (startI ex a b p c d)
def badW (w : Wl) : Bool := !pointI w.a w.b || !pointI w.c w.d || decide (w.f < 0) || decide (1000 < w.f)
theorem s113 (n : Nat) (X0 : SBlk) (w : Wl) : call1 T (n + 3) (.fn 113) [.agg (wlC w), .ptr 1 0 0 0] ⟨[X0, .box [.fn 106 []]], [], 0⟩ = some (.bool (badW w), ⟨[X0, .box [.fn 106 []]], [], 0⟩) := by
  refine call_in e113 (by rfl) ?_
  simp only [c113, go_sem, Int.reduceToNat, Nat.reduceAdd, Nat.reduceBEq, Nat.reduceLeDiff, Nat.reduceLT, Nat.reduceMul, Nat.reduceSub, Int.reduceEq, Int.reduceLT, Int.reduceLE, Int.reduceNeg, s106]
  repeat' (with_reducible refine fork_split (fun _ => ?_) (fun _ => ?_) <;> simp only [*, go_sem, Int.reduceToNat, Nat.reduceAdd, Nat.reduceBEq, Nat.reduceLeDiff, Nat.reduceLT, Nat.reduceMul, Nat.reduceSub, Int.reduceEq, Int.reduceLT, Int.reduceLE, Int.reduceNeg, s106])
  all_goals (simp only [badW]; grind)
theorem s67c (n id : Nat) (X0 X1 : SBlk) (L : List (List SV)) (fl : Bool) (p : List SV → Bool) (hr : ∀ r ∈ L, r.length = 5) (hm : L.length ≤ maxLen)
    (hc : ∀ r ∈ L, call1 T n (.fn id) [.agg r, .ptr 1 0 0 0] ⟨[X0, X1], [], 0⟩ = some (.bool (p r), ⟨[X0, X1], [], 0⟩)) :
    call1 T (n + 1) (.fn 157) [.lst 5 L fl, .fn id [.ptr 1 0 0 0]] ⟨[X0, X1], [], 0⟩ = some (.int .i64 (idx1 p L), ⟨[X0, X1], [], 0⟩) := by
  refine call_in e157 (by rfl) ?_
  simp only [c157, go_sem, Int.reduceToNat, Nat.reduceAdd, Nat.reduceBEq, Nat.reduceLeDiff, Nat.reduceLT, Nat.reduceMul, Nat.reduceSub, Int.reduceEq, Int.reduceLT, Int.reduceLE, Int.reduceNeg]
  refine loop_rule (fun i => ([(0, .lst 5 L fl), (1, .fn id [.ptr 1 0 0 0]), (7, .int .i64 L.length), (8, .int .i64 i)], ⟨[X0, X1], [], 0⟩)) (fun i => ∀ (j : Nat) r, j < i → L[j]? = some r → p r = false) L.length ?_ (fun j r h => by omega) ?_
  · simp only [go_sem, Int.reduceToNat, Nat.reduceAdd, Nat.reduceBEq, Nat.reduceLeDiff, Nat.reduceLT, Nat.reduceMul, Nat.reduceSub, Int.reduceEq, Int.reduceLT, Int.reduceLE, Int.reduceNeg]
    rfl
  · intro i hi hP
    rcases Nat.lt_or_ge i L.length with hlt | hge
    · obtain ⟨r, hr'⟩ : ∃ r, L[i]? = some r := ⟨L[i], List.getElem?_eq_getElem hlt⟩
      have hmem := List.mem_of_getElem? hr'
      have h1 := hr _ hmem
      have ht : List.take 5 r = r := List.take_of_length_le (by omega)
      have hw := w64_succ hlt hm
      cases hp : p r with
      | true =>
        have hx := idx1_at hr' hp hP
        simp only [go_sem, Int.reduceToNat, Nat.reduceAdd, Nat.reduceBEq, Nat.reduceLeDiff, Nat.reduceLT, Nat.reduceMul, Nat.reduceSub, Int.reduceEq, Int.reduceLT, Int.reduceLE, Int.reduceNeg, hlt, hr', hc r hmem, hw, h1, ht, hp, hx]
      | false =>
        simp only [go_sem, Int.reduceToNat, Nat.reduceAdd, Nat.reduceBEq, Nat.reduceLeDiff, Nat.reduceLT, Nat.reduceMul, Nat.reduceSub, Int.reduceEq, Int.reduceLT, Int.reduceLE, Int.reduceNeg, hlt, hr', hc r hmem, hw, h1, ht, hp]
        refine ⟨trivial, rfl, fun j r' hj hr2 => ?_⟩
        rcases Nat.lt_or_ge j i with hlt2 | hge2
        · exact hP j r' hlt2 hr2
        · have : j = i := by omega
          subst this
          rw [hr'] at hr2
          cases hr2
          exact hp
    · have hlt : ¬ i < L.length := by omega
      have hx : idx1 p L = -1 := idx1_none (fun j a hj => hP j a (by have := (List.getElem?_eq_some_iff.1 hj).1; omega) hj)
      simp only [go_sem, Int.reduceToNat, Nat.reduceAdd, Nat.reduceBEq, Nat.reduceLeDiff, Nat.reduceLT, Nat.reduceMul, Nat.reduceSub, Int.reduceEq, Int.reduceLT, Int.reduceLE, Int.reduceNeg, hlt, hx]
theorem s50c (n id : Nat) (X0 X1 : SBlk) (L : List (List SV)) (fl : Bool) (p : List SV → Bool) (hr : ∀ r ∈ L, r.length = 5) (hm : L.length ≤ maxLen)
    (hc : ∀ r ∈ L, call1 T n (.fn id) [.agg r, .ptr 1 0 0 0] ⟨[X0, X1], [], 0⟩ = some (.bool (p r), ⟨[X0, X1], [], 0⟩)) :
    call1 T (n + 2) (.fn 112) [.lst 5 L fl, .fn id [.ptr 1 0 0 0]] ⟨[X0, X1], [], 0⟩ = some (.bool (L.any p), ⟨[X0, X1], [], 0⟩) := by
  refine call_in e112 (by rfl) ?_
  simp only [c112, go_sem, Int.reduceToNat, Nat.reduceAdd, Nat.reduceBEq, Nat.reduceLeDiff, Nat.reduceLT, Nat.reduceMul, Nat.reduceSub, Int.reduceEq, Int.reduceLT, Int.reduceLE, Int.reduceNeg, s67c n id X0 X1 L fl p hr hm hc, idx1_any]
def ofW (r : List SV) : Wl := match r with | [.int _ a, .int _ b, .int _ c, .int _ d, .int _ f] => ⟨a, b, c, d, f⟩ | _ => ⟨0, 0, 0, 0, 0⟩
theorem any_map' {A B : Type} (f : A → B) (p : B → Bool) (q : A → Bool) (h : ∀ a, p (f a) = q a) (l : List A) : (l.map f).any p = l.any q := by
  induction l with
  | nil => rfl
  | cons a l ih => simp only [List.map_cons, List.any_cons, h, ih]
def pt1 (r : List SV) : Bool := match r with | [.int _ a, .int _ b] => !pointI a b | _ => false
def pw1 (r : List SV) : Bool := match r with | [.int _ a] => !powI a | _ => false
def okB (n p w : Nat) (A B C : Bool) (ex no th : Int) : Bool := decide (2 ≤ n) && decide (n ≤ 32) && !A && decide (p = n) && !B && decide (w ≤ 32) && !C && (decide (ex = 2) || decide (ex = 4)) && rightI th no
def okI (N : List (Int × Int)) (P : List Int) (W : List Wl) (ex no th : Int) : Bool := okB N.length P.length W.length (N.any (fun p => !pointI p.1 p.2)) (P.any (fun p => !powI p)) (W.any badW) ex no th
def chkI (N : List (Int × Int)) (P : List Int) (W : List Wl) (ex no th : Int) : Int := bif okI N P W ex no th then 0 else 1
theorem s61 (n : Nat) (H : Heap) (N P W f1 f2 f3 ex no th) (hN : N.length ≤ maxLen) (hP : P.length ≤ maxLen) (hW : W.length ≤ maxLen) : call1 T (n + 6) (.fn 61) [st N P W f1 f2 f3 ex no th] H = some (.int .i64 (chkI N P W ex no th), H) := by
  refine call_pure e61 (by rfl) ?_
  have h38 := fun H => s108 (n + 3) (id := 106) H (ptsS N) f1 pt1 ptsS_len (by simpa [ptsS] using hN) (fun r hr H => by
    simp only [ptsS, List.mem_map] at hr; obtain ⟨p, _, rfl⟩ := hr; exact s106 (n + 1) H p.1 p.2)
  have h48 := fun H => s109 (n + 3) (id := 110) H (intsS P) f2 pw1 (fun r hr => by simp only [intsS, List.mem_map] at hr; obtain ⟨p, _, rfl⟩ := hr; exact ⟨_, rfl⟩) (by simpa [intsS] using hP) (fun r hr H => by
    simp only [intsS, List.mem_map] at hr; obtain ⟨p, _, rfl⟩ := hr; exact s110 (n + 1) H p)
  have h50 := fun X0 => s50c (n + 3) (id := 113) X0 (.box [.fn 106 []]) (wlsS W) f3 (fun r => badW (ofW r)) (fun r hr => by simp only [wlsS, List.mem_map] at hr; obtain ⟨p, _, rfl⟩ := hr; rfl) (by simpa [wlsS] using hW) (fun r hr => by
    simp only [wlsS, List.mem_map] at hr; obtain ⟨w, _, rfl⟩ := hr; exact s113 n X0 w)
  have a38 : (ptsS N).any pt1 = N.any (fun p => !pointI p.1 p.2) := any_map' _ _ _ (fun _ => rfl) N
  have a48 : (intsS P).any pw1 = P.any (fun p => !powI p) := any_map' _ _ _ (fun _ => rfl) P
  have a50 : (wlsS W).any (fun r => badW (ofW r)) = W.any badW := any_map' _ _ _ (fun _ => rfl) W
  rw [a38] at h38
  rw [a48] at h48
  simp only [a50] at h50
  simp only [c61, heap0, go_sem, Int.reduceToNat, Nat.reduceAdd, Nat.reduceBEq, Nat.reduceLeDiff, Nat.reduceLT, Nat.reduceMul, Nat.reduceSub, Int.reduceEq, Int.reduceLT, Int.reduceLE, Int.reduceNeg, h38]
  repeat' (with_reducible refine fork_split (fun _ => ?_) (fun _ => ?_) <;> simp only [*, go_sem, Int.reduceToNat, Nat.reduceAdd, Nat.reduceBEq, Nat.reduceLeDiff, Nat.reduceLT, Nat.reduceMul, Nat.reduceSub, Int.reduceEq, Int.reduceLT, Int.reduceLE, Int.reduceNeg, h38, h48, h50])
  all_goals
    clear h38 h48 h50 a38 a48 a50
    refine congrArg some (congrArg (SV.int .i64) ?_)
    simp only [chkI, okI]
    generalize (N.any fun p => !pointI p.fst p.snd) = A at *
    generalize (P.any fun p => !powI p) = B at *
    generalize W.any badW = C at *
    generalize N.length = ln at *
    generalize P.length = lp at *
    generalize W.length = lw at *
    generalize hq : okB ln lp lw A B C ex no th = q
    simp only [okB, rightI] at hq
    cases q <;> simp only [cond_true, cond_false] <;> grind
theorem any_at {A : Type} {q : A → Bool} {l : List A} {i : Nat} {a : A} (h : l[i]? = some a) (hp : q a = true) : l.any q = true := List.any_eq_true.2 ⟨a, List.mem_of_getElem? h, hp⟩
theorem any_no {A : Type} {q : A → Bool} {l : List A} (h : ∀ (i : Nat) a, l[i]? = some a → q a = false) : l.any q = false := by
  rw [List.any_eq_false]
  intro a ha
  obtain ⟨i, hi⟩ := List.mem_iff_getElem?.1 ha
  rw [h i a hi]; simp
theorem get_some {A : Type} {l : List A} {i : Nat} (h : i < l.length) : ∃ a, l[i]? = some a := ⟨l[i], List.getElem?_eq_getElem h⟩
theorem chk_no {N : List (Int × Int)} {P : List Int} {W : List Wl} {ex no th : Int} (h : okI N P W ex no th = false) : chkI N P W ex no th = 1 := by simp only [chkI, h, cond_false]
theorem chk_yes {N : List (Int × Int)} {P : List Int} {W : List Wl} {ex no th : Int} (h : okI N P W ex no th = true) : chkI N P W ex no th = 0 := by simp only [chkI, h, cond_true]
theorem ok_badN {N : List (Int × Int)} {P : List Int} {W : List Wl} {ex no th : Int} {i : Nat} {p : Int × Int} (h : N[i]? = some p) (hp : pointI p.1 p.2 = false) : okI N P W ex no th = false := by
  have : (N.any fun p => !pointI p.1 p.2) = true := any_at h (by simp [hp])
  simp only [okI, this, okB, Bool.not_true, Bool.and_false, Bool.false_and]
theorem ok_badP {N : List (Int × Int)} {P : List Int} {W : List Wl} {ex no th : Int} {i : Nat} {p : Int} (h : P[i]? = some p) (hp : powI p = false) : okI N P W ex no th = false := by
  have : (P.any fun p => !powI p) = true := any_at h (by simp [hp])
  simp only [okI, this, okB, Bool.not_true, Bool.and_false, Bool.false_and]
theorem ok_badW {N : List (Int × Int)} {P : List Int} {W : List Wl} {ex no th : Int} {i : Nat} {p : Wl} (h : W[i]? = some p) (hp : badW p = true) : okI N P W ex no th = false := by
  have : W.any badW = true := any_at h hp
  simp only [okI, this, okB, Bool.not_true, Bool.and_false, Bool.false_and]
theorem s75 (n : Nat) (H : Heap) (N P W f1 f2 f3 ex no th) (hW : W.length ≤ maxLen) (hN : N.length ≤ maxLen) : call1 T (n + 6) (.fn 75) [st N P W f1 f2 f3 ex no th] H = some (.int .i64 (chkI N P W ex no th), H) := by
  refine call_pure e75 (by rfl) ?_
  simp only [c75, heap0, go_sem, Int.reduceToNat, Nat.reduceAdd, Nat.reduceBEq, Nat.reduceLeDiff, Nat.reduceLT, Nat.reduceMul, Nat.reduceSub, Int.reduceEq, Int.reduceLT, Int.reduceLE, Int.reduceNeg, s128]
  repeat' (with_reducible refine fork_split (fun _ => ?_) (fun _ => ?_) <;> simp only [*, go_sem, Int.reduceToNat, Nat.reduceAdd, Nat.reduceBEq, Nat.reduceLeDiff, Nat.reduceLT, Nat.reduceMul, Nat.reduceSub, Int.reduceEq, Int.reduceLT, Int.reduceLE, Int.reduceNeg, s128])
  all_goals try (
    with_reducible refine congrArg some (congrArg (SV.int .i64) ?_)
    simp only [chkI, okI]
    generalize (N.any fun p => !pointI p.fst p.snd) = A at *
    generalize (P.any fun p => !powI p) = B at *
    generalize W.any badW = C at *
    generalize N.length = ln at *
    generalize P.length = lp at *
    generalize W.length = lw at *
    generalize hq : okB ln lp lw A B C ex no th = q
    simp only [okB, rightI] at *
    cases q <;> simp only [cond_true, cond_false] <;> grind)
  all_goals
    refine loop_rule (fun i => ([(1, .ptr 0 0 0 0), (3, .int .i64 N.length), (4, .int .i64 i)], ⟨[.box [.lst 2 (ptsS N) f1, .lst 1 (intsS P) f2, .lst 5 (wlsS W) f3, .int .i64 ex, .int .i64 no, .int .i64 th]], [], 0⟩))
      (fun i => ∀ (j : Nat), j < i → (∀ p, N[j]? = some p → pointI p.1 p.2 = true) ∧ (∀ p, P[j]? = some p → powI p = true)) N.length ?_ (fun j h => by omega) ?_
    · simp only [go_sem, Int.reduceToNat, Nat.reduceAdd, Nat.reduceBEq, Nat.reduceLeDiff, Nat.reduceLT, Nat.reduceMul, Nat.reduceSub, Int.reduceEq, Int.reduceLT, Int.reduceLE, Int.reduceNeg]
      rfl
    · intro i hi hI
      have hlen : P.length = N.length := by simp_all; omega
      rcases Nat.lt_or_ge i N.length with hlt | hge
      · obtain ⟨p, hp⟩ := get_some hlt
        obtain ⟨q, hq⟩ := get_some (l := P) (i := i) (by omega)
        have hlt2 : i < P.length := by omega
        have hs := w64_succ hlt hN
        cases h1 : pointI p.1 p.2 with
        | false => simp only [go_sem, Int.reduceToNat, Nat.reduceAdd, Nat.reduceBEq, Nat.reduceLeDiff, Nat.reduceLT, Nat.reduceMul, Nat.reduceSub, Int.reduceEq, Int.reduceLT, Int.reduceLE, Int.reduceNeg, hlt, hp, s129, h1, chk_no (ok_badN hp h1)]
        | true =>
          cases h2 : powI q with
          | false => simp only [go_sem, Int.reduceToNat, Nat.reduceAdd, Nat.reduceBEq, Nat.reduceLeDiff, Nat.reduceLT, Nat.reduceMul, Nat.reduceSub, Int.reduceEq, Int.reduceLT, Int.reduceLE, Int.reduceNeg, hlt, hlt2, hp, hq, s129, s130, h1, h2, chk_no (ok_badP hq h2)]
          | true =>
            simp only [go_sem, Int.reduceToNat, Nat.reduceAdd, Nat.reduceBEq, Nat.reduceLeDiff, Nat.reduceLT, Nat.reduceMul, Nat.reduceSub, Int.reduceEq, Int.reduceLT, Int.reduceLE, Int.reduceNeg, hlt, hlt2, hp, hq, s129, s130, h1, h2, hs]
            refine ⟨trivial, rfl, fun j hj => ?_⟩
            rcases Nat.lt_or_ge j i with h3 | h3
            · exact hI j h3
            · have : j = i := by omega
              subst this
              exact ⟨fun p' hp' => by rw [hp] at hp'; cases hp'; exact h1, fun p' hp' => by rw [hq] at hp'; cases hp'; exact h2⟩
      · have hlt : ¬ i < N.length := by omega
        simp only [go_sem, Int.reduceToNat, Nat.reduceAdd, Nat.reduceBEq, Nat.reduceLeDiff, Nat.reduceLT, Nat.reduceMul, Nat.reduceSub, Int.reduceEq, Int.reduceLT, Int.reduceLE, Int.reduceNeg, hlt]
        refine loop_rule (fun i => ([(1, .ptr 0 0 0 0), (5, .int .i64 i)], ⟨[.box [.lst 2 (ptsS N) f1, .lst 1 (intsS P) f2, .lst 5 (wlsS W) f3, .int .i64 ex, .int .i64 no, .int .i64 th]], [], 0⟩))
          (fun i => ∀ (j : Nat), j < i → (∀ p, W[j]? = some p → badW p = false)) W.length ?_ (fun j h => by omega) ?_
        · simp only [go_sem, Int.reduceToNat, Nat.reduceAdd, Nat.reduceBEq, Nat.reduceLeDiff, Nat.reduceLT, Nat.reduceMul, Nat.reduceSub, Int.reduceEq, Int.reduceLT, Int.reduceLE, Int.reduceNeg]
          rfl
        · intro k hk hK
          rcases Nat.lt_or_ge k W.length with hlt3 | hge3
          · obtain ⟨w, hw⟩ := get_some hlt3
            have hs := w64_succ hlt3 hW
            cases h1 : badW w with
            | true =>
              have hb := h1
              simp only [badW] at hb
              have hch := chk_no (N := N) (P := P) (ex := ex) (no := no) (th := th) (ok_badW hw h1)
              simp only [go_sem, Int.reduceToNat, Nat.reduceAdd, Nat.reduceBEq, Nat.reduceLeDiff, Nat.reduceLT, Nat.reduceMul, Nat.reduceSub, Int.reduceEq, Int.reduceLT, Int.reduceLE, Int.reduceNeg, hlt3, hw, s129, hch]
              repeat' (with_reducible refine post_fork (fun _ => ?_) (fun _ => ?_) <;> simp only [*, go_sem, Int.reduceToNat, Nat.reduceAdd, Nat.reduceBEq, Nat.reduceLeDiff, Nat.reduceLT, Nat.reduceMul, Nat.reduceSub, Int.reduceEq, Int.reduceLT, Int.reduceLE, Int.reduceNeg, s129])
              all_goals (exfalso; simp_all)
            | false =>
              have hb := h1
              simp only [badW, Bool.or_eq_false_iff] at hb
              obtain ⟨⟨⟨b1, b2⟩, b3⟩, b4⟩ := hb
              simp only [go_sem, Int.reduceToNat, Nat.reduceAdd, Nat.reduceBEq, Nat.reduceLeDiff, Nat.reduceLT, Nat.reduceMul, Nat.reduceSub, Int.reduceEq, Int.reduceLT, Int.reduceLE, Int.reduceNeg, hlt3, hw, s129, b1, b2, b3, b4, hs]
              refine ⟨trivial, rfl, fun j hj => ?_⟩
              rcases Nat.lt_or_ge j k with h3 | h3
              · exact hK j h3
              · have : j = k := by omega
                subst this
                exact fun p' hp' => by rw [hw] at hp'; cases hp'; exact h1
          · have hlt3 : ¬ k < W.length := by omega
            have hA : (N.any fun p => !pointI p.1 p.2) = false := any_no (fun j p hj => by
              have := (hI j (by have := (List.getElem?_eq_some_iff.1 hj).1; omega)).1 p hj
              simp [this])
            have hB : (P.any fun p => !powI p) = false := any_no (fun j p hj => by
              have := (hI j (by have := (List.getElem?_eq_some_iff.1 hj).1; omega)).2 p hj
              simp [this])
            have hC : W.any badW = false := any_no (fun j p hj => hK j (by have := (List.getElem?_eq_some_iff.1 hj).1; omega) p hj)
            have hok : okI N P W ex no th = true := by
              simp only [okI, hA, hB, hC, okB, rightI] at *
              simp_all
              omega
            simp only [go_sem, Int.reduceToNat, Nat.reduceAdd, Nat.reduceBEq, Nat.reduceLeDiff, Nat.reduceLT, Nat.reduceMul, Nat.reduceSub, Int.reduceEq, Int.reduceLT, Int.reduceLE, Int.reduceNeg, hlt3, chk_yes hok]
def argI (a b p c d : Int) : Bool := pointI a b && pointI c d && powI p
def AtV (v : Int) (ok arg : Bool) : Int := bif ok && arg then v else 0
def nd (N : List (Int × Int)) (i : Nat) : Int × Int := N.getD i (0, 0)
end G
end Go.Sh
namespace Go.Sh
set_option linter.unusedSectionVars false
set_option linter.unnecessarySimpa false
set_option linter.unusedVariables false
set_option linter.unusedSimpArgs false
set_option maxRecDepth 100000
set_option maxHeartbeats 4000000
namespace U
theorem x63 : T 158 = some (stdIdxF true 7) := e158
theorem x64 : T 160 = some (stdIdxF true 6) := e160
theorem x33 : T 114 = some (stdCF 158) := e114
theorem x36 : T 117 = some (stdCF 160) := e117
def chanB (c : Int) : Bool := decide (0 ≤ c) && decide (c < 16)
theorem s159 (n : Nat) (H : Heap) (c : Int) : call1 T (n + 1) (.fn 159) [.int .i64 c] H = some (.bool (chanB c), H) := by
  refine call_pure e159 (by rfl) ?_
  simp only [c159, heap0, go_sem, Int.reduceToNat, Nat.reduceAdd, Nat.reduceBEq, Nat.reduceLeDiff, Nat.reduceLT, Nat.reduceMul, Nat.reduceSub, Int.reduceEq, Int.reduceLT, Int.reduceLE, Int.reduceNeg]
  repeat' (with_reducible refine fork_split (fun _ => ?_) (fun _ => ?_) <;> simp only [*, go_sem, Int.reduceToNat, Nat.reduceAdd, Nat.reduceBEq, Nat.reduceLeDiff, Nat.reduceLT, Nat.reduceMul, Nat.reduceSub, Int.reduceEq, Int.reduceLT, Int.reduceLE, Int.reduceNeg])
  all_goals (simp only [chanB]; refine congrArg some (congrArg SV.bool ?_); rw [Bool.eq_iff_iff]; grind)
theorem s98 (n : Nat) (H : Heap) (c : Int) : call1 T (n + 1) (.fn 98) [.int .i64 c] H = some (.bool (chanB c), H) := by
  refine call_pure e98 (by rfl) ?_
  simp only [c98, heap0, go_sem, Int.reduceToNat, Nat.reduceAdd, Nat.reduceBEq, Nat.reduceLeDiff, Nat.reduceLT, Nat.reduceMul, Nat.reduceSub, Int.reduceEq, Int.reduceLT, Int.reduceLE, Int.reduceNeg]
  repeat' (with_reducible refine fork_split (fun _ => ?_) (fun _ => ?_) <;> simp only [*, go_sem, Int.reduceToNat, Nat.reduceAdd, Nat.reduceBEq, Nat.reduceLeDiff, Nat.reduceLT, Nat.reduceMul, Nat.reduceSub, Int.reduceEq, Int.reduceLT, Int.reduceLE, Int.reduceNeg])
  all_goals (simp only [chanB]; refine congrArg some (congrArg SV.bool ?_); rw [Bool.eq_iff_iff]; grind)
def nodB (c : Int) : Bool := decide (0 ≤ c) && decide (c < 32)
theorem s162 (n : Nat) (H : Heap) (c : Int) : call1 T (n + 1) (.fn 162) [.int .i64 c] H = some (.bool (nodB c), H) := by
  refine call_pure e162 (by rfl) ?_
  simp only [c162, heap0, go_sem, Int.reduceToNat, Nat.reduceAdd, Nat.reduceBEq, Nat.reduceLeDiff, Nat.reduceLT, Nat.reduceMul, Nat.reduceSub, Int.reduceEq, Int.reduceLT, Int.reduceLE, Int.reduceNeg]
  repeat' (with_reducible refine fork_split (fun _ => ?_) (fun _ => ?_) <;> simp only [*, go_sem, Int.reduceToNat, Nat.reduceAdd, Nat.reduceBEq, Nat.reduceLeDiff, Nat.reduceLT, Nat.reduceMul, Nat.reduceSub, Int.reduceEq, Int.reduceLT, Int.reduceLE, Int.reduceNeg])
  all_goals (simp only [nodB]; refine congrArg some (congrArg SV.bool ?_); rw [Bool.eq_iff_iff]; grind)
def nodB' (c : Int) : Bool := decide (-1 ≤ c) && decide (c < 32)
theorem s161 (n : Nat) (H : Heap) (c : Int) : call1 T (n + 2) (.fn 161) [.int .i64 c] H = some (.bool (nodB' c), H) := by
  refine call_pure e161 (by rfl) ?_
  simp only [c161, heap0, go_sem, Int.reduceToNat, Nat.reduceAdd, Nat.reduceBEq, Nat.reduceLeDiff, Nat.reduceLT, Nat.reduceMul, Nat.reduceSub, Int.reduceEq, Int.reduceLT, Int.reduceLE, Int.reduceNeg, s162]
  repeat' (with_reducible refine fork_split (fun _ => ?_) (fun _ => ?_) <;> simp only [*, go_sem, Int.reduceToNat, Nat.reduceAdd, Nat.reduceBEq, Nat.reduceLeDiff, Nat.reduceLT, Nat.reduceMul, Nat.reduceSub, Int.reduceEq, Int.reduceLT, Int.reduceLE, Int.reduceNeg, s162])
  all_goals (simp only [nodB', nodB]; refine congrArg some (congrArg SV.bool ?_); rw [Bool.eq_iff_iff]; grind)
def ivB (a b : Int) : Bool := decide (0 ≤ a) && decide (a ≤ b) && decide (b ≤ 1099511627776)
theorem s163 (n : Nat) (H : Heap) (a b : Int) : call1 T (n + 1) (.fn 163) [.int .i64 a, .int .i64 b] H = some (.bool (ivB a b), H) := by
  refine call_pure e163 (by rfl) ?_
  simp only [c163, heap0, go_sem, Int.reduceToNat, Nat.reduceAdd, Nat.reduceBEq, Nat.reduceLeDiff, Nat.reduceLT, Nat.reduceMul, Nat.reduceSub, Int.reduceEq, Int.reduceLT, Int.reduceLE, Int.reduceNeg]
  repeat' (with_reducible refine fork_split (fun _ => ?_) (fun _ => ?_) <;> simp only [*, go_sem, Int.reduceToNat, Nat.reduceAdd, Nat.reduceBEq, Nat.reduceLeDiff, Nat.reduceLT, Nat.reduceMul, Nat.reduceSub, Int.reduceEq, Int.reduceLT, Int.reduceLE, Int.reduceNeg])
  all_goals (simp only [ivB]; grind)
theorem s99 (n : Nat) (H : Heap) (a b : Int) : call1 T (n + 1) (.fn 99) [.int .i64 a, .int .i64 b] H = some (.bool (ivB a b), H) := by
  refine call_pure e99 (by rfl) ?_
  simp only [c99, heap0, go_sem, Int.reduceToNat, Nat.reduceAdd, Nat.reduceBEq, Nat.reduceLeDiff, Nat.reduceLT, Nat.reduceMul, Nat.reduceSub, Int.reduceEq, Int.reduceLT, Int.reduceLE, Int.reduceNeg]
  repeat' (with_reducible refine fork_split (fun _ => ?_) (fun _ => ?_) <;> simp only [*, go_sem, Int.reduceToNat, Nat.reduceAdd, Nat.reduceBEq, Nat.reduceLeDiff, Nat.reduceLT, Nat.reduceMul, Nat.reduceSub, Int.reduceEq, Int.reduceLT, Int.reduceLE, Int.reduceNeg])
  all_goals (simp only [ivB]; grind)
abbrev pt (a b : Int) : SV := .agg [.int .i64 a, .int .i64 b]
def pointI (a b : Int) : Bool := decide (0 ≤ a) && decide (a ≤ 10000) && decide (0 ≤ b) && decide (b ≤ 10000)
theorem s129 (n : Nat) (H : Heap) (a b : Int) : call1 T (n + 1) (.fn 129) [pt a b] H = some (.bool (pointI a b), H) := by
  refine call_pure e129 (by rfl) ?_
  simp only [c129, heap0, go_sem, Int.reduceToNat, Nat.reduceAdd, Nat.reduceBEq, Nat.reduceLeDiff, Nat.reduceLT, Nat.reduceMul, Nat.reduceSub, Int.reduceEq, Int.reduceLT, Int.reduceLE, Int.reduceNeg]
  repeat' (with_reducible refine fork_split (fun _ => ?_) (fun _ => ?_) <;> simp only [*, go_sem, Int.reduceToNat, Nat.reduceAdd, Nat.reduceBEq, Nat.reduceLeDiff, Nat.reduceLT, Nat.reduceMul, Nat.reduceSub, Int.reduceEq, Int.reduceLT, Int.reduceLE, Int.reduceNeg])
  all_goals (simp only [pointI]; grind)
def powI (n : Int) : Bool := decide (0 ≤ n) && decide (n ≤ 68719476736)
theorem s130 (n : Nat) (H : Heap) (a : Int) : call1 T (n + 1) (.fn 130) [.int .i64 a] H = some (.bool (powI a), H) := by
  refine call_pure e130 (by rfl) ?_
  simp only [c130, heap0, go_sem, Int.reduceToNat, Nat.reduceAdd, Nat.reduceBEq, Nat.reduceLeDiff, Nat.reduceLT, Nat.reduceMul, Nat.reduceSub, Int.reduceEq, Int.reduceLT, Int.reduceLE, Int.reduceNeg]
  repeat' (with_reducible refine fork_split (fun _ => ?_) (fun _ => ?_) <;> simp only [*, go_sem, Int.reduceToNat, Nat.reduceAdd, Nat.reduceBEq, Nat.reduceLeDiff, Nat.reduceLT, Nat.reduceMul, Nat.reduceSub, Int.reduceEq, Int.reduceLT, Int.reduceLE, Int.reduceNeg])
  all_goals (simp only [powI]; grind)
structure Fd where
  a : Int
  b : Int
  c : Int
  x : Int
  y : Int
  f : Int
abbrev fdC (w : Fd) : List SV := [.int .i64 w.a, .int .i64 w.b, .int .i64 w.c, .int .i64 w.x, .int .i64 w.y, .int .i64 w.f]
def fdB (w : Fd) : Bool := nodB' w.a && nodB' w.b && (decide (w.c = -1) || chanB w.c) && ivB w.x w.y && decide (0 ≤ w.f) && decide (w.f ≤ 1000)
theorem s119 (n : Nat) (H : Heap) (w : Fd) : call1 T (n + 3) (.fn 119) [.agg (fdC w)] H = some (.bool (fdB w), H) := by
  refine call_pure e119 (by rfl) ?_
  simp only [c119, heap0, go_sem, Int.reduceToNat, Nat.reduceAdd, Nat.reduceBEq, Nat.reduceLeDiff, Nat.reduceLT, Nat.reduceMul, Nat.reduceSub, Int.reduceEq, Int.reduceLT, Int.reduceLE, Int.reduceNeg, s161, s159, s163]
  repeat' (with_reducible refine fork_split (fun _ => ?_) (fun _ => ?_) <;> simp only [*, go_sem, Int.reduceToNat, Nat.reduceAdd, Nat.reduceBEq, Nat.reduceLeDiff, Nat.reduceLT, Nat.reduceMul, Nat.reduceSub, Int.reduceEq, Int.reduceLT, Int.reduceLE, Int.reduceNeg, s161, s159, s163])
  all_goals (simp only [fdB]; grind)
theorem s132 (n : Nat) (H : Heap) (w : Fd) : call1 T (n + 2) (.fn 132) [.agg (fdC w)] H = some (.bool (fdB w), H) := by
  refine call_pure e132 (by rfl) ?_
  simp only [c132, heap0, go_sem, Int.reduceToNat, Nat.reduceAdd, Nat.reduceBEq, Nat.reduceLeDiff, Nat.reduceLT, Nat.reduceMul, Nat.reduceSub, Int.reduceEq, Int.reduceLT, Int.reduceLE, Int.reduceNeg, s99]
  repeat' (with_reducible refine fork_split (fun _ => ?_) (fun _ => ?_) <;> simp only [*, go_sem, Int.reduceToNat, Nat.reduceAdd, Nat.reduceBEq, Nat.reduceLeDiff, Nat.reduceLT, Nat.reduceMul, Nat.reduceSub, Int.reduceEq, Int.reduceLT, Int.reduceLE, Int.reduceNeg, s99])
  all_goals (simp only [fdB, nodB', chanB]; refine congrArg some (congrArg SV.bool ?_); rw [Bool.eq_iff_iff]; grind)
theorem s118 (n : Nat) (H : Heap) (w : Fd) : call1 T (n + 4) (.fn 118) [.agg (fdC w)] H = some (.bool (!fdB w), H) := by
  refine call_pure e118 (by rfl) ?_
  simp only [c118, heap0, go_sem, Int.reduceToNat, Nat.reduceAdd, Nat.reduceBEq, Nat.reduceLeDiff, Nat.reduceLT, Nat.reduceMul, Nat.reduceSub, Int.reduceEq, Int.reduceLT, Int.reduceLE, Int.reduceNeg, s119]
structure Src where
  a : Int
  b : Int
  p : Int
  C : List Int
  f : Bool
  per : Int
  fr : Int
  to : Int
abbrev srC (s : Src) : List SV := [.int .i64 s.a, .int .i64 s.b, .int .i64 s.p, .lst 1 (iS s.C) s.f, .int .i64 s.per, .int .i64 s.fr, .int .i64 s.to]
def badAt (C : List Int) (i : Nat) : Bool := match C[i]? with
  | some c => !chanB c || (decide (0 < (i : Int)) && match C[i - 1]? with | some d => decide (c ≤ d) | none => false)
  | none => false
theorem badAt_zero {C : List Int} {i : Nat} {c : Int} (h : C[i]? = some c) (hz : decide (0 < (i : Int)) = false) : badAt C i = !chanB c := by simp only [badAt, h, hz, Bool.false_and, Bool.or_false]
theorem badAt_suc {C : List Int} {i k : Nat} {c d : Int} (h : C[i]? = some c) (hi : i = k + 1) (hd : C[k]? = some d) : badAt C i = (!chanB c || decide (c ≤ d)) := by
  have h1 : decide (0 < (i : Int)) = true := decide_eq_true (by omega)
  have h2 : i - 1 = k := by omega
  simp only [badAt, h, h1, h2, hd, Bool.true_and]
def ascB (C : List Int) : Bool := !((List.range C.length).any (badAt C))
theorem asc_bad {C : List Int} {i : Nat} {c : Int} (h : C[i]? = some c) (hb : badAt C i = true) : ascB C = false := by
  have : (List.range C.length).any (badAt C) = true := List.any_eq_true.2 ⟨i, List.mem_range.2 (List.getElem?_eq_some_iff.1 h).1, hb⟩
  simp [ascB, this]
theorem asc_good {C : List Int} (h : ∀ j, j < C.length → badAt C j = false) : ascB C = true := by
  have : (List.range C.length).any (badAt C) = false := by
    rw [List.any_eq_false]
    intro j hj
    rw [h j (List.mem_range.1 hj)]; simp
  simp [ascB, this]
def perB (per fr to : Int) : Bool := decide (0 ≤ fr) && decide (fr ≤ to) && decide (to ≤ per) && decide (1 ≤ per) && decide (per ≤ 1000000000)
def srB (s : Src) : Bool := pointI s.a s.b && powI s.p && ascB s.C && perB s.per s.fr s.to
theorem srB_bad {s : Src} (h : ascB s.C = false) : srB s = false := by simp [srB, h]
theorem srB_no {s : Src} (h : (pointI s.a s.b && powI s.p) = false) : srB s = false := by simp [srB, h]
theorem srB_yes {s : Src} (h : (pointI s.a s.b && powI s.p) = true) (hc : ascB s.C = true) : srB s = perB s.per s.fr s.to := by simp [srB, h, hc]
theorem s116 (n : Nat) (H : Heap) (s : Src) (hC : s.C.length ≤ maxLen) : call1 T (n + 2) (.fn 116) [.agg (srC s)] H = some (.bool (srB s), H) := by
  refine call_pure e116 (by rfl) ?_
  simp only [c116, heap0, go_sem, Int.reduceToNat, Nat.reduceAdd, Nat.reduceBEq, Nat.reduceLeDiff, Nat.reduceLT, Nat.reduceMul, Nat.reduceSub, Int.reduceEq, Int.reduceLT, Int.reduceLE, Int.reduceNeg]
  repeat' (with_reducible refine fork_split (fun _ => ?_) (fun _ => ?_) <;> simp only [*, go_sem, Int.reduceToNat, Nat.reduceAdd, Nat.reduceBEq, Nat.reduceLeDiff, Nat.reduceLT, Nat.reduceMul, Nat.reduceSub, Int.reduceEq, Int.reduceLT, Int.reduceLE, Int.reduceNeg])
  all_goals try (
    with_reducible refine congrArg some (congrArg SV.bool ?_)
    rw [srB_no (by rw [Bool.eq_false_iff]; simp only [pointI, powI, ne_eq, Bool.and_eq_true, decide_eq_true_eq]; grind)]
    done)
  have hpp : (pointI s.a s.b && powI s.p) = true := by
    simp only [pointI, powI, Bool.and_eq_true, decide_eq_true_eq]; grind
  refine loop_rule (fun i => ([(1, .ptr 0 0 0 0), (34, .lst 1 (iS s.C) s.f), (35, .int .i64 s.C.length), (36, .int .i64 i)], ⟨[.box (srC s)], [], 0⟩)) (fun i => ∀ (j : Nat), j < i → badAt s.C j = false) s.C.length ?_ (fun j h => by omega) ?_
  · simp only [go_sem, Int.reduceToNat, Nat.reduceAdd, Nat.reduceBEq, Nat.reduceLeDiff, Nat.reduceLT, Nat.reduceMul, Nat.reduceSub, Int.reduceEq, Int.reduceLT, Int.reduceLE, Int.reduceNeg] <;> rfl
  · intro i hi hP
    rcases Nat.lt_or_ge i s.C.length with hlt | hge
    · obtain ⟨c, hc⟩ := getS hlt
      have hw := w64_suc hlt hC
      have hgo : badAt s.C i = false → ∀ j, j < i + 1 → badAt s.C j = false := fun hb j hj => by
        rcases Nat.lt_or_ge j i with h3 | h3
        · exact hP j h3
        · have : j = i := by omega
          subst this
          exact hb
      cases hz : decide (0 < (i : Int)) with
      | false =>
        have hb := badAt_zero hc hz
        cases hx : chanB c with
        | false =>
          simp only [go_sem, Int.reduceToNat, Nat.reduceAdd, Nat.reduceBEq, Nat.reduceLeDiff, Nat.reduceLT, Nat.reduceMul, Nat.reduceSub, Int.reduceEq, Int.reduceLT, Int.reduceLE, Int.reduceNeg, hlt, hc, s159, hx]
          rw [srB_bad (asc_bad hc (by rw [hb, hx]; rfl))]
        | true =>
          simp only [go_sem, Int.reduceToNat, Nat.reduceAdd, Nat.reduceBEq, Nat.reduceLeDiff, Nat.reduceLT, Nat.reduceMul, Nat.reduceSub, Int.reduceEq, Int.reduceLT, Int.reduceLE, Int.reduceNeg, hlt, hc, s159, hx, hw, hz]
          refine ⟨by first | trivial | omega, by first | trivial | rfl, ?_⟩
          exact hgo (by rw [hb, hx]; rfl)
      | true =>
        obtain ⟨k, hk⟩ : ∃ k, i = k + 1 := ⟨i - 1, by have := of_decide_eq_true hz; omega⟩
        have hkl : k < s.C.length := by omega
        obtain ⟨d, hd⟩ := getS hkl
        have hb := badAt_suc hc hk hd
        have hsub : w64 ((i : Int) - 1) = (k : Int) := by
          have : ((i : Int) - 1) = ((k : Nat) : Int) := by omega
          rw [this]; exact w64_id (by omega) (by simp only [maxLen] at hC; omega)
        cases hx : chanB c with
        | false =>
          simp only [go_sem, Int.reduceToNat, Nat.reduceAdd, Nat.reduceBEq, Nat.reduceLeDiff, Nat.reduceLT, Nat.reduceMul, Nat.reduceSub, Int.reduceEq, Int.reduceLT, Int.reduceLE, Int.reduceNeg, hlt, hc, s159, hx]
          rw [srB_bad (asc_bad hc (by rw [hb, hx]; rfl))]
        | true =>
          simp only [go_sem, Int.reduceToNat, Nat.reduceAdd, Nat.reduceBEq, Nat.reduceLeDiff, Nat.reduceLT, Nat.reduceMul, Nat.reduceSub, Int.reduceEq, Int.reduceLT, Int.reduceLE, Int.reduceNeg, hlt, hc, s159, hx, hw, hsub, hz, hd, hkl]
          cases hm : decide (c ≤ d) with
          | true =>
            simp only [go_sem, Int.reduceToNat, Nat.reduceAdd, Nat.reduceBEq, Nat.reduceLeDiff, Nat.reduceLT, Nat.reduceMul, Nat.reduceSub, Int.reduceEq, Int.reduceLT, Int.reduceLE, Int.reduceNeg]
            rw [srB_bad (asc_bad hc (by rw [hb, hm]; simp))]
          | false =>
            simp only [go_sem, Int.reduceToNat, Nat.reduceAdd, Nat.reduceBEq, Nat.reduceLeDiff, Nat.reduceLT, Nat.reduceMul, Nat.reduceSub, Int.reduceEq, Int.reduceLT, Int.reduceLE, Int.reduceNeg, hw]
            refine ⟨by first | trivial | omega, by first | trivial | rfl, ?_⟩
            exact hgo (by rw [hb, hx, hm]; rfl)
    · have hlt : ¬ i < s.C.length := by omega
      have hd := asc_good (C := s.C) (fun j hj => hP j (by omega))
      rw [srB_yes hpp hd]
      simp only [go_sem, Int.reduceToNat, Nat.reduceAdd, Nat.reduceBEq, Nat.reduceLeDiff, Nat.reduceLT, Nat.reduceMul, Nat.reduceSub, Int.reduceEq, Int.reduceLT, Int.reduceLE, Int.reduceNeg, hlt]
      repeat' (with_reducible refine fork_split (fun _ => ?_) (fun _ => ?_) <;> simp only [*, go_sem, Int.reduceToNat, Nat.reduceAdd, Nat.reduceBEq, Nat.reduceLeDiff, Nat.reduceLT, Nat.reduceMul, Nat.reduceSub, Int.reduceEq, Int.reduceLT, Int.reduceLE, Int.reduceNeg])
      all_goals (simp only [perB]; refine congrArg some (congrArg SV.bool ?_); rw [Bool.eq_iff_iff]; grind)
theorem s131 (n : Nat) (H : Heap) (s : Src) (hC : s.C.length ≤ maxLen) : call1 T (n + 2) (.fn 131) [.agg (srC s)] H = some (.bool (srB s), H) := by
  refine call_pure e131 (by rfl) ?_
  simp only [c131, heap0, go_sem, Int.reduceToNat, Nat.reduceAdd, Nat.reduceBEq, Nat.reduceLeDiff, Nat.reduceLT, Nat.reduceMul, Nat.reduceSub, Int.reduceEq, Int.reduceLT, Int.reduceLE, Int.reduceNeg]
  refine loop_rule (fun i => ([(1, .ptr 0 0 0 0), (3, .int .i64 i)], ⟨[.box (srC s)], [], 0⟩)) (fun i => ∀ (j : Nat), j < i → badAt s.C j = false) s.C.length ?_ (fun j h => by omega) ?_
  · simp only [go_sem, Int.reduceToNat, Nat.reduceAdd, Nat.reduceBEq, Nat.reduceLeDiff, Nat.reduceLT, Nat.reduceMul, Nat.reduceSub, Int.reduceEq, Int.reduceLT, Int.reduceLE, Int.reduceNeg] <;> rfl
  · intro i hi hP
    rcases Nat.lt_or_ge i s.C.length with hlt | hge
    · obtain ⟨c, hc⟩ := getS hlt
      have hw := w64_suc hlt hC
      have hgo : badAt s.C i = false → ∀ j, j < i + 1 → badAt s.C j = false := fun hb j hj => by
        rcases Nat.lt_or_ge j i with h3 | h3
        · exact hP j h3
        · have : j = i := by omega
          subst this
          exact hb
      cases hz : decide (0 < (i : Int)) with
      | false =>
        have hb := badAt_zero hc hz
        cases hx : chanB c with
        | false =>
          simp only [go_sem, Int.reduceToNat, Nat.reduceAdd, Nat.reduceBEq, Nat.reduceLeDiff, Nat.reduceLT, Nat.reduceMul, Nat.reduceSub, Int.reduceEq, Int.reduceLT, Int.reduceLE, Int.reduceNeg, hlt, hc, s98, hx]
          rw [srB_bad (asc_bad hc (by rw [hb, hx]; rfl))]
        | true =>
          simp only [go_sem, Int.reduceToNat, Nat.reduceAdd, Nat.reduceBEq, Nat.reduceLeDiff, Nat.reduceLT, Nat.reduceMul, Nat.reduceSub, Int.reduceEq, Int.reduceLT, Int.reduceLE, Int.reduceNeg, hlt, hc, s98, hx, hw, hz]
          refine ⟨by first | trivial | omega, by first | trivial | rfl, ?_⟩
          exact hgo (by rw [hb, hx]; rfl)
      | true =>
        obtain ⟨k, hk⟩ : ∃ k, i = k + 1 := ⟨i - 1, by have := of_decide_eq_true hz; omega⟩
        have hkl : k < s.C.length := by omega
        obtain ⟨d, hd⟩ := getS hkl
        have hb := badAt_suc hc hk hd
        have hsub : w64 ((i : Int) - 1) = (k : Int) := by
          have : ((i : Int) - 1) = ((k : Nat) : Int) := by omega
          rw [this]; exact w64_id (by omega) (by simp only [maxLen] at hC; omega)
        cases hx : chanB c with
        | false =>
          simp only [go_sem, Int.reduceToNat, Nat.reduceAdd, Nat.reduceBEq, Nat.reduceLeDiff, Nat.reduceLT, Nat.reduceMul, Nat.reduceSub, Int.reduceEq, Int.reduceLT, Int.reduceLE, Int.reduceNeg, hlt, hc, s98, hx]
          rw [srB_bad (asc_bad hc (by rw [hb, hx]; rfl))]
        | true =>
          simp only [go_sem, Int.reduceToNat, Nat.reduceAdd, Nat.reduceBEq, Nat.reduceLeDiff, Nat.reduceLT, Nat.reduceMul, Nat.reduceSub, Int.reduceEq, Int.reduceLT, Int.reduceLE, Int.reduceNeg, hlt, hc, s98, hx, hw, hsub, hz, hd, hkl]
          cases hm : decide (c ≤ d) with
          | true =>
            simp only [go_sem, Int.reduceToNat, Nat.reduceAdd, Nat.reduceBEq, Nat.reduceLeDiff, Nat.reduceLT, Nat.reduceMul, Nat.reduceSub, Int.reduceEq, Int.reduceLT, Int.reduceLE, Int.reduceNeg]
            rw [srB_bad (asc_bad hc (by rw [hb, hm]; simp))]
          | false =>
            simp only [go_sem, Int.reduceToNat, Nat.reduceAdd, Nat.reduceBEq, Nat.reduceLeDiff, Nat.reduceLT, Nat.reduceMul, Nat.reduceSub, Int.reduceEq, Int.reduceLT, Int.reduceLE, Int.reduceNeg, hw]
            refine ⟨by first | trivial | omega, by first | trivial | rfl, ?_⟩
            exact hgo (by rw [hb, hx, hm]; rfl)
    · have hlt : ¬ i < s.C.length := by omega
      have hd := asc_good (C := s.C) (fun j hj => hP j (by omega))
      simp only [go_sem, Int.reduceToNat, Nat.reduceAdd, Nat.reduceBEq, Nat.reduceLeDiff, Nat.reduceLT, Nat.reduceMul, Nat.reduceSub, Int.reduceEq, Int.reduceLT, Int.reduceLE, Int.reduceNeg, hlt, s129, s130]
      cases hpp : (pointI s.a s.b && powI s.p) with
      | true =>
        rw [srB_yes hpp hd]
        rw [Bool.and_eq_true] at hpp
        simp only [go_sem, Int.reduceToNat, Nat.reduceAdd, Nat.reduceBEq, Nat.reduceLeDiff, Nat.reduceLT, Nat.reduceMul, Nat.reduceSub, Int.reduceEq, Int.reduceLT, Int.reduceLE, Int.reduceNeg, s129, s130, hpp.1, hpp.2]
        repeat' (with_reducible refine fork_split (fun _ => ?_) (fun _ => ?_) <;> simp only [*, go_sem, Int.reduceToNat, Nat.reduceAdd, Nat.reduceBEq, Nat.reduceLeDiff, Nat.reduceLT, Nat.reduceMul, Nat.reduceSub, Int.reduceEq, Int.reduceLT, Int.reduceLE, Int.reduceNeg, s129, s130])
        all_goals (simp only [perB]; refine congrArg some (congrArg SV.bool ?_); rw [Bool.eq_iff_iff]; grind)
      | false =>
        rw [srB_no hpp]
        repeat' (with_reducible refine fork_split (fun _ => ?_) (fun _ => ?_) <;> simp only [*, go_sem, Int.reduceToNat, Nat.reduceAdd, Nat.reduceBEq, Nat.reduceLeDiff, Nat.reduceLT, Nat.reduceMul, Nat.reduceSub, Int.reduceEq, Int.reduceLT, Int.reduceLE, Int.reduceNeg, s129, s130])
        all_goals (rw [Bool.and_eq_false_iff] at hpp; grind)
theorem s115 (n : Nat) (H : Heap) (s : Src) (hC : s.C.length ≤ maxLen) : call1 T (n + 3) (.fn 115) [.agg (srC s)] H = some (.bool (!srB s), H) := by
  have h := fun H => s116 n H s hC
  refine call_pure e115 (by rfl) ?_
  simp only [c115, heap0, go_sem, Int.reduceToNat, Nat.reduceAdd, Nat.reduceBEq, Nat.reduceLeDiff, Nat.reduceLT, Nat.reduceMul, Nat.reduceSub, Int.reduceEq, Int.reduceLT, Int.reduceLE, Int.reduceNeg, h]
def srsS (L : List Src) : List (List SV) := L.map srC
def fdsS (L : List Fd) : List (List SV) := L.map fdC
@[go_sem] theorem srsS_len {L : List Src} : (srsS L).length = L.length := by simp [srsS]
@[go_sem] theorem fdsS_len {L : List Fd} : (fdsS L).length = L.length := by simp [fdsS]
@[go_sem] theorem srsS_get {L : List Src} {i : Nat} : (srsS L)[i]? = (L[i]?).map srC := by simp [srsS]
@[go_sem] theorem fdsS_get {L : List Fd} {i : Nat} : (fdsS L)[i]? = (L[i]?).map fdC := by simp [fdsS]
theorem srs_row {L : List Src} : ∀ r ∈ srsS L, r.length = 7 := by
  intro r hr
  simp only [srsS, List.mem_map] at hr
  obtain ⟨h, _, rfl⟩ := hr
  rfl
theorem fds_row {L : List Fd} : ∀ r ∈ fdsS L, r.length = 6 := by
  intro r hr
  simp only [fdsS, List.mem_map] at hr
  obtain ⟨h, _, rfl⟩ := hr
  rfl
def toSr (r : List SV) : Src := match r with
  | [.int _ a, .int _ b, .int _ p, .lst _ L f, .int _ per, .int _ fr, .int _ to] => ⟨a, b, p, L.map (fun c => match c with | [.int _ x] => x | _ => 0), f, per, fr, to⟩
  | _ => ⟨0, 0, 0, [], true, 0, 0, 0⟩
theorem toSr_of (s : Src) : toSr (srC s) = s := by
  obtain ⟨a, b, p, C, f, per, fr, to⟩ := s
  simp [toSr, iS, Function.comp_def]
def toFd (r : List SV) : Fd := match r with
  | [.int _ a, .int _ b, .int _ c, .int _ x, .int _ y, .int _ f] => ⟨a, b, c, x, y, f⟩
  | _ => ⟨0, 0, 0, 0, 0, 0⟩
theorem toFd_of (w : Fd) : toFd (fdC w) = w := rfl
theorem any_sr (p : Src → Bool) (L : List Src) : (srsS L).any (fun r => p (toSr r)) = L.any p := by
  simp only [srsS, List.any_map]
  congr 1
  funext h
  exact congrArg p (toSr_of h)
theorem any_fd (p : Fd → Bool) (L : List Fd) : (fdsS L).any (fun r => p (toFd r)) = L.any p := by
  simp only [fdsS, List.any_map]
  rfl
abbrev sp (S : List Src) (f1 : Bool) (F : List Fd) (f2 : Bool) : SV := .agg [.lst 7 (srsS S) f1, .lst 6 (fdsS F) f2]
def okS (S : List Src) : Prop := S.length ≤ maxLen ∧ ∀ s ∈ S, s.C.length ≤ maxLen
def ckB (S : List Src) (F : List Fd) : Bool := decide (S.length ≤ 16) && decide (F.length ≤ 64) && !S.any (fun s => !srB s) && !F.any (fun w => !fdB w)
def ck (S : List Src) (F : List Fd) : Int := bif ckB S F then 0 else 1
theorem s12z (n : Nat) (H : Heap) (S F f1 f2) (z2 : Nat) (hz : z2 = 6 ∨ F = []) (hS : okS S) (hF : F.length ≤ maxLen) : call1 T (n + 7) (.fn 62) [.agg [.lst 7 (srsS S) f1, .lst z2 (fdsS F) f2]] H = some (.int .i64 (ck S F), H) := by
  refine call_pure e62 (by rfl) ?_
  have h33 := fun H => stdCF_ok (T := T) (f := 114) (n := n + 4) (H := H) (ag := true) (z := 7) (id := 115) (caps := []) (v := .lst 7 (srsS S) f1) (L := srsS S) (p := fun r => !srB (toSr r)) x33 x63 (.lst 7 f1 (.inl rfl)) srs_row (fun h => by cases h) (by simpa [srsS] using hS.1)
    (fun r hr bl ro _ => by
      simp only [srsS, List.mem_map] at hr
      obtain ⟨h, hh, rfl⟩ := hr
      simp only [toSr_of]
      exact s115 (n + 1) ⟨bl, [], ro⟩ h (hS.2 h hh)) (by simp [SV.refs.refsL])
  rw [any_sr (fun s => !srB s)] at h33
  have h36 := fun H => stdCF_ok (T := T) (f := 117) (n := n + 4) (H := H) (ag := true) (z := 6) (id := 118) (caps := []) (v := .lst z2 (fdsS F) f2) (L := fdsS F) (p := fun r => !fdB (toFd r)) x36 x64 (.lst z2 f2 (hz.imp id (by rintro rfl; rfl))) fds_row (fun h => by cases h) (by simpa [fdsS] using hF)
    (fun r hr bl ro _ => by
      simp only [fdsS, List.mem_map] at hr
      obtain ⟨h, hh, rfl⟩ := hr
      simp only [toFd_of]
      exact s118 n ⟨bl, [], ro⟩ h) (by simp [SV.refs.refsL])
  rw [any_fd (fun s => !fdB s)] at h36
  simp only [c62, heap0, go_sem, Int.reduceToNat, Nat.reduceAdd, Nat.reduceBEq, Nat.reduceLeDiff, Nat.reduceLT, Nat.reduceMul, Nat.reduceSub, Int.reduceEq, Int.reduceLT, Int.reduceLE, Int.reduceNeg]
  repeat' (with_reducible refine fork_split (fun _ => ?_) (fun _ => ?_) <;> simp only [*, go_sem, Int.reduceToNat, Nat.reduceAdd, Nat.reduceBEq, Nat.reduceLeDiff, Nat.reduceLT, Nat.reduceMul, Nat.reduceSub, Int.reduceEq, Int.reduceLT, Int.reduceLE, Int.reduceNeg, h33, h36])
  all_goals
    clear h33 h36
    refine congrArg some (congrArg (SV.int .i64) ?_)
    simp only [ck, ckB]
    generalize (S.any fun s => !srB s) = A at *
    generalize (F.any fun s => !fdB s) = B at *
    generalize S.length = ls at *
    generalize F.length = lf at *
    cases A <;> cases B <;> simp only [Bool.not_true, Bool.not_false, Bool.and_true, Bool.and_false, cond_false, Bool.cond_eq_ite, Bool.and_eq_true, decide_eq_true_eq] <;> grind
theorem s62 (n : Nat) (H : Heap) (S F f1 f2) (hS : okS S) (hF : F.length ≤ maxLen) : call1 T (n + 7) (.fn 62) [sp S f1 F f2] H = some (.int .i64 (ck S F), H) := s12z n H S F f1 f2 6 (.inl rfl) hS hF
theorem ck_s {S : List Src} {F : List Fd} {i : Nat} {s : Src} (h : S[i]? = some s) (hb : srB s = false) : ck S F = 1 := by
  have : S.any (fun s => !srB s) = true := List.any_eq_true.2 ⟨s, List.mem_of_getElem? h, by simp [hb]⟩
  simp only [ck, ckB, this, Bool.not_true, Bool.and_false, Bool.false_and, cond_false]
theorem ck_f {S : List Src} {F : List Fd} {i : Nat} {s : Fd} (h : F[i]? = some s) (hb : fdB s = false) : ck S F = 1 := by
  have : F.any (fun s => !fdB s) = true := List.any_eq_true.2 ⟨s, List.mem_of_getElem? h, by simp [hb]⟩
  simp only [ck, ckB, this, Bool.not_true, Bool.and_false, Bool.false_and, cond_false]
theorem ck_ok {S : List Src} {F : List Fd} (h1 : S.length ≤ 16) (h2 : F.length ≤ 64) (hS : ∀ (j : Nat) s, S[j]? = some s → srB s = true) (hF : ∀ (j : Nat) s, F[j]? = some s → fdB s = true) : ck S F = 0 := by
  have a : S.any (fun s => !srB s) = false := by
    rw [List.any_eq_false]; intro s hs
    obtain ⟨j, hj⟩ := List.mem_iff_getElem?.1 hs
    simp [hS j s hj]
  have b : F.any (fun s => !fdB s) = false := by
    rw [List.any_eq_false]; intro s hs
    obtain ⟨j, hj⟩ := List.mem_iff_getElem?.1 hs
    simp [hF j s hj]
  simp only [ck, ckB, a, b, h1, h2, decide_true, Bool.not_false, Bool.and_true, cond_true]
theorem s76 (n : Nat) (H : Heap) (S F f1 f2) (hS : okS S) (hF : F.length ≤ maxLen) : call1 T (n + 3) (.fn 76) [sp S f1 F f2] H = some (.int .i64 (ck S F), H) := by
  refine call_pure e76 (by rfl) ?_
  simp only [c76, heap0, go_sem, Int.reduceToNat, Nat.reduceAdd, Nat.reduceBEq, Nat.reduceLeDiff, Nat.reduceLT, Nat.reduceMul, Nat.reduceSub, Int.reduceEq, Int.reduceLT, Int.reduceLE, Int.reduceNeg]
  repeat' (with_reducible refine fork_split (fun _ => ?_) (fun _ => ?_) <;> simp only [*, go_sem, Int.reduceToNat, Nat.reduceAdd, Nat.reduceBEq, Nat.reduceLeDiff, Nat.reduceLT, Nat.reduceMul, Nat.reduceSub, Int.reduceEq, Int.reduceLT, Int.reduceLE, Int.reduceNeg])
  all_goals try (
    with_reducible refine congrArg some (congrArg (SV.int .i64) ?_)
    simp only [ck, ckB, Bool.cond_eq_ite, Bool.and_eq_true, decide_eq_true_eq]
    simp only [decide_eq_true_eq] at *
    rw [if_neg (by omega)]
    done)
  have hl1 : S.length ≤ 16 := by simp only [decide_eq_false_iff_not] at *; omega
  have hl2 : F.length ≤ 64 := by simp only [decide_eq_false_iff_not] at *; omega
  refine loop_rule (fun i => ([(1, .ptr 0 0 0 0), (3, .int .i64 i)], ⟨[.box [.lst 7 (srsS S) f1, .lst 6 (fdsS F) f2]], [], 0⟩)) (fun i => ∀ (j : Nat) s, j < i → S[j]? = some s → srB s = true) S.length ?_ (fun j s h => by omega) ?_
  · simp only [go_sem, Int.reduceToNat, Nat.reduceAdd, Nat.reduceBEq, Nat.reduceLeDiff, Nat.reduceLT, Nat.reduceMul, Nat.reduceSub, Int.reduceEq, Int.reduceLT, Int.reduceLE, Int.reduceNeg] <;> rfl
  · intro i hi hP
    rcases Nat.lt_or_ge i S.length with hlt | hge
    · obtain ⟨s, hs⟩ := getS hlt
      have hw := w64_suc hlt hS.1
      have h39 := fun H => s131 n H s (hS.2 s (List.mem_of_getElem? hs))
      cases hb : srB s with
      | false => simp only [go_sem, Int.reduceToNat, Nat.reduceAdd, Nat.reduceBEq, Nat.reduceLeDiff, Nat.reduceLT, Nat.reduceMul, Nat.reduceSub, Int.reduceEq, Int.reduceLT, Int.reduceLE, Int.reduceNeg, hlt, hs, h39, hb, ck_s hs hb]
      | true =>
        simp only [go_sem, Int.reduceToNat, Nat.reduceAdd, Nat.reduceBEq, Nat.reduceLeDiff, Nat.reduceLT, Nat.reduceMul, Nat.reduceSub, Int.reduceEq, Int.reduceLT, Int.reduceLE, Int.reduceNeg, hlt, hs, h39, hb, hw]
        refine ⟨by first | trivial | omega, by first | trivial | rfl, ?_⟩
        intro j s' hj hs'
        rcases Nat.lt_or_ge j i with h3 | h3
        · exact hP j s' h3 hs'
        · have : j = i := by omega
          subst this
          rw [hs] at hs'; cases hs'
          exact hb
    · have hlt : ¬ i < S.length := by omega
      simp only [go_sem, Int.reduceToNat, Nat.reduceAdd, Nat.reduceBEq, Nat.reduceLeDiff, Nat.reduceLT, Nat.reduceMul, Nat.reduceSub, Int.reduceEq, Int.reduceLT, Int.reduceLE, Int.reduceNeg, hlt]
      refine loop_rule (fun i => ([(1, .ptr 0 0 0 0), (4, .int .i64 i)], ⟨[.box [.lst 7 (srsS S) f1, .lst 6 (fdsS F) f2]], [], 0⟩)) (fun i => ∀ (j : Nat) s, j < i → F[j]? = some s → fdB s = true) F.length ?_ (fun j s h => by omega) ?_
      · simp only [go_sem, Int.reduceToNat, Nat.reduceAdd, Nat.reduceBEq, Nat.reduceLeDiff, Nat.reduceLT, Nat.reduceMul, Nat.reduceSub, Int.reduceEq, Int.reduceLT, Int.reduceLE, Int.reduceNeg] <;> rfl
      · intro k hk hK
        rcases Nat.lt_or_ge k F.length with hlt3 | hge3
        · obtain ⟨s, hs⟩ := getS hlt3
          have hw := w64_suc hlt3 hF
          have h40 := fun H => s132 n H s
          cases hb : fdB s with
          | false => simp only [go_sem, Int.reduceToNat, Nat.reduceAdd, Nat.reduceBEq, Nat.reduceLeDiff, Nat.reduceLT, Nat.reduceMul, Nat.reduceSub, Int.reduceEq, Int.reduceLT, Int.reduceLE, Int.reduceNeg, hlt3, hs, h40, hb, ck_f hs hb]
          | true =>
            simp only [go_sem, Int.reduceToNat, Nat.reduceAdd, Nat.reduceBEq, Nat.reduceLeDiff, Nat.reduceLT, Nat.reduceMul, Nat.reduceSub, Int.reduceEq, Int.reduceLT, Int.reduceLE, Int.reduceNeg, hlt3, hs, h40, hb, hw]
            refine ⟨by first | trivial | omega, by first | trivial | rfl, ?_⟩
            intro j s' hj hs'
            rcases Nat.lt_or_ge j k with h3 | h3
            · exact hK j s' h3 hs'
            · have : j = k := by omega
              subst this
              rw [hs] at hs'; cases hs'
              exact hb
        · have hlt3 : ¬ k < F.length := by omega
          have hck := ck_ok hl1 hl2 (fun j s hj => hP j s (by have := (List.getElem?_eq_some_iff.1 hj).1; omega) hj) (fun j s hj => hK j s (by have := (List.getElem?_eq_some_iff.1 hj).1; omega) hj)
          simp only [go_sem, Int.reduceToNat, Nat.reduceAdd, Nat.reduceBEq, Nat.reduceLeDiff, Nat.reduceLT, Nat.reduceMul, Nat.reduceSub, Int.reduceEq, Int.reduceLT, Int.reduceLE, Int.reduceNeg, hlt3, hck]
def fewB (S : List Src) (F : List Fd) : Bool := decide (S.length ≤ 20) && decide (F.length ≤ 70) && !S.any (fun s => decide (20 < s.C.length))
theorem few_no {S : List Src} {F : List Fd} {i : Nat} {s : Src} (h : S[i]? = some s) (hb : 20 < s.C.length) : fewB S F = false := by
  have : S.any (fun s => decide (20 < s.C.length)) = true := List.any_eq_true.2 ⟨s, List.mem_of_getElem? h, by simp [hb]⟩
  simp only [fewB, this, Bool.not_true, Bool.and_false]
theorem few_ok {S : List Src} {F : List Fd} (h1 : S.length ≤ 20) (h2 : F.length ≤ 70) (hS : ∀ (j : Nat) s, S[j]? = some s → s.C.length ≤ 20) : fewB S F = true := by
  have a : S.any (fun s => decide (20 < s.C.length)) = false := by
    rw [List.any_eq_false]; intro s hs
    obtain ⟨j, hj⟩ := List.mem_iff_getElem?.1 hs
    have := hS j s hj
    simp; omega
  simp only [fewB, a, h1, h2, decide_true, Bool.not_false, Bool.and_true]
theorem few_of {S : List Src} {F : List Fd} (h : fewB S F = true) : S.length ≤ 20 ∧ F.length ≤ 70 ∧ ∀ s ∈ S, s.C.length ≤ 20 := by
  simp only [fewB, Bool.and_eq_true, decide_eq_true_eq, Bool.not_eq_true', List.any_eq_false, Nat.not_lt] at h
  exact ⟨h.1.1, h.1.2, h.2⟩
theorem s87 (n : Nat) (H : Heap) (S F f1 f2) (hS : S.length ≤ maxLen) : call1 T (n + 2) (.fn 87) [sp S f1 F f2] H = some (.bool (fewB S F), H) := by
  refine call_pure e87 (by rfl) ?_
  simp only [c87, heap0, go_sem, Int.reduceToNat, Nat.reduceAdd, Nat.reduceBEq, Nat.reduceLeDiff, Nat.reduceLT, Nat.reduceMul, Nat.reduceSub, Int.reduceEq, Int.reduceLT, Int.reduceLE, Int.reduceNeg]
  repeat' (with_reducible refine fork_split (fun _ => ?_) (fun _ => ?_) <;> simp only [*, go_sem, Int.reduceToNat, Nat.reduceAdd, Nat.reduceBEq, Nat.reduceLeDiff, Nat.reduceLT, Nat.reduceMul, Nat.reduceSub, Int.reduceEq, Int.reduceLT, Int.reduceLE, Int.reduceNeg])
  all_goals try (
    with_reducible refine congrArg some (congrArg SV.bool ?_)
    simp only [decide_eq_true_eq] at *
    rw [eq_comm, Bool.eq_false_iff]
    intro hq
    have := few_of hq
    omega)
  have hl1 : S.length ≤ 20 := by simp only [decide_eq_false_iff_not] at *; omega
  have hl2 : F.length ≤ 70 := by simp only [decide_eq_false_iff_not] at *; omega
  refine loop_rule (fun i => ([(1, .ptr 0 0 0 0), (3, .int .i64 i)], ⟨[.box [.lst 7 (srsS S) f1, .lst 6 (fdsS F) f2]], [], 0⟩)) (fun i => ∀ (j : Nat) s, j < i → S[j]? = some s → s.C.length ≤ 20) S.length ?_ (fun j s h => by omega) ?_
  · simp only [go_sem, Int.reduceToNat, Nat.reduceAdd, Nat.reduceBEq, Nat.reduceLeDiff, Nat.reduceLT, Nat.reduceMul, Nat.reduceSub, Int.reduceEq, Int.reduceLT, Int.reduceLE, Int.reduceNeg] <;> rfl
  · intro i hi hP
    rcases Nat.lt_or_ge i S.length with hlt | hge
    · obtain ⟨s, hs⟩ := getS hlt
      have hw := w64_suc hlt hS
      rcases Nat.lt_or_ge 20 s.C.length with hb | hb
      · have hb' : decide (20 < (s.C.length : Int)) = true := decide_eq_true (by omega)
        simp only [go_sem, Int.reduceToNat, Nat.reduceAdd, Nat.reduceBEq, Nat.reduceLeDiff, Nat.reduceLT, Nat.reduceMul, Nat.reduceSub, Int.reduceEq, Int.reduceLT, Int.reduceLE, Int.reduceNeg, hlt, hs, hb', few_no hs hb]
      · have hb' : decide (20 < (s.C.length : Int)) = false := decide_eq_false (by omega)
        simp only [go_sem, Int.reduceToNat, Nat.reduceAdd, Nat.reduceBEq, Nat.reduceLeDiff, Nat.reduceLT, Nat.reduceMul, Nat.reduceSub, Int.reduceEq, Int.reduceLT, Int.reduceLE, Int.reduceNeg, hlt, hs, hb', hw]
        refine ⟨by first | trivial | omega, by first | trivial | rfl, ?_⟩
        intro j s' hj hs'
        rcases Nat.lt_or_ge j i with h3 | h3
        · exact hP j s' h3 hs'
        · have : j = i := by omega
          subst this
          rw [hs] at hs'; cases hs'
          exact hb
    · have hlt : ¬ i < S.length := by omega
      have hfo := few_ok hl1 hl2 (fun j s hj => hP j s (by have := (List.getElem?_eq_some_iff.1 hj).1; omega) hj)
      simp only [go_sem, Int.reduceToNat, Nat.reduceAdd, Nat.reduceBEq, Nat.reduceLeDiff, Nat.reduceLT, Nat.reduceMul, Nat.reduceSub, Int.reduceEq, Int.reduceLT, Int.reduceLE, Int.reduceNeg, hlt, hfo]
def inB (n : Nat) (a : Int) : Bool := decide (0 ≤ a) && decide (a < n)
def exA (N : List (Int × Int)) (P : List Int) (W : List G.Wl) (ex no th : Int) (k : Nat) (s : Src) : Int :=
  G.AtV (G.atI W ex s.a s.b s.p (G.nd N k).1 (G.nd N k).2) (G.okI N P W ex no th) (G.argI s.a s.b s.p (G.nd N k).1 (G.nd N k).2)
end U
end Go.Sh
namespace Go.Sh
set_option linter.unusedSectionVars false
set_option linter.unnecessarySimpa false
set_option linter.unusedVariables false
set_option linter.unusedSimpArgs false
set_option maxRecDepth 100000
set_option maxHeartbeats 4000000
namespace C11
theorem x36 : T 192 = some stdIdx := e192
theorem x13 : T 165 = some (stdCon 192) := e165
theorem lvI {bl : List SBlk} {C : List Int} {f : Bool} : LV bl 1 (iS C) (.lst 1 (iS C) f) := .lst 1 f (.inl rfl)
def chanB (c : Int) : Bool := decide (0 ≤ c) && decide (c < 16)
theorem s164 (n : Nat) (H : Heap) (c : Int) : call1 T (n + 1) (.fn 164) [.int .i64 c] H = some (.bool (chanB c), H) := by
  refine call_pure e164 (by rfl) ?_
  simp only [c164, heap0, go_sem, Int.reduceToNat, Nat.reduceAdd, Nat.reduceBEq, Nat.reduceLeDiff, Nat.reduceLT, Nat.reduceMul, Nat.reduceSub, Int.reduceEq, Int.reduceLT, Int.reduceLE, Int.reduceNeg]
  repeat' (with_reducible refine fork_split (fun _ => ?_) (fun _ => ?_) <;> simp only [*, go_sem, Int.reduceToNat, Nat.reduceAdd, Nat.reduceBEq, Nat.reduceLeDiff, Nat.reduceLT, Nat.reduceMul, Nat.reduceSub, Int.reduceEq, Int.reduceLT, Int.reduceLE, Int.reduceNeg])
  all_goals (simp only [chanB]; refine congrArg some (congrArg SV.bool ?_); rw [Bool.eq_iff_iff]; grind)
theorem s172 (n : Nat) (H : Heap) (c : Int) : call1 T (n + 1) (.fn 172) [.int .i64 c] H = some (.bool (chanB c), H) := by
  refine call_pure e172 (by rfl) ?_
  simp only [c172, heap0, go_sem, Int.reduceToNat, Nat.reduceAdd, Nat.reduceBEq, Nat.reduceLeDiff, Nat.reduceLT, Nat.reduceMul, Nat.reduceSub, Int.reduceEq, Int.reduceLT, Int.reduceLE, Int.reduceNeg]
  repeat' (with_reducible refine fork_split (fun _ => ?_) (fun _ => ?_) <;> simp only [*, go_sem, Int.reduceToNat, Nat.reduceAdd, Nat.reduceBEq, Nat.reduceLeDiff, Nat.reduceLT, Nat.reduceMul, Nat.reduceSub, Int.reduceEq, Int.reduceLT, Int.reduceLE, Int.reduceNeg])
  all_goals (simp only [chanB]; refine congrArg some (congrArg SV.bool ?_); rw [Bool.eq_iff_iff]; grind)
def badAt (C : List Int) (i : Nat) : Bool := match C[i]? with
  | some c => !chanB c || decide (c ∈ C.take i)
  | none => false
theorem badAt_some {C : List Int} {i : Nat} {c : Int} (h : C[i]? = some c) : badAt C i = (!chanB c || decide (c ∈ C.take i)) := by simp [badAt, h]
def difB (C : List Int) : Bool := !((List.range C.length).any (badAt C)) && decide (0 < C.length)
theorem difB_bad {C : List Int} {i : Nat} {c : Int} (h : C[i]? = some c) (hb : badAt C i = true) : difB C = false := by
  have : (List.range C.length).any (badAt C) = true := List.any_eq_true.2 ⟨i, List.mem_range.2 (List.getElem?_eq_some_iff.1 h).1, hb⟩
  simp [difB, this]
theorem difB_good {C : List Int} (h : ∀ j, j < C.length → badAt C j = false) : difB C = decide (0 < C.length) := by
  have : (List.range C.length).any (badAt C) = false := by
    rw [List.any_eq_false]
    intro j hj
    rw [h j (List.mem_range.1 hj)]; simp
  simp [difB, this]
theorem s121 (n : Nat) (H : Heap) (C : List Int) (f : Bool) (hC : C.length ≤ maxLen) : call1 T (n + 3) (.fn 121) [.lst 1 (iS C) f] H = some (.bool (difB C), H) := by
  refine call_pure e121 (by rfl) ?_
  simp only [c121, heap0, go_sem, Int.reduceToNat, Nat.reduceAdd, Nat.reduceBEq, Nat.reduceLeDiff, Nat.reduceLT, Nat.reduceMul, Nat.reduceSub, Int.reduceEq, Int.reduceLT, Int.reduceLE, Int.reduceNeg]
  refine loop_rule (fun i => ([(0, .lst 1 (iS C) f), (5, .lst 1 (iS C) f), (6, .int .i64 C.length), (7, .int .i64 i)], ⟨[], [], 0⟩)) (fun i => ∀ (j : Nat), j < i → badAt C j = false) C.length ?_ (fun j h => by omega) ?_
  · simp only [go_sem, Int.reduceToNat, Nat.reduceAdd, Nat.reduceBEq, Nat.reduceLeDiff, Nat.reduceLT, Nat.reduceMul, Nat.reduceSub, Int.reduceEq, Int.reduceLT, Int.reduceLE, Int.reduceNeg] <;> rfl
  · intro i hi hP
    rcases Nat.lt_or_ge i C.length with hlt | hge
    · obtain ⟨c, hc⟩ := getS hlt
      have hw := w64_suc hlt hC
      have hb := badAt_some hc
      have hle : decide ((i : Int) ≤ (C.length : Int)) = true := decide_eq_true (by omega)
      have h13 := fun H => stdCon_ok (n := n) (H := H) (v := .lst 1 (iS (C.take i)) (f && i == C.length)) (M := C.take i) (x := c) x13 x36 (lvI) (by simp; omega)
      cases hx : chanB c with
      | false =>
        simp only [go_sem, Int.reduceToNat, Nat.reduceAdd, Nat.reduceBEq, Nat.reduceLeDiff, Nat.reduceLT, Nat.reduceMul, Nat.reduceSub, Int.reduceEq, Int.reduceLT, Int.reduceLE, Int.reduceNeg, hlt, hc, s164, hx]
        rw [difB_bad hc (by rw [hb, hx]; rfl)]
      | true =>
        simp only [go_sem, Int.reduceToNat, Nat.reduceAdd, Nat.reduceBEq, Nat.reduceLeDiff, Nat.reduceLT, Nat.reduceMul, Nat.reduceSub, Int.reduceEq, Int.reduceLT, Int.reduceLE, Int.reduceNeg, hlt, hc, s164, hx, hle, iS_take, h13]
        cases hm : decide (c ∈ C.take i) with
        | true =>
          simp only [go_sem, Int.reduceToNat, Nat.reduceAdd, Nat.reduceBEq, Nat.reduceLeDiff, Nat.reduceLT, Nat.reduceMul, Nat.reduceSub, Int.reduceEq, Int.reduceLT, Int.reduceLE, Int.reduceNeg]
          rw [difB_bad hc (by rw [hb, hm]; simp)]
        | false =>
          simp only [go_sem, Int.reduceToNat, Nat.reduceAdd, Nat.reduceBEq, Nat.reduceLeDiff, Nat.reduceLT, Nat.reduceMul, Nat.reduceSub, Int.reduceEq, Int.reduceLT, Int.reduceLE, Int.reduceNeg, hw]
          refine ⟨by first | trivial | omega, by first | trivial | rfl, ?_⟩
          intro j hj
          rcases Nat.lt_or_ge j i with h3 | h3
          · exact hP j h3
          · have : j = i := by omega
            subst this
            rw [hb, hx, hm]; rfl
    · have hlt : ¬ i < C.length := by omega
      have hd := difB_good (C := C) (fun j hj => hP j (by omega))
      simp only [go_sem, Int.reduceToNat, Nat.reduceAdd, Nat.reduceBEq, Nat.reduceLeDiff, Nat.reduceLT, Nat.reduceMul, Nat.reduceSub, Int.reduceEq, Int.reduceLT, Int.reduceLE, Int.reduceNeg, hlt, hd]
      refine congrArg some (congrArg SV.bool ?_)
      rw [Bool.eq_iff_iff, decide_eq_true_eq, decide_eq_true_eq]; omega
theorem s173 (n : Nat) (H : Heap) (C : List Int) (f : Bool) (z : Nat) (c : Int) (hz : z = 1 ∨ C = []) (hC : C.length ≤ maxLen) : call1 T (n + 1) (.fn 173) [.lst z (iS C) f, .int .i64 c] H = some (.bool (decide (c ∈ C)), H) := by
  refine call_pure e173 (by rfl) ?_
  simp only [c173, heap0, go_sem, Int.reduceToNat, Nat.reduceAdd, Nat.reduceBEq, Nat.reduceLeDiff, Nat.reduceLT, Nat.reduceMul, Nat.reduceSub, Int.reduceEq, Int.reduceLT, Int.reduceLE, Int.reduceNeg]
  refine loop_rule (fun i => ([(0, .lst z (iS C) f), (1, .int .i64 c), (5, .int .i64 i)], ⟨[], [], 0⟩)) (fun i => ∀ (j : Nat) y, j < i → C[j]? = some y → y ≠ c) C.length ?_ (fun j y h => by omega) ?_
  · simp only [go_sem, Int.reduceToNat, Nat.reduceAdd, Nat.reduceBEq, Nat.reduceLeDiff, Nat.reduceLT, Nat.reduceMul, Nat.reduceSub, Int.reduceEq, Int.reduceLT, Int.reduceLE, Int.reduceNeg] <;> rfl
  · intro i hi hP
    rcases Nat.lt_or_ge i C.length with hlt | hge
    · obtain ⟨y, hy⟩ := getS hlt
      have hw := w64_suc hlt hC
      obtain rfl : z = 1 := hz.resolve_right (by rintro rfl; simp at hlt)
      simp only [go_sem, Int.reduceToNat, Nat.reduceAdd, Nat.reduceBEq, Nat.reduceLeDiff, Nat.reduceLT, Nat.reduceMul, Nat.reduceSub, Int.reduceEq, Int.reduceLT, Int.reduceLE, Int.reduceNeg, hlt, hy]
      cases hd : decide (y = c) with
      | true =>
        simp only [decide_eq_true_eq] at hd
        subst hd
        simp only [go_sem, Int.reduceToNat, Nat.reduceAdd, Nat.reduceBEq, Nat.reduceLeDiff, Nat.reduceLT, Nat.reduceMul, Nat.reduceSub, Int.reduceEq, Int.reduceLT, Int.reduceLE, Int.reduceNeg, List.mem_of_getElem? hy]
      | false =>
        simp only [decide_eq_false_iff_not] at hd
        simp only [go_sem, Int.reduceToNat, Nat.reduceAdd, Nat.reduceBEq, Nat.reduceLeDiff, Nat.reduceLT, Nat.reduceMul, Nat.reduceSub, Int.reduceEq, Int.reduceLT, Int.reduceLE, Int.reduceNeg, hw]
        refine ⟨by first | trivial | omega, by first | trivial | rfl, ?_⟩
        intro j y' hj hy'
        rcases Nat.lt_or_ge j i with h3 | h3
        · exact hP j y' h3 hy'
        · have : j = i := by omega
          subst this
          rw [hy] at hy'; cases hy'
          exact hd
    · have hlt : ¬ i < C.length := by omega
      have hn : ¬ c ∈ C := fun h => by
        obtain ⟨j, hj⟩ := List.mem_iff_getElem?.1 h
        exact hP j c (by have := (List.getElem?_eq_some_iff.1 hj).1; omega) hj rfl
      simp only [go_sem, Int.reduceToNat, Nat.reduceAdd, Nat.reduceBEq, Nat.reduceLeDiff, Nat.reduceLT, Nat.reduceMul, Nat.reduceSub, Int.reduceEq, Int.reduceLT, Int.reduceLE, Int.reduceNeg, hlt, hn]
theorem s127 (n : Nat) (H : Heap) (C : List Int) (f : Bool) (hC : C.length ≤ maxLen) : call1 T (n + 2) (.fn 127) [.lst 1 (iS C) f] H = some (.bool (difB C), H) := by
  refine call_pure e127 (by rfl) ?_
  simp only [c127, heap0, go_sem, Int.reduceToNat, Nat.reduceAdd, Nat.reduceBEq, Nat.reduceLeDiff, Nat.reduceLT, Nat.reduceMul, Nat.reduceSub, Int.reduceEq, Int.reduceLT, Int.reduceLE, Int.reduceNeg]
  refine loop_rule (fun i => ([(0, .lst 1 (iS C) f), (3, .int .i64 i)], ⟨[], [], 0⟩)) (fun i => ∀ (j : Nat), j < i → badAt C j = false) C.length ?_ (fun j h => by omega) ?_
  · simp only [go_sem, Int.reduceToNat, Nat.reduceAdd, Nat.reduceBEq, Nat.reduceLeDiff, Nat.reduceLT, Nat.reduceMul, Nat.reduceSub, Int.reduceEq, Int.reduceLT, Int.reduceLE, Int.reduceNeg] <;> rfl
  · intro i hi hP
    rcases Nat.lt_or_ge i C.length with hlt | hge
    · obtain ⟨c, hc⟩ := getS hlt
      have hw := w64_suc hlt hC
      have hb := badAt_some hc
      have hle : decide ((i : Int) ≤ (C.length : Int)) = true := decide_eq_true (by omega)
      have h45 := fun H => s173 n H (C.take i) (f && i == C.length) 1 c (.inl rfl) (by simp; omega)
      cases hx : chanB c with
      | false =>
        simp only [go_sem, Int.reduceToNat, Nat.reduceAdd, Nat.reduceBEq, Nat.reduceLeDiff, Nat.reduceLT, Nat.reduceMul, Nat.reduceSub, Int.reduceEq, Int.reduceLT, Int.reduceLE, Int.reduceNeg, hlt, hc, s172, hx]
        rw [difB_bad hc (by rw [hb, hx]; rfl)]
      | true =>
        simp only [go_sem, Int.reduceToNat, Nat.reduceAdd, Nat.reduceBEq, Nat.reduceLeDiff, Nat.reduceLT, Nat.reduceMul, Nat.reduceSub, Int.reduceEq, Int.reduceLT, Int.reduceLE, Int.reduceNeg, hlt, hc, s172, hx, hle, iS_take, h45]
        cases hm : decide (c ∈ C.take i) with
        | true =>
          simp only [go_sem, Int.reduceToNat, Nat.reduceAdd, Nat.reduceBEq, Nat.reduceLeDiff, Nat.reduceLT, Nat.reduceMul, Nat.reduceSub, Int.reduceEq, Int.reduceLT, Int.reduceLE, Int.reduceNeg]
          rw [difB_bad hc (by rw [hb, hm]; simp)]
        | false =>
          simp only [go_sem, Int.reduceToNat, Nat.reduceAdd, Nat.reduceBEq, Nat.reduceLeDiff, Nat.reduceLT, Nat.reduceMul, Nat.reduceSub, Int.reduceEq, Int.reduceLT, Int.reduceLE, Int.reduceNeg, hw]
          refine ⟨by first | trivial | omega, by first | trivial | rfl, ?_⟩
          intro j hj
          rcases Nat.lt_or_ge j i with h3 | h3
          · exact hP j h3
          · have : j = i := by omega
            subst this
            rw [hb, hx, hm]; rfl
    · have hlt : ¬ i < C.length := by omega
      have hd := difB_good (C := C) (fun j hj => hP j (by omega))
      simp only [go_sem, Int.reduceToNat, Nat.reduceAdd, Nat.reduceBEq, Nat.reduceLeDiff, Nat.reduceLT, Nat.reduceMul, Nat.reduceSub, Int.reduceEq, Int.reduceLT, Int.reduceLE, Int.reduceNeg, hlt, hd]
      refine congrArg some (congrArg SV.bool ?_)
      rw [Bool.eq_iff_iff, decide_eq_true_eq, decide_eq_true_eq]; omega
abbrev hl (v a b : Int) (z : Nat) (C : List Int) (f : Bool) : SV := .agg [.int .i64 v, .int .i64 a, .int .i64 b, .lst z (iS C) f]
def okH (v a b : Int) (C : List Int) : Bool := decide (0 ≤ v) && decide (v ≤ 255) && decide (0 ≤ a) && decide (a < b) && decide (b ≤ 109951163) && difB C
def ckH (v a b : Int) (C : List Int) : Int := bif okH v a b C then 0 else 1
theorem ckH_yes {v a b : Int} {C : List Int} (h : okH v a b C = true) : ckH v a b C = 0 := by simp [ckH, h]
theorem ckH_no {v a b : Int} {C : List Int} (h : okH v a b C = false) : ckH v a b C = 1 := by simp [ckH, h]
theorem s64 (n : Nat) (H : Heap) (v a b : Int) (C : List Int) (f : Bool) (hC : C.length ≤ maxLen) : call1 T (n + 4) (.fn 64) [hl v a b 1 C f] H = some (.int .i64 (ckH v a b C), H) := by
  refine call_pure e64 (by rfl) ?_
  have h37 := fun H => s121 n H C f hC
  simp only [c64, heap0, go_sem, Int.reduceToNat, Nat.reduceAdd, Nat.reduceBEq, Nat.reduceLeDiff, Nat.reduceLT, Nat.reduceMul, Nat.reduceSub, Int.reduceEq, Int.reduceLT, Int.reduceLE, Int.reduceNeg, h37]
  repeat' (with_reducible refine fork_split (fun _ => ?_) (fun _ => ?_) <;> simp only [*, go_sem, Int.reduceToNat, Nat.reduceAdd, Nat.reduceBEq, Nat.reduceLeDiff, Nat.reduceLT, Nat.reduceMul, Nat.reduceSub, Int.reduceEq, Int.reduceLT, Int.reduceLE, Int.reduceNeg, h37])
  all_goals
    clear h37
    refine congrArg some (congrArg (SV.int .i64) ?_)
    simp only [ckH]
    generalize hq : okH v a b C = q
    simp only [okH] at hq
    generalize difB C = D at *
    cases q <;> simp only [cond_true, cond_false] <;> grind
theorem s72 (n : Nat) (H : Heap) (v a b : Int) (C : List Int) (f : Bool) (hC : C.length ≤ maxLen) : call1 T (n + 3) (.fn 72) [hl v a b 1 C f] H = some (.int .i64 (ckH v a b C), H) := by
  refine call_pure e72 (by rfl) ?_
  have h43 := fun H => s127 n H C f hC
  simp only [c72, heap0, go_sem, Int.reduceToNat, Nat.reduceAdd, Nat.reduceBEq, Nat.reduceLeDiff, Nat.reduceLT, Nat.reduceMul, Nat.reduceSub, Int.reduceEq, Int.reduceLT, Int.reduceLE, Int.reduceNeg, h43]
  repeat' (with_reducible refine fork_split (fun _ => ?_) (fun _ => ?_) <;> simp only [*, go_sem, Int.reduceToNat, Nat.reduceAdd, Nat.reduceBEq, Nat.reduceLeDiff, Nat.reduceLT, Nat.reduceMul, Nat.reduceSub, Int.reduceEq, Int.reduceLT, Int.reduceLE, Int.reduceNeg, h43])
  all_goals
    clear h43
    refine congrArg some (congrArg (SV.int .i64) ?_)
    simp only [ckH]
    generalize hq : okH v a b C = q
    simp only [okH] at hq
    generalize difB C = D at *
    cases q <;> simp only [cond_true, cond_false] <;> grind
def chnA (C : List Int) (s o : Int) : Int := C.getD ((s + o) % (C.length : Int)).toNat 0
def chE (v a b : Int) (C : List Int) (s o : Int) : Int := bif okH v a b C then (bif decide (a ≤ s) && decide (s < b) then (bif decide (0 ≤ o) && decide (o < (C.length : Int)) then 0 else 2) else 12) else 1
def chV (v a b : Int) (C : List Int) (s o : Int) : Int := bif decide (chE v a b C s o = 0) then chnA C s o else 0
theorem okH_spec {v a b : Int} {C : List Int} (h : okH v a b C = true) : (0 ≤ v ∧ v ≤ 255) ∧ 0 ≤ a ∧ a < b ∧ b ≤ 109951163 ∧ difB C = true := by
  simp only [okH, Bool.and_eq_true, decide_eq_true_eq] at h
  exact ⟨⟨h.1.1.1.1.1, h.1.1.1.1.2⟩, h.1.1.1.2, h.1.1.2, h.1.2, h.2⟩
theorem difB_pos {C : List Int} (h : difB C = true) : 0 < C.length := by
  simp only [difB, Bool.and_eq_true, decide_eq_true_eq] at h
  exact h.2
theorem s29 (n : Nat) (H : Heap) (v a b : Int) (C : List Int) (f : Bool) (s o : Int) (hC : C.length ≤ 1000) : call1 T (n + 4) (.fn 29) [hl v a b 1 C f, .int .i64 s, .int .i64 o] H = some (.tup [.int .i64 (chV v a b C s o), .int .i64 (chE v a b C s o)], H) := by
  refine call_pure e29 (by rfl) ?_
  have h25 := fun H => s72 n H v a b C f (Nat.le_trans hC (by decide))
  cases hok : okH v a b C with
  | false =>
    rw [ckH_no hok] at h25
    simp only [c29, heap0, go_sem, Int.reduceToNat, Nat.reduceAdd, Nat.reduceBEq, Nat.reduceLeDiff, Nat.reduceLT, Nat.reduceMul, Nat.reduceSub, Int.reduceEq, Int.reduceLT, Int.reduceLE, Int.reduceNeg, h25, chV, chE, hok]
  | true =>
    rw [ckH_yes hok] at h25
    obtain ⟨hv, ha, hab, hb, hd⟩ := okH_spec hok
    have hpos := difB_pos hd
    simp only [c29, heap0, go_sem, Int.reduceToNat, Nat.reduceAdd, Nat.reduceBEq, Nat.reduceLeDiff, Nat.reduceLT, Nat.reduceMul, Nat.reduceSub, Int.reduceEq, Int.reduceLT, Int.reduceLE, Int.reduceNeg, h25, chV, chE, hok]
    by_cases h1 : s < a
    · have e1 : decide (s < a) = true := decide_eq_true h1
      have e2 : decide (a ≤ s) = false := decide_eq_false (by omega)
      simp only [e1, e2, go_sem, Int.reduceToNat, Nat.reduceAdd, Nat.reduceBEq, Nat.reduceLeDiff, Nat.reduceLT, Nat.reduceMul, Nat.reduceSub, Int.reduceEq, Int.reduceLT, Int.reduceLE, Int.reduceNeg]
    · have e1 : decide (s < a) = false := decide_eq_false h1
      have e2 : decide (a ≤ s) = true := decide_eq_true (by omega)
      by_cases h2 : b ≤ s
      · have e3 : decide (b ≤ s) = true := decide_eq_true h2
        have e4 : decide (s < b) = false := decide_eq_false (by omega)
        simp only [e1, e2, e3, e4, go_sem, Int.reduceToNat, Nat.reduceAdd, Nat.reduceBEq, Nat.reduceLeDiff, Nat.reduceLT, Nat.reduceMul, Nat.reduceSub, Int.reduceEq, Int.reduceLT, Int.reduceLE, Int.reduceNeg]
      · have e3 : decide (b ≤ s) = false := decide_eq_false h2
        have e4 : decide (s < b) = true := decide_eq_true (by omega)
        by_cases h3 : o < 0
        · have e5 : decide (o < 0) = true := decide_eq_true h3
          have e6 : decide (0 ≤ o) = false := decide_eq_false (by omega)
          simp only [e1, e2, e3, e4, e5, e6, go_sem, Int.reduceToNat, Nat.reduceAdd, Nat.reduceBEq, Nat.reduceLeDiff, Nat.reduceLT, Nat.reduceMul, Nat.reduceSub, Int.reduceEq, Int.reduceLT, Int.reduceLE, Int.reduceNeg]
        · have e5 : decide (o < 0) = false := decide_eq_false h3
          have e6 : decide (0 ≤ o) = true := decide_eq_true (by omega)
          by_cases h4 : (C.length : Int) ≤ o
          · have e7 : decide ((C.length : Int) ≤ o) = true := decide_eq_true h4
            have e8 : decide (o < (C.length : Int)) = false := decide_eq_false (by omega)
            simp only [e1, e2, e3, e4, e5, e6, e7, e8, go_sem, Int.reduceToNat, Nat.reduceAdd, Nat.reduceBEq, Nat.reduceLeDiff, Nat.reduceLT, Nat.reduceMul, Nat.reduceSub, Int.reduceEq, Int.reduceLT, Int.reduceLE, Int.reduceNeg]
          · have e7 : decide ((C.length : Int) ≤ o) = false := decide_eq_false h4
            have e8 : decide (o < (C.length : Int)) = true := decide_eq_true (by omega)
            have hw : w64 (s + o) = s + o := w64_id (by omega) (by omega)
            have hn0 : decide ((C.length : Int) = 0) = false := decide_eq_false (by omega)
            have htm : (s + o).tmod (C.length : Int) = (s + o) % (C.length : Int) := Int.tmod_eq_emod_of_nonneg (by omega)
            have hm0 : 0 ≤ (s + o) % (C.length : Int) := Int.emod_nonneg _ (by omega)
            have hm1 : (s + o) % (C.length : Int) < C.length := Int.emod_lt_of_pos _ (by omega)
            have e9 : decide (0 ≤ (s + o) % (C.length : Int)) = true := decide_eq_true hm0
            have eZq : decide ((s + o) % (C.length : Int) < C.length) = true := decide_eq_true hm1
            obtain ⟨c, hc⟩ := getS (l := C) (i := ((s + o) % (C.length : Int)).toNat) (by omega)
            simp only [e1, e2, e3, e4, e5, e6, e7, e8, hw, hn0, htm, e9, eZq, hc, go_sem, Int.reduceToNat, Nat.reduceAdd, Nat.reduceBEq, Nat.reduceLeDiff, Nat.reduceLT, Nat.reduceMul, Nat.reduceSub, Int.reduceEq, Int.reduceLT, Int.reduceLE, Int.reduceNeg, chnA, List.getD_eq_getElem?_getD, Option.getD_some]
theorem s154 (n : Nat) (bl es ro) (C : List Int) (f : Bool) (x : Int) : call1 T (n + 1) (.kfn 154) [.lst 1 (iS C) f, .int .i64 x] ⟨bl, es, ro⟩ =
    some (.fn 191 [.ptr bl.length 0 0 0, .ptr (bl.length + 1) 0 0 0], ⟨bl ++ [.box [.lst 1 (iS C) f], .box [.int .i64 x]], es, ro⟩) := by
  refine kcall_in e154 ?_
  simp only [c154, go_sem, Int.reduceToNat, Nat.reduceAdd, Nat.reduceBEq, Nat.reduceLeDiff, Nat.reduceLT, Nat.reduceMul, Nat.reduceSub, Int.reduceEq, Int.reduceLT, Int.reduceLE, Int.reduceNeg, List.append_assoc, List.length_append]
def rnd (C : List Int) (s : Int) (i : Nat) : Int := C.getD ((s + i) % (C.length : Int)).toNat 0
theorem s191 (n o : Nat) (q : LoopRec) (X0 : SBlk) (X1 X2 : Nat → SBlk) (C : List Int) (f : Bool) (s : Int) (hs : 0 ≤ s) (hs1 : s < C.length) (ho : o < C.length) (hC : C.length ≤ 1000)
    (hy : ∀ i, i < o → call1 T n (.yld 5) [.int .i64 (rnd C s i)] ⟨[X0, X1 i, X2 i, .box [.lst 1 (iS C) f], .box [.int .i64 s], .loop q .ready .normal], [], 0⟩ =
      some (.bool true, ⟨[X0, X1 (i + 1), X2 (i + 1), .box [.lst 1 (iS C) f], .box [.int .i64 s], .loop q .ready .normal], [], 0⟩))
    (Y1 Y2 : SBlk) (st : LoopState) (pe : SEx)
    (hyE : call1 T n (.yld 5) [.int .i64 (rnd C s o)] ⟨[X0, X1 o, X2 o, .box [.lst 1 (iS C) f], .box [.int .i64 s], .loop q .ready .normal], [], 0⟩ =
      some (.bool false, ⟨[X0, Y1, Y2, .box [.lst 1 (iS C) f], .box [.int .i64 s], .loop q st pe], [], 0⟩)) :
    call1 T (n + 1) (.fn 191) [.yld 5, .ptr 3 0 0 0, .ptr 4 0 0 0] ⟨[X0, X1 0, X2 0, .box [.lst 1 (iS C) f], .box [.int .i64 s], .loop q .ready .normal], [], 0⟩ =
      some (.tup [], ⟨[X0, Y1, Y2, .box [.lst 1 (iS C) f], .box [.int .i64 s], .loop q st pe], [], 0⟩) := by
  refine call_in e191 (by rfl) ?_
  simp only [c191, go_sem, Int.reduceToNat, Nat.reduceAdd, Nat.reduceBEq, Nat.reduceLeDiff, Nat.reduceLT, Nat.reduceMul, Nat.reduceSub, Int.reduceEq, Int.reduceLT, Int.reduceLE, Int.reduceNeg]
  refine loop_rule (fun i => ([(0, .yld 5), (1, .ptr 3 0 0 0), (2, .ptr 4 0 0 0), (6, .int .i64 C.length), (7, .int .i64 i)], ⟨[X0, X1 i, X2 i, .box [.lst 1 (iS C) f], .box [.int .i64 s], .loop q .ready .normal], [], 0⟩)) (fun _ => True) o ?_ trivial ?_
  · simp only [go_sem, Int.reduceToNat, Nat.reduceAdd, Nat.reduceBEq, Nat.reduceLeDiff, Nat.reduceLT, Nat.reduceMul, Nat.reduceSub, Int.reduceEq, Int.reduceLT, Int.reduceLE, Int.reduceNeg] <;> rfl
  · intro i hi _
    have hlt : i < C.length := by omega
    have hw : w64 (s + i) = s + i := w64_id (by omega) (by omega)
    have hw1 := w64_suc hlt (Nat.le_trans hC (by decide))
    have hn0 : decide ((C.length : Int) = 0) = false := decide_eq_false (by omega)
    have htm : (s + i).tmod (C.length : Int) = (s + i) % (C.length : Int) := Int.tmod_eq_emod_of_nonneg (by omega)
    have hm0 : 0 ≤ (s + i) % (C.length : Int) := Int.emod_nonneg _ (by omega)
    have hm1 : (s + i) % (C.length : Int) < C.length := Int.emod_lt_of_pos _ (by omega)
    have e9 : decide (0 ≤ (s + i) % (C.length : Int)) = true := decide_eq_true hm0
    have eZq : decide ((s + i) % (C.length : Int) < C.length) = true := decide_eq_true hm1
    have hc : C[((s + i) % (C.length : Int)).toNat]? = some (rnd C s i) := by
      rw [rnd, List.getD_eq_getElem?_getD, List.getElem?_eq_getElem (by omega)]; rfl
    rcases Nat.lt_or_ge i o with hio | hio
    · simp only [go_sem, Int.reduceToNat, Nat.reduceAdd, Nat.reduceBEq, Nat.reduceLeDiff, Nat.reduceLT, Nat.reduceMul, Nat.reduceSub, Int.reduceEq, Int.reduceLT, Int.reduceLE, Int.reduceNeg, hlt, hw, hn0, htm, e9, eZq, hc, hy i hio, hw1]
      refine ⟨by first | trivial | omega, by first | trivial | rfl, ?_⟩
      trivial
    · obtain rfl : i = o := by omega
      simp only [go_sem, Int.reduceToNat, Nat.reduceAdd, Nat.reduceBEq, Nat.reduceLeDiff, Nat.reduceLT, Nat.reduceMul, Nat.reduceSub, Int.reduceEq, Int.reduceLT, Int.reduceLE, Int.reduceNeg, hlt, hw, hn0, htm, e9, eZq, hc, hyE]
def outc (C : List Int) (s : Int) : Nat → Int
  | 0 => 0
  | i + 1 => rnd C s i
def offc (o : Nat) : Nat → Int
  | 0 => (o : Int)
  | i + 1 => (o : Int) - ((i + 1 : Nat) : Int)
theorem offc_eq (o i : Nat) : offc o i = (o : Int) - i := by
  cases i with
  | zero => simp [offc]
  | succ i => rfl
theorem onSome_of {A R : Type} {v : Option A} {f : A → Option R} {t : Tok f} {r : Option R} (o : A) (h : v = some o) (k : f o = r) : onSome v f t = r := by rw [h]; exact k
theorem s105 (n : Nat) (H : Heap) (v a b : Int) (C : List Int) (f : Bool) (s o : Int) (hC : C.length ≤ 1000) : call1 T (n + 5) (.fn 105) [hl v a b 1 C f, .int .i64 s, .int .i64 o] H = some (.tup [.int .i64 (chV v a b C s o), .int .i64 (chE v a b C s o)], H) := by
  refine call_pure e105 (by rfl) ?_
  have h24 := fun H => s64 n H v a b C f (Nat.le_trans hC (by decide))
  cases hok : okH v a b C with
  | false =>
    rw [ckH_no hok] at h24
    simp only [c105, heap0, go_sem, Int.reduceToNat, Nat.reduceAdd, Nat.reduceBEq, Nat.reduceLeDiff, Nat.reduceLT, Nat.reduceMul, Nat.reduceSub, Int.reduceEq, Int.reduceLT, Int.reduceLE, Int.reduceNeg, h24, chV, chE, hok]
  | true =>
    rw [ckH_yes hok] at h24
    obtain ⟨hv, ha, hab, hb, hd⟩ := okH_spec hok
    have hpos := difB_pos hd
    simp only [c105, heap0, go_sem, Int.reduceToNat, Nat.reduceAdd, Nat.reduceBEq, Nat.reduceLeDiff, Nat.reduceLT, Nat.reduceMul, Nat.reduceSub, Int.reduceEq, Int.reduceLT, Int.reduceLE, Int.reduceNeg, h24, chV, chE, hok]
    by_cases h1 : s < a
    · have e1 : decide (s < a) = true := decide_eq_true h1
      have e2 : decide (a ≤ s) = false := decide_eq_false (by omega)
      simp only [e1, e2, go_sem, Int.reduceToNat, Nat.reduceAdd, Nat.reduceBEq, Nat.reduceLeDiff, Nat.reduceLT, Nat.reduceMul, Nat.reduceSub, Int.reduceEq, Int.reduceLT, Int.reduceLE, Int.reduceNeg]
    · have e1 : decide (s < a) = false := decide_eq_false h1
      have e2 : decide (a ≤ s) = true := decide_eq_true (by omega)
      by_cases h2 : b ≤ s
      · have e3 : decide (b ≤ s) = true := decide_eq_true h2
        have e4 : decide (s < b) = false := decide_eq_false (by omega)
        simp only [e1, e2, e3, e4, go_sem, Int.reduceToNat, Nat.reduceAdd, Nat.reduceBEq, Nat.reduceLeDiff, Nat.reduceLT, Nat.reduceMul, Nat.reduceSub, Int.reduceEq, Int.reduceLT, Int.reduceLE, Int.reduceNeg]
      · have e3 : decide (b ≤ s) = false := decide_eq_false h2
        have e4 : decide (s < b) = true := decide_eq_true (by omega)
        by_cases h3 : o < 0
        · have e5 : decide (o < 0) = true := decide_eq_true h3
          have e6 : decide (0 ≤ o) = false := decide_eq_false (by omega)
          simp only [e1, e2, e3, e4, e5, e6, go_sem, Int.reduceToNat, Nat.reduceAdd, Nat.reduceBEq, Nat.reduceLeDiff, Nat.reduceLT, Nat.reduceMul, Nat.reduceSub, Int.reduceEq, Int.reduceLT, Int.reduceLE, Int.reduceNeg]
        · have e5 : decide (o < 0) = false := decide_eq_false h3
          have e6 : decide (0 ≤ o) = true := decide_eq_true (by omega)
          by_cases h4 : (C.length : Int) ≤ o
          · have e7 : decide ((C.length : Int) ≤ o) = true := decide_eq_true h4
            have e8 : decide (o < (C.length : Int)) = false := decide_eq_false (by omega)
            simp only [e1, e2, e3, e4, e5, e6, e7, e8, go_sem, Int.reduceToNat, Nat.reduceAdd, Nat.reduceBEq, Nat.reduceLeDiff, Nat.reduceLT, Nat.reduceMul, Nat.reduceSub, Int.reduceEq, Int.reduceLT, Int.reduceLE, Int.reduceNeg]
          · have e7 : decide ((C.length : Int) ≤ o) = false := decide_eq_false h4
            have e8 : decide (o < (C.length : Int)) = true := decide_eq_true (by omega)
            have hn0 : decide ((C.length : Int) = 0) = false := decide_eq_false (by omega)
            have htm : s.tmod (C.length : Int) = s % (C.length : Int) := Int.tmod_eq_emod_of_nonneg (by omega)
            obtain ⟨o', rfl⟩ := Int.eq_ofNat_of_zero_le (show 0 ≤ o by omega)
            have hm0 : 0 ≤ s % (C.length : Int) := Int.emod_nonneg _ (by omega)
            have hm1 : s % (C.length : Int) < C.length := Int.emod_lt_of_pos _ (by omega)
            simp only [e1, e2, e3, e4, e5, e6, e7, e8, hn0, htm, go_sem, Int.reduceToNat, Nat.reduceAdd, Nat.reduceBEq, Nat.reduceLeDiff, Nat.reduceLT, Nat.reduceMul, Nat.reduceSub, Int.reduceEq, Int.reduceLT, Int.reduceLE, Int.reduceNeg, s154]
            refine onSome_of _ (s191 (n + 3) o' _ _ (fun i => .box [.int .i64 (offc o' i)]) (fun i => .box [.int .i64 (outc C (s % (C.length : Int)) i)]) C f (s % (C.length : Int)) hm0 hm1 (by omega) hC ?_
              (.box [.int .i64 0]) (.box [.int .i64 (rnd C (s % (C.length : Int)) o')]) .done (.exit 1) ?_) ?_
            · intro i hi
              refine yld_in rfl rfl ?_
              have g1 : decide (offc o' i = 0) = false := decide_eq_false (by rw [offc_eq]; omega)
              have g2 : w64 (offc o' i - 1) = offc o' (i + 1) := by rw [offc_eq, offc_eq, w64_id (by omega) (by omega)]; omega
              simp only [go_sem, Int.reduceToNat, Nat.reduceAdd, Nat.reduceBEq, Nat.reduceLeDiff, Nat.reduceLT, Nat.reduceMul, Nat.reduceSub, Int.reduceEq, Int.reduceLT, Int.reduceLE, Int.reduceNeg, put1, g1, g2, outc]
            · refine yld_in rfl rfl ?_
              have g1 : decide (offc o' o' = 0) = true := decide_eq_true (by rw [offc_eq]; omega)
              have g0 : offc o' o' = 0 := by rw [offc_eq]; omega
              simp only [go_sem, Int.reduceToNat, Nat.reduceAdd, Nat.reduceBEq, Nat.reduceLeDiff, Nat.reduceLT, Nat.reduceMul, Nat.reduceSub, Int.reduceEq, Int.reduceLT, Int.reduceLE, Int.reduceNeg, put1, g1, g0]
            · have hfin : chnA C s o' = rnd C (s % (C.length : Int)) o' := by
                unfold chnA rnd
                rw [Int.emod_add_emod]
              simp only [go_sem, Int.reduceToNat, Nat.reduceAdd, Nat.reduceBEq, Nat.reduceLeDiff, Nat.reduceLT, Nat.reduceMul, Nat.reduceSub, Int.reduceEq, Int.reduceLT, Int.reduceLE, Int.reduceNeg, hfin]
end C11
end Go.Sh
namespace Go.Sh
set_option linter.unusedSectionVars false
set_option linter.unnecessarySimpa false
set_option linter.unusedVariables false
set_option linter.unusedSimpArgs false
set_option maxRecDepth 100000
set_option maxHeartbeats 4000000
namespace C13
abbrev fr (k s d q o c m e t u v : Int) (x : ByteArray) : List SV := [.int .i64 k, .int .i64 s, .int .i64 d, .int .i64 q, .int .i64 o, .int .i64 c, .int .i64 m, .int .i64 e, .int .i64 t, .int .i64 u, .int .i64 v, .str x]
def inB (x h : Int) : Bool := decide (0 ≤ x) && decide (x ≤ h)
def erB (x : Int) : Bool := decide (-32768 ≤ x) && decide (x ≤ 32767)
theorem s196 (n : Nat) (H : Heap) (x h : Int) : call1 T (n + 1) (.fn 196) [.int .i64 x, .int .i64 h] H = some (.bool (inB x h), H) := by
  refine call_pure e196 (by rfl) ?_
  simp only [c196, heap0, go_sem, Int.reduceToNat, Nat.reduceAdd, Nat.reduceBEq, Nat.reduceLeDiff, Nat.reduceLT, Nat.reduceMul, Nat.reduceSub, Int.reduceEq, Int.reduceLT, Int.reduceLE, Int.reduceNeg, inB]
  repeat' (with_reducible refine fork_split (fun _ => ?_) (fun _ => ?_) <;> simp only [*, go_sem, Int.reduceToNat, Nat.reduceAdd, Nat.reduceBEq, Nat.reduceLeDiff, Nat.reduceLT, Nat.reduceMul, Nat.reduceSub, Int.reduceEq, Int.reduceLT, Int.reduceLE, Int.reduceNeg, inB])
theorem s142 (n : Nat) (H : Heap) (x h : Int) : call1 T (n + 1) (.fn 142) [.int .i64 x, .int .i64 h] H = some (.bool (inB x h), H) := by
  refine call_pure e142 (by rfl) ?_
  simp only [c142, heap0, go_sem, Int.reduceToNat, Nat.reduceAdd, Nat.reduceBEq, Nat.reduceLeDiff, Nat.reduceLT, Nat.reduceMul, Nat.reduceSub, Int.reduceEq, Int.reduceLT, Int.reduceLE, Int.reduceNeg, inB]
  repeat' (with_reducible refine fork_split (fun _ => ?_) (fun _ => ?_) <;> simp only [*, go_sem, Int.reduceToNat, Nat.reduceAdd, Nat.reduceBEq, Nat.reduceLeDiff, Nat.reduceLT, Nat.reduceMul, Nat.reduceSub, Int.reduceEq, Int.reduceLT, Int.reduceLE, Int.reduceNeg, inB])
theorem s214 (n : Nat) (H : Heap) (x : Int) : call1 T (n + 1) (.fn 214) [.int .i64 x] H = some (.bool (erB x), H) := by
  refine call_pure e214 (by rfl) ?_
  simp only [c214, heap0, go_sem, Int.reduceToNat, Nat.reduceAdd, Nat.reduceBEq, Nat.reduceLeDiff, Nat.reduceLT, Nat.reduceMul, Nat.reduceSub, Int.reduceEq, Int.reduceLT, Int.reduceLE, Int.reduceNeg, erB]
  repeat' (with_reducible refine fork_split (fun _ => ?_) (fun _ => ?_) <;> simp only [*, go_sem, Int.reduceToNat, Nat.reduceAdd, Nat.reduceBEq, Nat.reduceLeDiff, Nat.reduceLT, Nat.reduceMul, Nat.reduceSub, Int.reduceEq, Int.reduceLT, Int.reduceLE, Int.reduceNeg, erB])
def tgB (s d : Int) : Bool := inB d 31 && !decide (d = s)
theorem s213 (n : Nat) (H : Heap) (k s d q o c m e t u v : Int) (x : ByteArray) : call1 T (n + 2) (.fn 213) [.agg (fr k s d q o c m e t u v x)] H = some (.bool (tgB s d), H) := by
  refine call_pure e213 (by rfl) ?_
  simp only [c213, heap0, go_sem, Int.reduceToNat, Nat.reduceAdd, Nat.reduceBEq, Nat.reduceLeDiff, Nat.reduceLT, Nat.reduceMul, Nat.reduceSub, Int.reduceEq, Int.reduceLT, Int.reduceLE, Int.reduceNeg, tgB, s196]
  cases inB d 31 <;> simp only [go_sem, Int.reduceToNat, Nat.reduceAdd, Nat.reduceBEq, Nat.reduceLeDiff, Nat.reduceLT, Nat.reduceMul, Nat.reduceSub, Int.reduceEq, Int.reduceLT, Int.reduceLE, Int.reduceNeg, s196]
def fdV (k s d q o c m e t u v : Int) (x : ByteArray) : SV :=
  bif decide (k = 1) then .tup [.agg (fr k s d q o 0 0 e t u v ⟨#[]⟩), .bool (tgB s d && inB c 255 && inB m 65535)]
  else bif decide (k = 2) then .tup [.agg (fr k s d q o c m 0 t u v x), .bool (tgB s d && erB e)]
  else bif decide (k = 3) then .tup [.agg (fr k s d q o c m e 0 0 0 ⟨#[]⟩), .bool (decide (d = -1) && inB t 109951162 && inB u 65535 && inB v 65535)]
  else bif decide (k = 4) then .tup [.agg (fr k s d q o c m e t u v ⟨#[]⟩), .bool (decide (d = -1) || tgB s d)]
  else .tup [.agg (fr k s d q o c m e t u v x), .bool false]
theorem s195 (n : Nat) (H : Heap) (k s d q o c m e t u v : Int) (x : ByteArray) : call1 T (n + 3) (.fn 195) [.agg (fr k s d q o c m e t u v x)] H = some (fdV k s d q o c m e t u v x, H) := by
  refine call_pure e195 (by rfl) ?_
  simp only [c195, heap0, go_sem, Int.reduceToNat, Nat.reduceAdd, Nat.reduceBEq, Nat.reduceLeDiff, Nat.reduceLT, Nat.reduceMul, Nat.reduceSub, Int.reduceEq, Int.reduceLT, Int.reduceLE, Int.reduceNeg, s196, s214, s213]
  cases h1 : decide (k = 1) with
  | true =>
    simp only [go_sem, Int.reduceToNat, Nat.reduceAdd, Nat.reduceBEq, Nat.reduceLeDiff, Nat.reduceLT, Nat.reduceMul, Nat.reduceSub, Int.reduceEq, Int.reduceLT, Int.reduceLE, Int.reduceNeg, s196, s214, s213, fdV, h1]
    cases h5 : tgB s d <;> cases h6 : inB c 255 <;> simp only [go_sem, Int.reduceToNat, Nat.reduceAdd, Nat.reduceBEq, Nat.reduceLeDiff, Nat.reduceLT, Nat.reduceMul, Nat.reduceSub, Int.reduceEq, Int.reduceLT, Int.reduceLE, Int.reduceNeg, s196, s214, s213, h5, h6]
  | false =>
    cases h2 : decide (k = 2) with
    | true =>
      simp only [go_sem, Int.reduceToNat, Nat.reduceAdd, Nat.reduceBEq, Nat.reduceLeDiff, Nat.reduceLT, Nat.reduceMul, Nat.reduceSub, Int.reduceEq, Int.reduceLT, Int.reduceLE, Int.reduceNeg, s196, s214, s213, fdV, h1, h2]
      cases h5 : tgB s d <;> simp only [go_sem, Int.reduceToNat, Nat.reduceAdd, Nat.reduceBEq, Nat.reduceLeDiff, Nat.reduceLT, Nat.reduceMul, Nat.reduceSub, Int.reduceEq, Int.reduceLT, Int.reduceLE, Int.reduceNeg, s196, s214, s213, h5]
    | false =>
      cases h3 : decide (k = 3) with
      | true =>
        simp only [go_sem, Int.reduceToNat, Nat.reduceAdd, Nat.reduceBEq, Nat.reduceLeDiff, Nat.reduceLT, Nat.reduceMul, Nat.reduceSub, Int.reduceEq, Int.reduceLT, Int.reduceLE, Int.reduceNeg, s196, s214, s213, fdV, h1, h2, h3]
        cases h5 : decide (d = -1) <;> cases h6 : inB t 109951162 <;> cases h7 : inB u 65535 <;> simp only [go_sem, Int.reduceToNat, Nat.reduceAdd, Nat.reduceBEq, Nat.reduceLeDiff, Nat.reduceLT, Nat.reduceMul, Nat.reduceSub, Int.reduceEq, Int.reduceLT, Int.reduceLE, Int.reduceNeg, s196, s214, s213, h5, h6, h7]
      | false =>
        cases h4 : decide (k = 4) with
        | true =>
          simp only [go_sem, Int.reduceToNat, Nat.reduceAdd, Nat.reduceBEq, Nat.reduceLeDiff, Nat.reduceLT, Nat.reduceMul, Nat.reduceSub, Int.reduceEq, Int.reduceLT, Int.reduceLE, Int.reduceNeg, s196, s214, s213, fdV, h1, h2, h3, h4]
          cases h5 : decide (d = -1) <;> simp only [go_sem, Int.reduceToNat, Nat.reduceAdd, Nat.reduceBEq, Nat.reduceLeDiff, Nat.reduceLT, Nat.reduceMul, Nat.reduceSub, Int.reduceEq, Int.reduceLT, Int.reduceLE, Int.reduceNeg, s196, s214, s213, h5]
        | false => simp only [go_sem, Int.reduceToNat, Nat.reduceAdd, Nat.reduceBEq, Nat.reduceLeDiff, Nat.reduceLT, Nat.reduceMul, Nat.reduceSub, Int.reduceEq, Int.reduceLT, Int.reduceLE, Int.reduceNeg, fdV, h1, h2, h3, h4]
def z0 (c : Int) : Bool := decide (c = 0)
def chB (k s d q o c m e t u v : Int) (x : ByteArray) : Bool :=
  (bif decide (k = 1) then (tgB s d && inB c 255 && inB m 65535) && (decide (e = 0) && (decide (t = 0) && (decide (u = 0) && decide (v = 0))))
  else bif decide (k = 2) then (tgB s d && erB e) && (decide (c = 0) && (decide (m = 0) && (decide (t = 0) && (decide (u = 0) && (decide (v = 0) && decide (x = ⟨#[]⟩))))))
  else bif decide (k = 3) then (decide (d = -1) && inB t 109951162 && inB u 65535 && inB v 65535) && (decide (c = 0) && (decide (m = 0) && decide (e = 0)))
  else bif decide (k = 4) then (decide (d = -1) || tgB s d) && (decide (c = 0) && (decide (m = 0) && (decide (e = 0) && (decide (t = 0) && (decide (u = 0) && decide (v = 0))))))
  else false) && (inB s 31 && (inB q 255 && inB o 255))
theorem s174 (n : Nat) (H : Heap) (k s d q o c m e t u v : Int) (x : ByteArray) : call1 T (n + 4) (.fn 174) [.agg (fr k s d q o c m e t u v x)] H = some (.int .i64 (bif chB k s d q o c m e t u v x then 0 else 1), H) := by
  refine call_pure e174 (by rfl) ?_
  simp only [c174, heap0, go_sem, Int.reduceToNat, Nat.reduceAdd, Nat.reduceBEq, Nat.reduceLeDiff, Nat.reduceLT, Nat.reduceMul, Nat.reduceSub, Int.reduceEq, Int.reduceLT, Int.reduceLE, Int.reduceNeg, s195, s196]
  unfold fdV chB
  cases h1 : decide (k = 1) with
  | true =>
    cases h5 : (tgB s d && inB c 255 && inB m 65535) with
    | false => simp only [go_sem, Int.reduceToNat, Nat.reduceAdd, Nat.reduceBEq, Nat.reduceLeDiff, Nat.reduceLT, Nat.reduceMul, Nat.reduceSub, Int.reduceEq, Int.reduceLT, Int.reduceLE, Int.reduceNeg, s196, h1, h5]
    | true =>
      cases h6 : (decide (e = 0) && (decide (t = 0) && (decide (u = 0) && decide (v = 0)))) <;> simp only [go_sem, Int.reduceToNat, Nat.reduceAdd, Nat.reduceBEq, Nat.reduceLeDiff, Nat.reduceLT, Nat.reduceMul, Nat.reduceSub, Int.reduceEq, Int.reduceLT, Int.reduceLE, Int.reduceNeg, s196, h1, h5, h6]
      cases h7 : inB s 31 <;> cases h8 : inB q 255 <;> cases h9 : inB o 255 <;> simp only [go_sem, Int.reduceToNat, Nat.reduceAdd, Nat.reduceBEq, Nat.reduceLeDiff, Nat.reduceLT, Nat.reduceMul, Nat.reduceSub, Int.reduceEq, Int.reduceLT, Int.reduceLE, Int.reduceNeg, s196, h7, h8, h9]
  | false =>
    cases h2 : decide (k = 2) with
    | true =>
      cases h5 : (tgB s d && erB e) with
      | false => simp only [go_sem, Int.reduceToNat, Nat.reduceAdd, Nat.reduceBEq, Nat.reduceLeDiff, Nat.reduceLT, Nat.reduceMul, Nat.reduceSub, Int.reduceEq, Int.reduceLT, Int.reduceLE, Int.reduceNeg, s196, h1, h2, h5]
      | true =>
        cases h6 : (decide (c = 0) && (decide (m = 0) && (decide (t = 0) && (decide (u = 0) && (decide (v = 0) && decide (x = ⟨#[]⟩)))))) <;> simp only [go_sem, Int.reduceToNat, Nat.reduceAdd, Nat.reduceBEq, Nat.reduceLeDiff, Nat.reduceLT, Nat.reduceMul, Nat.reduceSub, Int.reduceEq, Int.reduceLT, Int.reduceLE, Int.reduceNeg, s196, h1, h2, h5, h6]
        cases h7 : inB s 31 <;> cases h8 : inB q 255 <;> cases h9 : inB o 255 <;> simp only [go_sem, Int.reduceToNat, Nat.reduceAdd, Nat.reduceBEq, Nat.reduceLeDiff, Nat.reduceLT, Nat.reduceMul, Nat.reduceSub, Int.reduceEq, Int.reduceLT, Int.reduceLE, Int.reduceNeg, s196, h7, h8, h9]
    | false =>
      cases h3 : decide (k = 3) with
      | true =>
        cases h5 : (decide (d = -1) && inB t 109951162 && inB u 65535 && inB v 65535) with
        | false => simp only [go_sem, Int.reduceToNat, Nat.reduceAdd, Nat.reduceBEq, Nat.reduceLeDiff, Nat.reduceLT, Nat.reduceMul, Nat.reduceSub, Int.reduceEq, Int.reduceLT, Int.reduceLE, Int.reduceNeg, s196, h1, h2, h3, h5]
        | true =>
          cases h6 : (decide (c = 0) && (decide (m = 0) && decide (e = 0))) <;> simp only [go_sem, Int.reduceToNat, Nat.reduceAdd, Nat.reduceBEq, Nat.reduceLeDiff, Nat.reduceLT, Nat.reduceMul, Nat.reduceSub, Int.reduceEq, Int.reduceLT, Int.reduceLE, Int.reduceNeg, s196, h1, h2, h3, h5, h6]
          cases h7 : inB s 31 <;> cases h8 : inB q 255 <;> cases h9 : inB o 255 <;> simp only [go_sem, Int.reduceToNat, Nat.reduceAdd, Nat.reduceBEq, Nat.reduceLeDiff, Nat.reduceLT, Nat.reduceMul, Nat.reduceSub, Int.reduceEq, Int.reduceLT, Int.reduceLE, Int.reduceNeg, s196, h7, h8, h9]
      | false =>
        cases h4 : decide (k = 4) with
        | true =>
          cases h5 : (decide (d = -1) || tgB s d) with
          | false => simp only [go_sem, Int.reduceToNat, Nat.reduceAdd, Nat.reduceBEq, Nat.reduceLeDiff, Nat.reduceLT, Nat.reduceMul, Nat.reduceSub, Int.reduceEq, Int.reduceLT, Int.reduceLE, Int.reduceNeg, s196, h1, h2, h3, h4, h5]
          | true =>
            cases h6 : (decide (c = 0) && (decide (m = 0) && (decide (e = 0) && (decide (t = 0) && (decide (u = 0) && decide (v = 0)))))) <;> simp only [go_sem, Int.reduceToNat, Nat.reduceAdd, Nat.reduceBEq, Nat.reduceLeDiff, Nat.reduceLT, Nat.reduceMul, Nat.reduceSub, Int.reduceEq, Int.reduceLT, Int.reduceLE, Int.reduceNeg, s196, h1, h2, h3, h4, h5, h6]
            cases h7 : inB s 31 <;> cases h8 : inB q 255 <;> cases h9 : inB o 255 <;> simp only [go_sem, Int.reduceToNat, Nat.reduceAdd, Nat.reduceBEq, Nat.reduceLeDiff, Nat.reduceLT, Nat.reduceMul, Nat.reduceSub, Int.reduceEq, Int.reduceLT, Int.reduceLE, Int.reduceNeg, s196, h7, h8, h9]
        | false => simp only [go_sem, Int.reduceToNat, Nat.reduceAdd, Nat.reduceBEq, Nat.reduceLeDiff, Nat.reduceLT, Nat.reduceMul, Nat.reduceSub, Int.reduceEq, Int.reduceLT, Int.reduceLE, Int.reduceNeg, s196, h1, h2, h3, h4]
end C13
end Go.Sh
namespace Go.Sh
set_option linter.unusedSectionVars false
set_option linter.unnecessarySimpa false
set_option linter.unusedVariables false
set_option linter.unusedSimpArgs false
set_option maxRecDepth 100000
set_option maxHeartbeats 4000000
namespace C13
def bt (b : Bool) : Nat := bif b then 1 else 0
theorem bt_le (b : Bool) : bt b ≤ 1 := by cases b <;> decide
def bitN (bs : List Bool) (i : Nat) : Nat := bt ((bs[i]?).getD false)
theorem bitN_le (bs : List Bool) (i : Nat) : bitN bs i ≤ 1 := bt_le _
theorem bitN_ge {bs : List Bool} {i : Nat} (h : bs.length ≤ i) : bitN bs i = 0 := by
  unfold bitN; rw [List.getElem?_eq_none h]; rfl
theorem bitN_add (bs : List Bool) (b : Bool) (i : Nat) : bitN (bs ++ [b]) i = bitN bs i + (if i = bs.length then bt b else 0) := by
  by_cases h : i = bs.length
  · subst h
    rw [if_pos rfl, bitN_ge (Nat.le_refl _)]
    simp [bitN]
  · rw [if_neg h]
    by_cases h2 : i < bs.length
    · simp [bitN, List.getElem?_append_left h2]
    · rw [bitN_ge (bs := bs) (by omega), bitN_ge (by simp; omega)]
def byteN (bs : List Bool) (j : Nat) : Nat :=
  bitN bs (8 * j) * 128 + bitN bs (8 * j + 1) * 64 + bitN bs (8 * j + 2) * 32 + bitN bs (8 * j + 3) * 16 + bitN bs (8 * j + 4) * 8 + bitN bs (8 * j + 5) * 4 + bitN bs (8 * j + 6) * 2 + bitN bs (8 * j + 7)
theorem byteN_lt (bs : List Bool) (j : Nat) : byteN bs j < 256 := by
  have := bitN_le bs (8 * j); have := bitN_le bs (8 * j + 1); have := bitN_le bs (8 * j + 2); have := bitN_le bs (8 * j + 3)
  have := bitN_le bs (8 * j + 4); have := bitN_le bs (8 * j + 5); have := bitN_le bs (8 * j + 6); have := bitN_le bs (8 * j + 7)
  unfold byteN; omega
theorem m8 (n : Nat) : n % 8 = 0 ∨ n % 8 = 1 ∨ n % 8 = 2 ∨ n % 8 = 3 ∨ n % 8 = 4 ∨ n % 8 = 5 ∨ n % 8 = 6 ∨ n % 8 = 7 := by omega
theorem byteN_ne {bs : List Bool} {b : Bool} {j : Nat} (h : j ≠ bs.length / 8) : byteN (bs ++ [b]) j = byteN bs j := by
  unfold byteN
  simp only [bitN_add]
  rw [if_neg (by omega), if_neg (by omega), if_neg (by omega), if_neg (by omega), if_neg (by omega), if_neg (by omega), if_neg (by omega), if_neg (by omega)]
  simp only [Nat.add_zero]
theorem byteN_eq (bs : List Bool) (b : Bool) : byteN (bs ++ [b]) (bs.length / 8) = byteN bs (bs.length / 8) + bt b * 2 ^ (7 - bs.length % 8) := by
  unfold byteN
  simp only [bitN_add]
  rcases m8 bs.length with h | h | h | h | h | h | h | h <;> rw [h]
  · rw [if_pos (by omega), if_neg (by omega), if_neg (by omega), if_neg (by omega), if_neg (by omega), if_neg (by omega), if_neg (by omega), if_neg (by omega)]; omega
  · rw [if_neg (by omega), if_pos (by omega), if_neg (by omega), if_neg (by omega), if_neg (by omega), if_neg (by omega), if_neg (by omega), if_neg (by omega)]; omega
  · rw [if_neg (by omega), if_neg (by omega), if_pos (by omega), if_neg (by omega), if_neg (by omega), if_neg (by omega), if_neg (by omega), if_neg (by omega)]; omega
  · rw [if_neg (by omega), if_neg (by omega), if_neg (by omega), if_pos (by omega), if_neg (by omega), if_neg (by omega), if_neg (by omega), if_neg (by omega)]; omega
  · rw [if_neg (by omega), if_neg (by omega), if_neg (by omega), if_neg (by omega), if_pos (by omega), if_neg (by omega), if_neg (by omega), if_neg (by omega)]; omega
  · rw [if_neg (by omega), if_neg (by omega), if_neg (by omega), if_neg (by omega), if_neg (by omega), if_pos (by omega), if_neg (by omega), if_neg (by omega)]; omega
  · rw [if_neg (by omega), if_neg (by omega), if_neg (by omega), if_neg (by omega), if_neg (by omega), if_neg (by omega), if_pos (by omega), if_neg (by omega)]; omega
  · rw [if_neg (by omega), if_neg (by omega), if_neg (by omega), if_neg (by omega), if_neg (by omega), if_neg (by omega), if_neg (by omega), if_pos (by omega)]; omega
theorem byteN_div (bs : List Bool) : ∃ a, byteN bs (bs.length / 8) = 2 ^ (8 - bs.length % 8) * a := by
  have z : ∀ k, bs.length % 8 ≤ k → bitN bs (8 * (bs.length / 8) + k) = 0 := fun k hk => bitN_ge (by omega)
  unfold byteN
  rcases m8 bs.length with h | h | h | h | h | h | h | h <;> rw [h] at z ⊢
  · rw [z 1 (by omega), z 2 (by omega), z 3 (by omega), z 4 (by omega), z 5 (by omega), z 6 (by omega), z 7 (by omega), show bitN bs (8 * (bs.length / 8)) = 0 from z 0 (by omega)]; exact ⟨0, by omega⟩
  · rw [z 1 (by omega), z 2 (by omega), z 3 (by omega), z 4 (by omega), z 5 (by omega), z 6 (by omega), z 7 (by omega)]; exact ⟨bitN bs (8 * (bs.length / 8)), by omega⟩
  · rw [z 2 (by omega), z 3 (by omega), z 4 (by omega), z 5 (by omega), z 6 (by omega), z 7 (by omega)]; exact ⟨bitN bs (8 * (bs.length / 8)) * 2 + bitN bs (8 * (bs.length / 8) + 1), by omega⟩
  · rw [z 3 (by omega), z 4 (by omega), z 5 (by omega), z 6 (by omega), z 7 (by omega)]; exact ⟨bitN bs (8 * (bs.length / 8)) * 4 + bitN bs (8 * (bs.length / 8) + 1) * 2 + bitN bs (8 * (bs.length / 8) + 2), by omega⟩
  · rw [z 4 (by omega), z 5 (by omega), z 6 (by omega), z 7 (by omega)]; exact ⟨bitN bs (8 * (bs.length / 8)) * 8 + bitN bs (8 * (bs.length / 8) + 1) * 4 + bitN bs (8 * (bs.length / 8) + 2) * 2 + bitN bs (8 * (bs.length / 8) + 3), by omega⟩
  · rw [z 5 (by omega), z 6 (by omega), z 7 (by omega)]; exact ⟨bitN bs (8 * (bs.length / 8)) * 16 + bitN bs (8 * (bs.length / 8) + 1) * 8 + bitN bs (8 * (bs.length / 8) + 2) * 4 + bitN bs (8 * (bs.length / 8) + 3) * 2 + bitN bs (8 * (bs.length / 8) + 4), by omega⟩
  · rw [z 6 (by omega), z 7 (by omega)]; exact ⟨bitN bs (8 * (bs.length / 8)) * 32 + bitN bs (8 * (bs.length / 8) + 1) * 16 + bitN bs (8 * (bs.length / 8) + 2) * 8 + bitN bs (8 * (bs.length / 8) + 3) * 4 + bitN bs (8 * (bs.length / 8) + 4) * 2 + bitN bs (8 * (bs.length / 8) + 5), by omega⟩
  · rw [z 7 (by omega)]; exact ⟨bitN bs (8 * (bs.length / 8)) * 64 + bitN bs (8 * (bs.length / 8) + 1) * 32 + bitN bs (8 * (bs.length / 8) + 2) * 16 + bitN bs (8 * (bs.length / 8) + 3) * 8 + bitN bs (8 * (bs.length / 8) + 4) * 4 + bitN bs (8 * (bs.length / 8) + 5) * 2 + bitN bs (8 * (bs.length / 8) + 6), by omega⟩
theorem bt_pow (b : Bool) (r : Nat) (h : r < 8) : bt b * 2 ^ (7 - r) < 2 ^ (8 - r) := by
  have : 2 ^ (8 - r) = 2 * 2 ^ (7 - r) := by rw [show 8 - r = (7 - r) + 1 by omega, Nat.pow_succ, Nat.mul_comm]
  have hp : 0 < 2 ^ (7 - r) := Nat.pow_pos (by decide)
  cases b <;> simp [bt] <;> omega
theorem byteN_or (bs : List Bool) (b : Bool) : (byteN bs (bs.length / 8) ||| bt b * 2 ^ (7 - bs.length % 8)) = byteN (bs ++ [b]) (bs.length / 8) := by
  rw [byteN_eq]
  obtain ⟨a, ha⟩ := byteN_div bs
  rw [ha]
  exact (Nat.two_pow_add_eq_or_of_lt (bt_pow b _ (Nat.mod_lt _ (by decide))) a).symm
def nb (n : Nat) : Nat := (n + 7) / 8
def pkS (bs : List Bool) : List (List SV) := (List.range (nb bs.length)).map fun j => [.int .u8 (byteN bs j : Nat)]
@[go_sem] theorem pkS_len {bs : List Bool} : (pkS bs).length = nb bs.length := by simp [pkS]
theorem pkS_get {bs : List Bool} {j : Nat} (h : j < nb bs.length) : (pkS bs)[j]? = some [.int .u8 (byteN bs j : Nat)] := by simp [pkS, h]
theorem pkS_set {bs : List Bool} {b : Bool} (h : bs.length % 8 ≠ 0) : (pkS bs).set (bs.length / 8) [.int .u8 (byteN (bs ++ [b]) (bs.length / 8) : Nat)] = pkS (bs ++ [b]) := by
  have e : nb (bs.length + 1) = nb bs.length := by unfold nb; omega
  apply List.ext_getElem?
  intro j
  rw [List.getElem?_set]
  by_cases hj : j < nb bs.length
  · rw [pkS_get (bs := bs ++ [b]) (by simp [e, hj])]
    by_cases h2 : bs.length / 8 = j
    · subst h2
      rw [if_pos rfl, if_pos (by rw [pkS_len]; exact hj)]
    · rw [if_neg h2, pkS_get hj, byteN_ne (fun h => h2 h.symm)]
  · rw [if_neg (show ¬ bs.length / 8 = j by unfold nb at hj; omega), List.getElem?_eq_none (by rw [pkS_len]; omega), List.getElem?_eq_none (by rw [pkS_len, List.length_append]; simp [e]; omega)]
theorem pkS_app {bs : List Bool} {b : Bool} (h : bs.length % 8 = 0) : (pkS bs ++ [[SV.int .u8 0]]).set (bs.length / 8) [.int .u8 (byteN (bs ++ [b]) (bs.length / 8) : Nat)] = pkS (bs ++ [b]) := by
  have e : nb (bs.length + 1) = nb bs.length + 1 := by unfold nb; omega
  have e2 : nb bs.length = bs.length / 8 := by unfold nb; omega
  apply List.ext_getElem?
  intro j
  rw [List.getElem?_set]
  by_cases hj : j < nb bs.length + 1
  · rw [pkS_get (bs := bs ++ [b]) (by simp [e, hj])]
    by_cases h2 : bs.length / 8 = j
    · subst h2
      rw [if_pos rfl, if_pos (by rw [List.length_append, pkS_len]; simp; omega)]
    · rw [if_neg h2, List.getElem?_append_left (by rw [pkS_len]; omega), pkS_get (by omega), byteN_ne (fun h => h2 h.symm)]
  · rw [if_neg (show ¬ bs.length / 8 = j by omega), List.getElem?_eq_none (by rw [List.length_append, pkS_len]; simp; omega), List.getElem?_eq_none (by rw [pkS_len, List.length_append]; simp [e]; omega)]
theorem pkS_get0 {bs : List Bool} (h : bs.length % 8 = 0) : (pkS bs ++ [[SV.int .u8 0]])[bs.length / 8]? = some [.int .u8 (byteN bs (bs.length / 8) : Nat)] := by
  have e2 : nb bs.length = bs.length / 8 := by unfold nb; omega
  have z : ∀ k, bitN bs (8 * (bs.length / 8) + k) = 0 := fun k => bitN_ge (by omega)
  have hb : byteN bs (bs.length / 8) = 0 := by
    unfold byteN
    rw [z 1, z 2, z 3, z 4, z 5, z 6, z 7, show bitN bs (8 * (bs.length / 8)) = 0 from z 0]
  rw [hb, ← e2, ← pkS_len (bs := bs), List.getElem?_append_right (Nat.le_refl _)]
  simp
theorem pkS_get1 {bs : List Bool} (h : bs.length % 8 ≠ 0) : (pkS bs)[bs.length / 8]? = some [.int .u8 (byteN bs (bs.length / 8) : Nat)] := pkS_get (by unfold nb; omega)
def bits (w v : Nat) : List Bool := (List.range w).map fun i => v.testBit (w - 1 - i)
theorem bits_len (w v : Nat) : (bits w v).length = w := by simp [bits]
theorem bits_take {w v j : Nat} (h : j < w) : (bits w v).take (j + 1) = (bits w v).take j ++ [v.testBit (w - 1 - j)] := by
  rw [List.take_add_one]
  simp [bits, h]
end C13
end Go.Sh
namespace Go.Sh
set_option linter.unusedSectionVars false
set_option linter.unnecessarySimpa false
set_option linter.unusedVariables false
set_option linter.unusedSimpArgs false
set_option maxRecDepth 100000
set_option maxHeartbeats 4000000
namespace C13
abbrev wB (bs : List Bool) : SBlk := .box [.slc 2 (nb bs.length) 0 (nb bs.length), .int .i64 bs.length, .int .i64 0]
abbrev wA (bs : List Bool) : SBlk := .arr (nb bs.length) 1 (pkS bs) false
@[go_sem] theorem tm8 (n : Nat) : (n : Int).tmod 8 = ((n % 8 : Nat) : Int) := by rw [Int.tmod_eq_emod_of_nonneg (by omega)]; rfl
@[go_sem] theorem td8 (n : Nat) : (n : Int).tdiv 8 = ((n / 8 : Nat) : Int) := by rw [Int.tdiv_eq_ediv_of_nonneg (by omega)]; rfl
theorem wrap8 {n : Int} (h0 : 0 ≤ n) (h1 : n ≤ 255) : IntKind.u8.wrap n = n := by
  have e : IntKind.u8.wrap n = n % 256 := by simp [IntKind.wrap, IntKind.bits, IntKind.signed]
  rw [e]; omega
theorem wrapU64 {n : Int} (h0 : 0 ≤ n) (h1 : n < 2 ^ 64) : IntKind.u64.wrap n = n := by
  have e : IntKind.u64.wrap n = n % 18446744073709551616 := by simp [IntKind.wrap, IntKind.bits, IntKind.signed]
  rw [e]; omega
theorem fdiv_nat (B j : Nat) : ((B : Int).fdiv (2 ^ j)) = ((B / 2 ^ j : Nat) : Int) := by
  have h : ((2 : Int) ^ j) = ((2 ^ j : Nat) : Int) := by rw [Int.natCast_pow]; rfl
  rw [h, Int.fdiv_eq_ediv_of_nonneg _ (Int.natCast_nonneg _), Int.natCast_ediv]
theorem ofInt_nat (a : Nat) (h : a < 2 ^ 64) : (BitVec.ofInt 64 (a : Int)).toNat = a := by
  rw [BitVec.toNat_ofInt]
  omega
theorem ofInt_nat8 (a : Nat) (h : a < 256) : (BitVec.ofInt 8 (a : Int)).toNat = a := by
  rw [BitVec.toNat_ofInt]
  omega
theorem bt_bit (v i : Nat) : bt (v.testBit i) = v / 2 ^ i % 2 := by
  rw [Nat.testBit_eq_decide_div_mod_eq]
  unfold bt
  rcases Nat.mod_two_eq_zero_or_one (v / 2 ^ i) with h | h <;> rw [h] <;> rfl
theorem bit_of {v i : Nat} (hv : v < 2 ^ 64) (hi : i < 64) : IntKind.u64.wrap ((BitVec.ofInt 64 ((v : Int).fdiv (2 ^ min i 64)) &&& BitVec.ofInt 64 1).toNat : Nat) = (bt (v.testBit i) : Nat) := by
  have h2 : v / 2 ^ i ≤ v := Nat.div_le_self _ _
  have h3 : (BitVec.ofInt 64 1).toNat = 1 := by decide
  rw [Nat.min_eq_left (by omega), fdiv_nat, BitVec.toNat_and, ofInt_nat _ (by omega), h3, Nat.and_one_is_mod, bt_bit]
  exact wrapU64 (by omega) (by omega)
theorem put_bit {v i : Nat} (B : List Bool) (hv : v < 2 ^ 64) (hi : i < 64) : IntKind.u8.wrap ((BitVec.ofInt 8 (byteN B (B.length / 8) : Nat) ||| BitVec.ofInt 8 (IntKind.u8.wrap (IntKind.u8.wrap (IntKind.u64.wrap ((BitVec.ofInt 64 ((v : Int).fdiv (2 ^ min i 64)) &&& BitVec.ofInt 64 1).toNat : Nat)) * 2 ^ min (7 - B.length % 8) 8))).toNat : Nat) = (byteN (B ++ [v.testBit i]) (B.length / 8) : Nat) := by
  have hb := bt_le (v.testBit i)
  have h1 := bt_pow (v.testBit i) (B.length % 8) (Nat.mod_lt _ (by decide))
  have h2 : 2 ^ (8 - B.length % 8) ≤ 2 ^ 8 := Nat.pow_le_pow_right (by decide) (by omega)
  have h3 : bt (v.testBit i) * 2 ^ (7 - B.length % 8) < 256 := by omega
  have h4 := byteN_lt B (B.length / 8)
  have h5 := byteN_lt (B ++ [v.testBit i]) (B.length / 8)
  have h6 : ((bt (v.testBit i) : Nat) : Int) * 2 ^ (7 - B.length % 8) = ((bt (v.testBit i) * 2 ^ (7 - B.length % 8) : Nat) : Int) := by rw [Int.natCast_mul, Int.natCast_pow]; rfl
  rw [bit_of hv hi, wrap8 (n := ((bt (v.testBit i) : Nat) : Int)) (by omega) (by omega), Nat.min_eq_left (by omega), h6, wrap8 (n := ((bt (v.testBit i) * 2 ^ (7 - B.length % 8) : Nat) : Int)) (by omega) (by omega), BitVec.toNat_or, ofInt_nat8 _ h4, ofInt_nat8 _ h3, byteN_or]
  exact wrap8 (by omega) (by omega)
theorem s241 (n : Nat) (b0 : SBlk) (tl : List SBlk) (es : List (Nat × Nat)) (bs : List Bool) (w v : Nat) (hw : w ≤ 63) (hv : v < 2 ^ 64) (hb : bs.length + w ≤ 600000) :
    call1 T (n + 1) (.fn 241) [.ptr 1 0 0 0, .int .i64 w, .int .u64 v] ⟨b0 :: wB bs :: wA bs :: tl, es, 0⟩ =
      some (.tup [], ⟨b0 :: wB (bs ++ bits w v) :: wA (bs ++ bits w v) :: tl, es ++ List.replicate (nb (bs.length + w) - nb bs.length) (1, 3), 0⟩) := by
  refine call_in e241 (by rfl) ?_
  simp only [c241, go_sem, Int.reduceToNat, Nat.reduceAdd, Nat.reduceBEq, Nat.reduceLeDiff, Nat.reduceLT, Nat.reduceMul, Nat.reduceSub, Int.reduceEq, Int.reduceLT, Int.reduceLE, Int.reduceNeg]
  have hw1 : w64 ((w : Int) - 1) = (w : Int) - 1 := w64_id (by omega) (by omega)
  have hN : decide (max 2 0 ≤ tl.length + 1 + 1 + 1) = true := decide_eq_true (by omega)
  have l0 : decide (0 < tl.length + 1 + 1 + 1) = true := decide_eq_true (by omega)
  have l1 : decide (1 < tl.length + 1 + 1 + 1) = true := decide_eq_true (by omega)
  have l2 : decide (2 < tl.length + 1 + 1 + 1) = true := decide_eq_true (by omega)
  have l3' : decide (tl.length + 1 + 1 + 1 < 3) = false := decide_eq_false (by omega)
  have l3 : decide (3 ≤ tl.length + 1 + 1 + 1) = true := decide_eq_true (by omega)
  refine loop_rule (fun j => ([(0, .ptr 1 0 0 0), (2, .int .u64 v), (6, .int .i64 ((w : Int) - 1 - (j : Int)))], ⟨b0 :: wB (bs ++ (bits w v).take j) :: wA (bs ++ (bits w v).take j) :: tl, List.replicate (nb (bs.length + j) - nb bs.length) (1, 3), 0⟩)) (fun _ => True) w ?_ trivial ?_
  · simp only [go_sem, Int.reduceToNat, Nat.reduceAdd, Nat.reduceBEq, Nat.reduceLeDiff, Nat.reduceLT, Nat.reduceMul, Nat.reduceSub, Int.reduceEq, Int.reduceLT, Int.reduceLE, Int.reduceNeg, hw1, List.take_zero, List.append_nil, Nat.sub_self, List.replicate_zero, Nat.add_zero, Int.sub_zero, hN, Int.natCast_zero, Int.ofNat_zero]
    try rfl
  · intro j hj _
    rcases Nat.lt_or_ge j w with hlt | hge
    · have hx : decide ((0 : Int) ≤ (w : Int) - 1 - j) = true := decide_eq_true (by omega)
      have hs : w64 ((w : Int) - 1 - j - 1) = (w : Int) - 1 - (j + 1 : Nat) := by rw [w64_id (by omega) (by omega)]; omega
      have hB : (bs ++ (bits w v).take j).length = bs.length + j := by rw [List.length_append, List.length_take, bits_len]; omega
      have hB' : bs ++ (bits w v).take (j + 1) = (bs ++ (bits w v).take j) ++ [v.testBit (w - 1 - j)] := by rw [bits_take hlt, List.append_assoc]
      obtain ⟨b, hb'⟩ : ∃ b, v.testBit (w - 1 - j) = b := ⟨_, rfl⟩
      obtain ⟨B, hBd⟩ : ∃ B, bs ++ (bits w v).take j = B := ⟨_, rfl⟩
      rw [hb', hBd] at hB'
      rw [hBd] at hB
      have gb := fun H => apB_grow 1 H 2 (nb B.length) (nb B.length) [[.int .u8 0]] (pkS B) pkS_len
      have hw8 : w64 ((B.length / 8 : Nat) : Int) = ((B.length / 8 : Nat) : Int) := w64_id (by omega) (by omega)
      have hw7 : w64 (7 - ((B.length % 8 : Nat) : Int)) = ((7 - B.length % 8 : Nat) : Int) := by rw [w64_id (by omega) (by omega)]; omega
      have hnn : ∀ n : Nat, decide ((n : Int) < 0) = false := fun n => decide_eq_false (by omega)
      have hi : ((w : Int) - 1 - j).toNat = w - 1 - j := by omega
      have hE := put_bit (v := v) (i := w - 1 - j) B hv (by omega)
      rw [hb'] at hE
      have hw1' : w64 ((B.length : Int) + 1) = ((B.length + 1 : Nat) : Int) := by rw [w64_id (by omega) (by omega)]; omega
      have hl1 : (B ++ [b]).length = B.length + 1 := by simp
      by_cases h8 : B.length % 8 = 0
      · have hq : decide (((B.length % 8 : Nat) : Int) = 0) = true := decide_eq_true (by omega)
        have hr : decide ((nb B.length + 1) * 1 ≤ mostLen) = true := decide_eq_true (Nat.le_trans (show (nb B.length + 1) * 1 ≤ 1000000 by unfold nb; omega) (by decide))
        have e1 : nb (B.length + 1) = nb B.length + 1 := by unfold nb; omega
        have e2 : nb (bs.length + (j + 1)) - nb bs.length = nb (bs.length + j) - nb bs.length + 1 := by unfold nb; omega
        have g0 := pkS_get0 h8
        have hlt1 : decide (B.length / 8 < nb B.length + 1) = true := decide_eq_true (by unfold nb; omega)
        simp only [go_sem, Int.reduceToNat, Nat.reduceAdd, Nat.reduceBEq, Nat.reduceLeDiff, Nat.reduceLT, Nat.reduceMul, Nat.reduceSub, Int.reduceEq, Int.reduceLT, Int.reduceLE, Int.reduceNeg, hw8, hw7, g0, hlt1, Int.toNat_natCast, hx, hq, hBd, gb, hr, l0, l1, l2, l3, l3', hN, hi, hE, hw1', hs, hB', hl1, e1, e2, List.replicate_succ, List.filter_replicate, List.all_replicate, ite_self, if_true]
        refine ⟨hlt, ?_, trivial⟩
        erw [hE, pkS_app h8]
        simp only [wB, wA, hl1, e1]
      · have hq : decide (((B.length % 8 : Nat) : Int) = 0) = false := decide_eq_false (by omega)
        have e1 : nb (B.length + 1) = nb B.length := by unfold nb; omega
        have e2 : nb (bs.length + (j + 1)) - nb bs.length = nb (bs.length + j) - nb bs.length := by unfold nb; omega
        have g0 := pkS_get1 h8
        have hlt1 : decide (B.length / 8 < nb B.length) = true := decide_eq_true (by unfold nb; omega)
        simp only [go_sem, Int.reduceToNat, Nat.reduceAdd, Nat.reduceBEq, Nat.reduceLeDiff, Nat.reduceLT, Nat.reduceMul, Nat.reduceSub, Int.reduceEq, Int.reduceLT, Int.reduceLE, Int.reduceNeg, hw8, hw7, g0, hlt1, Int.toNat_natCast, hx, hq, hBd, l0, l1, l2, l3, l3', hN, hi, hE, hw1', hs, hB', hl1, e1, e2, List.filter_replicate, List.all_replicate, ite_self, if_true]
        refine ⟨hlt, ?_, trivial⟩
        erw [hE, pkS_set h8]
        simp only [wB, wA, hl1, e1]
    · obtain rfl : j = w := by omega
      have hx : decide ((0 : Int) ≤ (j : Int) - 1 - j) = false := decide_eq_false (by omega)
      have ht : (bits j v).take j = bits j v := List.take_of_length_le (by rw [bits_len]; exact Nat.le_refl _)
      simp only [go_sem, Int.reduceToNat, Nat.reduceAdd, Nat.reduceBEq, Nat.reduceLeDiff, Nat.reduceLT, Nat.reduceMul, Nat.reduceSub, Int.reduceEq, Int.reduceLT, Int.reduceLE, Int.reduceNeg, hx, ht, hN, l0, l1, l2, l3, l3', List.filter_replicate, List.all_replicate, ite_self, if_true]
end C13
end Go.Sh
namespace Go.Sh
set_option linter.unusedSectionVars false
set_option linter.unnecessarySimpa false
set_option linter.unusedVariables false
set_option linter.unusedSimpArgs false
set_option maxRecDepth 100000
set_option maxHeartbeats 4000000
namespace C13
def lenN (x : Nat) : Nat := if x = 0 then 0 else x.log2 + 1
theorem lenN_le {x w : Nat} : lenN x ≤ w ↔ x < 2 ^ w := by
  unfold lenN
  by_cases h : x = 0
  · subst h; simp; exact Nat.pow_pos (by decide)
  · rw [if_neg h, Nat.succ_le_iff, Nat.log2_lt h]
theorem lenN_div {x k : Nat} (h : 2 ^ k ≤ x) : lenN (x / 2 ^ k) + k = lenN x := by
  have key : ∀ w, lenN (x / 2 ^ k) + k ≤ w ↔ lenN x ≤ w := fun w => by
    by_cases hw : k ≤ w
    · obtain ⟨d, rfl⟩ := Nat.exists_eq_add_of_le hw
      rw [show (lenN (x / 2 ^ k) + k ≤ k + d) ↔ lenN (x / 2 ^ k) ≤ d by omega, lenN_le, lenN_le, Nat.pow_add, Nat.div_lt_iff_lt_mul (Nat.pow_pos (by decide)), Nat.mul_comm]
    · rw [lenN_le]
      have h2 : 2 ^ w ≤ 2 ^ k := Nat.pow_le_pow_right (by decide) (by omega)
      omega
  exact Nat.le_antisymm ((key _).2 (Nat.le_refl _)) ((key _).1 (Nat.le_refl _))
def lenS : ByteArray := ⟨⟨[0, 1, 2, 2, 3, 3, 3, 3, 4, 4, 4, 4, 4, 4, 4, 4, 5, 5, 5, 5, 5, 5, 5, 5, 5, 5, 5, 5, 5, 5, 5, 5, 6, 6, 6, 6, 6, 6, 6, 6, 6, 6, 6, 6, 6, 6, 6, 6, 6, 6, 6, 6, 6, 6, 6, 6, 6, 6, 6, 6, 6, 6, 6, 6, 7, 7, 7, 7, 7, 7, 7, 7, 7, 7, 7, 7, 7, 7, 7, 7, 7, 7, 7, 7, 7, 7, 7, 7, 7, 7, 7, 7, 7, 7, 7, 7, 7, 7, 7, 7, 7, 7, 7, 7, 7, 7, 7, 7, 7, 7, 7, 7, 7, 7, 7, 7, 7, 7, 7, 7, 7, 7, 7, 7, 7, 7, 7, 7, 8, 8, 8, 8, 8, 8, 8, 8, 8, 8, 8, 8, 8, 8, 8, 8, 8, 8, 8, 8, 8, 8, 8, 8, 8, 8, 8, 8, 8, 8, 8, 8, 8, 8, 8, 8, 8, 8, 8, 8, 8, 8, 8, 8, 8, 8, 8, 8, 8, 8, 8, 8, 8, 8, 8, 8, 8, 8, 8, 8, 8, 8, 8, 8, 8, 8, 8, 8, 8, 8, 8, 8, 8, 8, 8, 8, 8, 8, 8, 8, 8, 8, 8, 8, 8, 8, 8, 8, 8, 8, 8, 8, 8, 8, 8, 8, 8, 8, 8, 8, 8, 8, 8, 8, 8, 8, 8, 8, 8, 8, 8, 8, 8, 8, 8, 8, 8, 8, 8, 8, 8, 8, 8, 8, 8, 8, 8, 8]⟩⟩
theorem lenS_get : ∀ i : Fin 256, lenS.data[(i : Nat)]? = some (UInt8.ofNat (lenN i)) := by decide
theorem fd32 (x : Nat) : (x : Int).fdiv (2 ^ min 32 64) = ((x / 2 ^ 32 : Nat) : Int) := by rw [show min 32 64 = 32 from rfl, fdiv_nat]
theorem fd16 (x : Nat) : (x : Int).fdiv (2 ^ min 16 64) = ((x / 2 ^ 16 : Nat) : Int) := by rw [show min 16 64 = 16 from rfl, fdiv_nat]
theorem fd8 (x : Nat) : (x : Int).fdiv (2 ^ min 8 64) = ((x / 2 ^ 8 : Nat) : Int) := by rw [show min 8 64 = 8 from rfl, fdiv_nat]
theorem u8N {x : Nat} (h : x < 256) : IntKind.u8.wrap (x : Int) = x := wrap8 (by omega) (by omega)
theorem lenS_at {x : Nat} (h : x < 256) : lenS.data[x]? = some (UInt8.ofNat (lenN x)) := lenS_get ⟨x, h⟩
theorem ofNat_toNat {a : Nat} (h : a < 256) : (UInt8.ofNat a).toNat = a := by
  simp [UInt8.toNat_ofNat, Nat.mod_eq_of_lt h]
theorem wn1 : w64 (32 + 16) = 48 := by decide
theorem wn2 : w64 (48 + 8) = 56 := by decide
theorem wn3 : w64 (0 + 16) = 16 := by decide
theorem wn4 : w64 (16 + 8) = 24 := by decide
theorem wn5 : w64 (32 + 8) = 40 := by decide
theorem wn6 : w64 (0 + 8) = 8 := by decide
theorem lenS_size : lenS.size = 256 := by rfl
theorem s246 (n : Nat) (H : Heap) (x : Nat) (h : x < 2 ^ 64) : call1 T (n + 1) (.fn 246) [.int .u64 x] H = some (.int .i64 (lenN x), H) := by
  refine call_pure e246 (by rfl) ?_
  simp only [c246, heap0, go_sem, Int.reduceToNat, Nat.reduceAdd, Nat.reduceBEq, Nat.reduceLeDiff, Nat.reduceLT, Nat.reduceMul, Nat.reduceSub, Int.reduceEq, Int.reduceLT, Int.reduceLE, Int.reduceNeg]
  rw [← lenS]
  by_cases h32 : 4294967296 ≤ x
  · have hd32 : decide ((4294967296 : Int) ≤ (x : Int)) = true := decide_eq_true (by omega)
    have hl32 := lenN_div (x := x) (k := 32) (by omega)
    obtain ⟨y32, hy32⟩ : ∃ z, x / 2 ^ 32 = z := ⟨_, rfl⟩
    rw [hy32] at hl32
    have hb32 : y32 < 4294967296 := by omega
    by_cases h16 : 65536 ≤ y32
    · have hd16 : decide ((65536 : Int) ≤ (y32 : Int)) = true := decide_eq_true (by omega)
      have hl16 := lenN_div (x := y32) (k := 16) (by omega)
      obtain ⟨y16, hy16⟩ : ∃ z, y32 / 2 ^ 16 = z := ⟨_, rfl⟩
      rw [hy16] at hl16
      have hb16 : y16 < 65536 := by omega
      by_cases h8 : 256 ≤ y16
      · have hd8 : decide ((256 : Int) ≤ (y16 : Int)) = true := decide_eq_true (by omega)
        have hl8 := lenN_div (x := y16) (k := 8) (by omega)
        obtain ⟨y8, hy8⟩ : ∃ z, y16 / 2 ^ 8 = z := ⟨_, rfl⟩
        rw [hy8] at hl8
        have hb8 : y8 < 256 := by omega
        have hu := u8N (x := y8) (by omega)
        have hg := lenS_at (x := y8) (by omega)
        have hn : (UInt8.ofNat (lenN y8)).toNat = lenN y8 := by have := (lenN_le (x := y8) (w := 8)).2 (by omega); exact ofNat_toNat (by omega)
        have hn2 : lenN y8 ≤ 8 := (lenN_le (x := y8) (w := 8)).2 (by omega)
        have hz : decide ((y8 : Int) < 256) = true := decide_eq_true (by omega)
        have hz0 : decide ((0 : Int) ≤ (y8 : Int)) = true := decide_eq_true (by omega)
        have hw1 : w64 ((lenN y8 : Nat) : Int) = (lenN y8 : Nat) := w64_id (by omega) (by omega)
        have hw2 : w64 (56 + ((lenN y8 : Nat) : Int)) = (lenN x : Nat) := by rw [w64_id (by omega) (by omega)]; omega
        simp only [go_sem, Int.reduceToNat, Nat.reduceAdd, Nat.reduceBEq, Nat.reduceLeDiff, Nat.reduceLT, Nat.reduceMul, Nat.reduceSub, Int.reduceEq, Int.reduceLT, Int.reduceLE, Int.reduceNeg, hd32, fd32, hy32, hd16, fd16, hy16, hd8, fd8, hy8, hu, hg, hn, hz, hz0, hw1, hw2, lenS_size, Int.toNat_natCast, wn1, wn2, wn3, wn4, wn5, wn6]
        try rfl
      · have hd8 : decide ((256 : Int) ≤ (y16 : Int)) = false := decide_eq_false (by omega)
        have hu := u8N (x := y16) (by omega)
        have hg := lenS_at (x := y16) (by omega)
        have hn : (UInt8.ofNat (lenN y16)).toNat = lenN y16 := by have := (lenN_le (x := y16) (w := 8)).2 (by omega); exact ofNat_toNat (by omega)
        have hn2 : lenN y16 ≤ 8 := (lenN_le (x := y16) (w := 8)).2 (by omega)
        have hz : decide ((y16 : Int) < 256) = true := decide_eq_true (by omega)
        have hz0 : decide ((0 : Int) ≤ (y16 : Int)) = true := decide_eq_true (by omega)
        have hw1 : w64 ((lenN y16 : Nat) : Int) = (lenN y16 : Nat) := w64_id (by omega) (by omega)
        have hw2 : w64 (48 + ((lenN y16 : Nat) : Int)) = (lenN x : Nat) := by rw [w64_id (by omega) (by omega)]; omega
        simp only [go_sem, Int.reduceToNat, Nat.reduceAdd, Nat.reduceBEq, Nat.reduceLeDiff, Nat.reduceLT, Nat.reduceMul, Nat.reduceSub, Int.reduceEq, Int.reduceLT, Int.reduceLE, Int.reduceNeg, hd32, fd32, hy32, hd16, fd16, hy16, hd8, hu, hg, hn, hz, hz0, hw1, hw2, lenS_size, Int.toNat_natCast, wn1, wn2, wn3, wn4, wn5, wn6]
        try rfl
    · have hd16 : decide ((65536 : Int) ≤ (y32 : Int)) = false := decide_eq_false (by omega)
      by_cases h8 : 256 ≤ y32
      · have hd8 : decide ((256 : Int) ≤ (y32 : Int)) = true := decide_eq_true (by omega)
        have hl8 := lenN_div (x := y32) (k := 8) (by omega)
        obtain ⟨y8, hy8⟩ : ∃ z, y32 / 2 ^ 8 = z := ⟨_, rfl⟩
        rw [hy8] at hl8
        have hb8 : y8 < 256 := by omega
        have hu := u8N (x := y8) (by omega)
        have hg := lenS_at (x := y8) (by omega)
        have hn : (UInt8.ofNat (lenN y8)).toNat = lenN y8 := by have := (lenN_le (x := y8) (w := 8)).2 (by omega); exact ofNat_toNat (by omega)
        have hn2 : lenN y8 ≤ 8 := (lenN_le (x := y8) (w := 8)).2 (by omega)
        have hz : decide ((y8 : Int) < 256) = true := decide_eq_true (by omega)
        have hz0 : decide ((0 : Int) ≤ (y8 : Int)) = true := decide_eq_true (by omega)
        have hw1 : w64 ((lenN y8 : Nat) : Int) = (lenN y8 : Nat) := w64_id (by omega) (by omega)
        have hw2 : w64 (40 + ((lenN y8 : Nat) : Int)) = (lenN x : Nat) := by rw [w64_id (by omega) (by omega)]; omega
        simp only [go_sem, Int.reduceToNat, Nat.reduceAdd, Nat.reduceBEq, Nat.reduceLeDiff, Nat.reduceLT, Nat.reduceMul, Nat.reduceSub, Int.reduceEq, Int.reduceLT, Int.reduceLE, Int.reduceNeg, hd32, fd32, hy32, hd16, hd8, fd8, hy8, hu, hg, hn, hz, hz0, hw1, hw2, lenS_size, Int.toNat_natCast, wn1, wn2, wn3, wn4, wn5, wn6]
        try rfl
      · have hd8 : decide ((256 : Int) ≤ (y32 : Int)) = false := decide_eq_false (by omega)
        have hu := u8N (x := y32) (by omega)
        have hg := lenS_at (x := y32) (by omega)
        have hn : (UInt8.ofNat (lenN y32)).toNat = lenN y32 := by have := (lenN_le (x := y32) (w := 8)).2 (by omega); exact ofNat_toNat (by omega)
        have hn2 : lenN y32 ≤ 8 := (lenN_le (x := y32) (w := 8)).2 (by omega)
        have hz : decide ((y32 : Int) < 256) = true := decide_eq_true (by omega)
        have hz0 : decide ((0 : Int) ≤ (y32 : Int)) = true := decide_eq_true (by omega)
        have hw1 : w64 ((lenN y32 : Nat) : Int) = (lenN y32 : Nat) := w64_id (by omega) (by omega)
        have hw2 : w64 (32 + ((lenN y32 : Nat) : Int)) = (lenN x : Nat) := by rw [w64_id (by omega) (by omega)]; omega
        simp only [go_sem, Int.reduceToNat, Nat.reduceAdd, Nat.reduceBEq, Nat.reduceLeDiff, Nat.reduceLT, Nat.reduceMul, Nat.reduceSub, Int.reduceEq, Int.reduceLT, Int.reduceLE, Int.reduceNeg, hd32, fd32, hy32, hd16, hd8, hu, hg, hn, hz, hz0, hw1, hw2, lenS_size, Int.toNat_natCast, wn1, wn2, wn3, wn4, wn5, wn6]
        try rfl
  · have hd32 : decide ((4294967296 : Int) ≤ (x : Int)) = false := decide_eq_false (by omega)
    by_cases h16 : 65536 ≤ x
    · have hd16 : decide ((65536 : Int) ≤ (x : Int)) = true := decide_eq_true (by omega)
      have hl16 := lenN_div (x := x) (k := 16) (by omega)
      obtain ⟨y16, hy16⟩ : ∃ z, x / 2 ^ 16 = z := ⟨_, rfl⟩
      rw [hy16] at hl16
      have hb16 : y16 < 65536 := by omega
      by_cases h8 : 256 ≤ y16
      · have hd8 : decide ((256 : Int) ≤ (y16 : Int)) = true := decide_eq_true (by omega)
        have hl8 := lenN_div (x := y16) (k := 8) (by omega)
        obtain ⟨y8, hy8⟩ : ∃ z, y16 / 2 ^ 8 = z := ⟨_, rfl⟩
        rw [hy8] at hl8
        have hb8 : y8 < 256 := by omega
        have hu := u8N (x := y8) (by omega)
        have hg := lenS_at (x := y8) (by omega)
        have hn : (UInt8.ofNat (lenN y8)).toNat = lenN y8 := by have := (lenN_le (x := y8) (w := 8)).2 (by omega); exact ofNat_toNat (by omega)
        have hn2 : lenN y8 ≤ 8 := (lenN_le (x := y8) (w := 8)).2 (by omega)
        have hz : decide ((y8 : Int) < 256) = true := decide_eq_true (by omega)
        have hz0 : decide ((0 : Int) ≤ (y8 : Int)) = true := decide_eq_true (by omega)
        have hw1 : w64 ((lenN y8 : Nat) : Int) = (lenN y8 : Nat) := w64_id (by omega) (by omega)
        have hw2 : w64 (24 + ((lenN y8 : Nat) : Int)) = (lenN x : Nat) := by rw [w64_id (by omega) (by omega)]; omega
        simp only [go_sem, Int.reduceToNat, Nat.reduceAdd, Nat.reduceBEq, Nat.reduceLeDiff, Nat.reduceLT, Nat.reduceMul, Nat.reduceSub, Int.reduceEq, Int.reduceLT, Int.reduceLE, Int.reduceNeg, hd32, hd16, fd16, hy16, hd8, fd8, hy8, hu, hg, hn, hz, hz0, hw1, hw2, lenS_size, Int.toNat_natCast, wn1, wn2, wn3, wn4, wn5, wn6]
        try rfl
      · have hd8 : decide ((256 : Int) ≤ (y16 : Int)) = false := decide_eq_false (by omega)
        have hu := u8N (x := y16) (by omega)
        have hg := lenS_at (x := y16) (by omega)
        have hn : (UInt8.ofNat (lenN y16)).toNat = lenN y16 := by have := (lenN_le (x := y16) (w := 8)).2 (by omega); exact ofNat_toNat (by omega)
        have hn2 : lenN y16 ≤ 8 := (lenN_le (x := y16) (w := 8)).2 (by omega)
        have hz : decide ((y16 : Int) < 256) = true := decide_eq_true (by omega)
        have hz0 : decide ((0 : Int) ≤ (y16 : Int)) = true := decide_eq_true (by omega)
        have hw1 : w64 ((lenN y16 : Nat) : Int) = (lenN y16 : Nat) := w64_id (by omega) (by omega)
        have hw2 : w64 (16 + ((lenN y16 : Nat) : Int)) = (lenN x : Nat) := by rw [w64_id (by omega) (by omega)]; omega
        simp only [go_sem, Int.reduceToNat, Nat.reduceAdd, Nat.reduceBEq, Nat.reduceLeDiff, Nat.reduceLT, Nat.reduceMul, Nat.reduceSub, Int.reduceEq, Int.reduceLT, Int.reduceLE, Int.reduceNeg, hd32, hd16, fd16, hy16, hd8, hu, hg, hn, hz, hz0, hw1, hw2, lenS_size, Int.toNat_natCast, wn1, wn2, wn3, wn4, wn5, wn6]
        try rfl
    · have hd16 : decide ((65536 : Int) ≤ (x : Int)) = false := decide_eq_false (by omega)
      by_cases h8 : 256 ≤ x
      · have hd8 : decide ((256 : Int) ≤ (x : Int)) = true := decide_eq_true (by omega)
        have hl8 := lenN_div (x := x) (k := 8) (by omega)
        obtain ⟨y8, hy8⟩ : ∃ z, x / 2 ^ 8 = z := ⟨_, rfl⟩
        rw [hy8] at hl8
        have hb8 : y8 < 256 := by omega
        have hu := u8N (x := y8) (by omega)
        have hg := lenS_at (x := y8) (by omega)
        have hn : (UInt8.ofNat (lenN y8)).toNat = lenN y8 := by have := (lenN_le (x := y8) (w := 8)).2 (by omega); exact ofNat_toNat (by omega)
        have hn2 : lenN y8 ≤ 8 := (lenN_le (x := y8) (w := 8)).2 (by omega)
        have hz : decide ((y8 : Int) < 256) = true := decide_eq_true (by omega)
        have hz0 : decide ((0 : Int) ≤ (y8 : Int)) = true := decide_eq_true (by omega)
        have hw1 : w64 ((lenN y8 : Nat) : Int) = (lenN y8 : Nat) := w64_id (by omega) (by omega)
        have hw2 : w64 (8 + ((lenN y8 : Nat) : Int)) = (lenN x : Nat) := by rw [w64_id (by omega) (by omega)]; omega
        simp only [go_sem, Int.reduceToNat, Nat.reduceAdd, Nat.reduceBEq, Nat.reduceLeDiff, Nat.reduceLT, Nat.reduceMul, Nat.reduceSub, Int.reduceEq, Int.reduceLT, Int.reduceLE, Int.reduceNeg, hd32, hd16, hd8, fd8, hy8, hu, hg, hn, hz, hz0, hw1, hw2, lenS_size, Int.toNat_natCast, wn1, wn2, wn3, wn4, wn5, wn6]
        try rfl
      · have hd8 : decide ((256 : Int) ≤ (x : Int)) = false := decide_eq_false (by omega)
        have hu := u8N (x := x) (by omega)
        have hg := lenS_at (x := x) (by omega)
        have hn : (UInt8.ofNat (lenN x)).toNat = lenN x := by have := (lenN_le (x := x) (w := 8)).2 (by omega); exact ofNat_toNat (by omega)
        have hn2 : lenN x ≤ 8 := (lenN_le (x := x) (w := 8)).2 (by omega)
        have hz : decide ((x : Int) < 256) = true := decide_eq_true (by omega)
        have hz0 : decide ((0 : Int) ≤ (x : Int)) = true := decide_eq_true (by omega)
        have hw1 : w64 ((lenN x : Nat) : Int) = (lenN x : Nat) := w64_id (by omega) (by omega)
        have hw2 : w64 (0 + ((lenN x : Nat) : Int)) = (lenN x : Nat) := by rw [w64_id (by omega) (by omega)]; omega
        simp only [go_sem, Int.reduceToNat, Nat.reduceAdd, Nat.reduceBEq, Nat.reduceLeDiff, Nat.reduceLT, Nat.reduceMul, Nat.reduceSub, Int.reduceEq, Int.reduceLT, Int.reduceLE, Int.reduceNeg, hd32, hd16, hd8, hu, hg, hn, hz, hz0, hw1, hw2, lenS_size, Int.toNat_natCast, wn1, wn2, wn3, wn4, wn5, wn6]
        try rfl
end C13
end Go.Sh
namespace Go.Sh
set_option linter.unusedSectionVars false
set_option linter.unnecessarySimpa false
set_option linter.unusedVariables false
set_option linter.unusedSimpArgs false
set_option maxRecDepth 100000
set_option maxHeartbeats 4000000
namespace C13
abbrev wH (b0 : SBlk) (bs : List Bool) (tl : List SBlk) (es : List (Nat × Nat)) : Heap := ⟨b0 :: wB bs :: wA bs :: tl, es, 0⟩
abbrev ek (bs : List Bool) (w : Nat) : List (Nat × Nat) := List.replicate (nb (bs.length + w) - nb bs.length) (1, 3)
theorem s233 (n : Nat) (H : Heap) (x : Nat) (h : x < 2 ^ 64) : call1 T (n + 2) (.fn 233) [.int .u64 x] H = some (.int .i64 (lenN x), H) := by
  refine call_pure e233 (by rfl) ?_
  simp only [c233, heap0, go_sem, Int.reduceToNat, Nat.reduceAdd, Nat.reduceBEq, Nat.reduceLeDiff, Nat.reduceLT, Nat.reduceMul, Nat.reduceSub, Int.reduceEq, Int.reduceLT, Int.reduceLE, Int.reduceNeg, s246 _ _ _ h]
theorem s239 (n : Nat) (H : Heap) (x : Int) : call1 T (n + 1) (.fn 239) [.int .i64 x] H = some (.bool (decide (1 ≤ x) && decide (x ≤ 4095)), H) := by
  refine call_pure e239 (by rfl) ?_
  simp only [c239, heap0, go_sem, Int.reduceToNat, Nat.reduceAdd, Nat.reduceBEq, Nat.reduceLeDiff, Nat.reduceLT, Nat.reduceMul, Nat.reduceSub, Int.reduceEq, Int.reduceLT, Int.reduceLE, Int.reduceNeg]
  repeat' (with_reducible refine fork_split (fun _ => ?_) (fun _ => ?_) <;> simp only [*, go_sem, Int.reduceToNat, Nat.reduceAdd, Nat.reduceBEq, Nat.reduceLeDiff, Nat.reduceLT, Nat.reduceMul, Nat.reduceSub, Int.reduceEq, Int.reduceLT, Int.reduceLE, Int.reduceNeg])
theorem s240 (n : Nat) (H : Heap) : call1 T (n + 3) (.fn 240) [.int .i64 127] H = some (.int .i64 7, H) := by
  refine call_pure e240 (by rfl) ?_
  have h : ∀ H, call1 T (n + 2) (.fn 233) [.int .u64 127] H = some (.int .i64 7, H) := fun H => s233 n H 127 (by decide)
  have e : IntKind.u64.wrap 127 = 127 := by decide
  have e3 : max (1 : Int) 7 = 7 := by decide
  simp only [c240, heap0, go_sem, Int.reduceToNat, Nat.reduceAdd, Nat.reduceBEq, Nat.reduceLeDiff, Nat.reduceLT, Nat.reduceMul, Nat.reduceSub, Int.reduceEq, Int.reduceLT, Int.reduceLE, Int.reduceNeg, e, h, e3]
section
variable (b0 : SBlk) (tl : List SBlk) (es : List (Nat × Nat)) (bs : List Bool)
theorem s231 (n : Nat) (w v : Nat) (v' : Int) (hw : w ≤ 63) (hv : v < 2 ^ 64) (hv' : IntKind.u64.wrap v' = v) (hb : bs.length + w ≤ 524288) :
    call1 T (n + 2) (.fn 231) [.ptr 1 0 0 0, .bool true, .bool true, .int .i64 w, .int .i64 v'] (wH b0 bs tl es) = some (.tup [], wH b0 (bs ++ bits w v) tl (es ++ ek bs w)) := by
  refine call_in e231 (by rfl) ?_
  have h := fun es => s241 n b0 tl es bs w v hw hv (by omega)
  have hx : decide (((bs.length : Int)) + w > 524288) = false := decide_eq_false (by omega)
  have hx2 : decide ((524288 : Int) < (bs.length : Int) + w) = false := decide_eq_false (by omega)
  have hs : w64 ((bs.length : Int) + w) = bs.length + w := w64_id (by omega) (by omega)
  have l0 : decide (0 < tl.length + 1 + 1 + 1) = true := decide_eq_true (by omega)
  have l1 : decide (1 < tl.length + 1 + 1 + 1) = true := decide_eq_true (by omega)
  have l2 : decide (2 < tl.length + 1 + 1 + 1) = true := decide_eq_true (by omega)
  have l3' : decide (tl.length + 1 + 1 + 1 < 3) = false := decide_eq_false (by omega)
  have l3 : decide (3 ≤ tl.length + 1 + 1 + 1) = true := decide_eq_true (by omega)
  simp only [c231, go_sem, Int.reduceToNat, Nat.reduceAdd, Nat.reduceBEq, Nat.reduceLeDiff, Nat.reduceLT, Nat.reduceMul, Nat.reduceSub, Int.reduceEq, Int.reduceLT, Int.reduceLE, Int.reduceNeg, hs, hx, hx2, hv', h, l0, l1, l2, l3, l3', List.filter_replicate, List.all_replicate, ite_self, if_true]
theorem s220 (n : Nat) (f : Bool) (hb : bs.length + 1 ≤ 524288) :
    call1 T (n + 3) (.fn 220) [.ptr 1 0 0 0, .bool f] (wH b0 bs tl es) = some (.tup [], wH b0 (bs ++ bits 1 (bt f)) tl (es ++ ek bs 1)) := by
  refine call_in e220 (by rfl) ?_
  have h := fun es => s231 b0 tl es bs n 1 (bt f) (bt f) (by omega) (by have := bt_le f; omega) (by have := bt_le f; exact wrapU64 (by omega) (by omega)) hb
  have l1 : decide (1 < tl.length + 1 + 1 + 1) = true := decide_eq_true (by omega)
  have l3' : decide (tl.length + 1 + 1 + 1 < 3) = false := decide_eq_false (by omega)
  have l3 : decide (3 ≤ tl.length + 1 + 1 + 1) = true := decide_eq_true (by omega)
  cases f with
  | false =>
    have h : ∀ es, call1 T (n + 2) (.fn 231) [.ptr 1 0 0 0, .bool true, .bool true, .int .i64 1, .int .i64 0] (wH b0 bs tl es) = some (.tup [], wH b0 (bs ++ bits 1 0) tl (es ++ ek bs 1)) := h
    simp only [c220, bt, go_sem, Int.reduceToNat, Nat.reduceAdd, Nat.reduceBEq, Nat.reduceLeDiff, Nat.reduceLT, Nat.reduceMul, Nat.reduceSub, Int.reduceEq, Int.reduceLT, Int.reduceLE, Int.reduceNeg, h, l1, l3, l3', List.filter_replicate, List.all_replicate, ite_self, if_true]
  | true =>
    have h : ∀ es, call1 T (n + 2) (.fn 231) [.ptr 1 0 0 0, .bool true, .bool true, .int .i64 1, .int .i64 1] (wH b0 bs tl es) = some (.tup [], wH b0 (bs ++ bits 1 1) tl (es ++ ek bs 1)) := h
    simp only [c220, bt, go_sem, Int.reduceToNat, Nat.reduceAdd, Nat.reduceBEq, Nat.reduceLeDiff, Nat.reduceLT, Nat.reduceMul, Nat.reduceSub, Int.reduceEq, Int.reduceLT, Int.reduceLE, Int.reduceNeg, h, l1, l3, l3', List.filter_replicate, List.all_replicate, ite_self, if_true]
theorem s218 (n : Nat) (w v : Nat) (h1 : 1 ≤ w) (hw : w ≤ 62) (hv : v < 2 ^ w) (hb : bs.length + w ≤ 524288) :
    call1 T (n + 3) (.fn 218) [.ptr 1 0 0 0, .int .i64 w, .int .i64 v] (wH b0 bs tl es) = some (.tup [], wH b0 (bs ++ bits w v) tl (es ++ ek bs w)) := by
  refine call_in e218 (by rfl) ?_
  have h63 : 2 ^ w ≤ 2 ^ 62 := Nat.pow_le_pow_right (by decide) hw
  have hv' : IntKind.u64.wrap (v : Int) = v := wrapU64 (by omega) (by omega)
  have h := fun es => s231 b0 tl es bs n w v v (by omega) (by omega) hv' hb
  have h97 := fun H => s233 n H v (by omega)
  have hl := (lenN_le (x := v) (w := w)).2 hv
  have x1 : decide ((1 : Int) ≤ w) = true := decide_eq_true (by omega)
  have x2 : decide ((w : Int) ≤ 63) = true := decide_eq_true (by omega)
  have x3 : decide (((lenN v : Nat) : Int) ≤ w) = true := decide_eq_true (by omega)
  have l1 : decide (1 < tl.length + 1 + 1 + 1) = true := decide_eq_true (by omega)
  have l3' : decide (tl.length + 1 + 1 + 1 < 3) = false := decide_eq_false (by omega)
  have l3 : decide (3 ≤ tl.length + 1 + 1 + 1) = true := decide_eq_true (by omega)
  simp only [c218, go_sem, Int.reduceToNat, Nat.reduceAdd, Nat.reduceBEq, Nat.reduceLeDiff, Nat.reduceLT, Nat.reduceMul, Nat.reduceSub, Int.reduceEq, Int.reduceLT, Int.reduceLE, Int.reduceNeg, h, h97, hv', x1, x2, x3, l1, l3, l3', List.filter_replicate, List.all_replicate, ite_self, if_true]
end
end C13
end Go.Sh
namespace Go.Sh
set_option linter.unusedSectionVars false
set_option linter.unnecessarySimpa false
set_option linter.unusedVariables false
set_option linter.unusedSimpArgs false
set_option maxRecDepth 100000
set_option maxHeartbeats 4000000
namespace C13
def sgN (x : Int) : Nat := (x % 18446744073709551616).toNat
theorem sgN_lt (x : Int) : sgN x < 2 ^ 64 := by unfold sgN; omega
theorem sgN_wrap (x : Int) : IntKind.u64.wrap x = (sgN x : Nat) := by
  have e : IntKind.u64.wrap x = x % 18446744073709551616 := by simp [IntKind.wrap, IntKind.bits, IntKind.signed]
  unfold sgN; rw [e]; omega
theorem ek_add {bs bs' : List Bool} {a b : Nat} (h : bs'.length = bs.length + a) : ek bs a ++ ek bs' b = ek bs (a + b) := by
  unfold ek
  rw [List.replicate_append_replicate, h]
  congr 1
  unfold nb; omega
section
variable (b0 : SBlk) (tl : List SBlk) (es : List (Nat × Nat)) (bs : List Bool)
theorem s216 (n : Nat) (x : Int) (h0 : -32768 ≤ x) (h1 : x ≤ 32767) (hb : bs.length + 16 ≤ 524288) :
    call1 T (n + 3) (.fn 216) [.ptr 1 0 0 0, .int .i64 16, .int .i64 x] (wH b0 bs tl es) = some (.tup [], wH b0 (bs ++ bits 16 (sgN x)) tl (es ++ ek bs 16)) := by
  refine call_in e216 (by rfl) ?_
  have h : ∀ es, call1 T (n + 2) (.fn 231) [.ptr 1 0 0 0, .bool true, .bool true, .int .i64 16, .int .i64 x] (wH b0 bs tl es) = some (.tup [], wH b0 (bs ++ bits 16 (sgN x)) tl (es ++ ek bs 16)) := fun es => s231 b0 tl es bs n 16 (sgN x) x (by omega) (sgN_lt x) (sgN_wrap x) hb
  have x1 : decide (-32768 ≤ x) = true := decide_eq_true h0
  have x2 : decide (x ≤ 32767) = true := decide_eq_true h1
  have m1 : max (16 : Int) 1 = 16 := by decide
  have m2 : w64 (16 - 1) = 15 := by decide
  have m3 : w64 (-1 * 2 ^ min 15 64) = -32768 := by decide
  have m4 : w64 (1 * 2 ^ min 15 64) = 32768 := by decide
  have m5 : w64 (32768 - 1) = 32767 := by decide
  have l1 : decide (1 < tl.length + 1 + 1 + 1) = true := decide_eq_true (by omega)
  have l3' : decide (tl.length + 1 + 1 + 1 < 3) = false := decide_eq_false (by omega)
  have l3 : decide (3 ≤ tl.length + 1 + 1 + 1) = true := decide_eq_true (by omega)
  simp only [c216, go_sem, Int.reduceToNat, Nat.reduceAdd, Nat.reduceBEq, Nat.reduceLeDiff, Nat.reduceLT, Nat.reduceMul, Nat.reduceSub, Int.reduceEq, Int.reduceLT, Int.reduceLE, Int.reduceNeg, h, x1, x2, m1, m2, m3, m4, m5, l1, l3, l3', List.filter_replicate, List.all_replicate, ite_self, if_true]
def txB (x : ByteArray) : Nat → List Bool
  | 0 => []
  | i + 1 => txB x i ++ bits 8 ((x.data[i]?).getD 0).toNat
theorem txB_len (x : ByteArray) : ∀ i, (txB x i).length = 8 * i
  | 0 => rfl
  | i + 1 => by simp only [txB, List.length_append, txB_len x i, bits_len]; omega
theorem s229 (n : Nat) (x : ByteArray) (hx : x.size ≤ 127) (hb : bs.length ≤ 1000) :
    call1 T (n + 4) (.fn 229) [.ptr 1 0 0 0, .int .i64 127, .str x] (wH b0 bs tl es) = some (.tup [], wH b0 (bs ++ bits 7 x.size ++ txB x x.size) tl (es ++ ek bs (7 + 8 * x.size))) := by
  refine call_in e229 (by rfl) ?_
  have h101 := fun H => s239 (n + 2) H 127
  have h102 := fun H => s240 n H
  have x1 : decide ((127 : Int) < (x.size : Int)) = false := decide_eq_false (by omega)
  have w1 : w64 ((bs.length : Int) + 7) = (bs.length : Int) + 7 := w64_id (by omega) (by omega)
  have w2 : w64 (8 * (x.size : Int)) = 8 * (x.size : Int) := w64_id (by omega) (by omega)
  have w3 : w64 ((bs.length : Int) + 7 + 8 * (x.size : Int)) = (bs.length : Int) + 7 + 8 * (x.size : Int) := w64_id (by omega) (by omega)
  have x2 : decide ((524288 : Int) < (bs.length : Int) + 7 + 8 * (x.size : Int)) = false := decide_eq_false (by omega)
  have hu : IntKind.u64.wrap (x.size : Int) = (x.size : Nat) := wrapU64 (by omega) (by omega)
  have h103 : ∀ es, call1 T (n + 3) (.fn 241) [.ptr 1 0 0 0, .int .i64 7, .int .u64 x.size] (wH b0 bs tl es) = some (.tup [], wH b0 (bs ++ bits 7 x.size) tl (es ++ ek bs 7)) := fun es => s241 (n + 2) b0 tl es bs 7 x.size (by omega) (by omega) (by omega)
  have l0 : decide (0 < tl.length + 1 + 1 + 1) = true := decide_eq_true (by omega)
  have l1 : decide (1 < tl.length + 1 + 1 + 1) = true := decide_eq_true (by omega)
  have l2 : decide (2 < tl.length + 1 + 1 + 1) = true := decide_eq_true (by omega)
  have l3' : decide (tl.length + 1 + 1 + 1 < 3) = false := decide_eq_false (by omega)
  have l3 : decide (3 ≤ tl.length + 1 + 1 + 1) = true := decide_eq_true (by omega)
  have hN : decide (max 2 0 ≤ tl.length + 1 + 1 + 1) = true := decide_eq_true (by omega)
  simp only [c229, go_sem, Int.reduceToNat, Nat.reduceAdd, Nat.reduceBEq, Nat.reduceLeDiff, Nat.reduceLT, Nat.reduceMul, Nat.reduceSub, Int.reduceEq, Int.reduceLT, Int.reduceLE, Int.reduceNeg, h101, h102, x1, w1, w2, w3, x2, hu, h103, l0, l1, l2, l3, l3', List.filter_replicate, List.all_replicate, ite_self, if_true]
  have hP : (bs ++ bits 7 x.size).length = bs.length + 7 := by rw [List.length_append, bits_len]
  obtain ⟨P, hPd⟩ : ∃ P, bs ++ bits 7 x.size = P := ⟨_, rfl⟩
  rw [hPd] at hP ⊢
  rw [← ek_add (bs' := P) (by omega), ← List.append_assoc]
  have hx2 : x.size ≤ maxLen := Nat.le_trans hx (by decide)
  refine loop_rule (fun i => ([(0, .ptr 1 0 0 0), (2, .str x), (15, .int .i64 x.size), (16, .int .i64 i)], ⟨b0 :: wB (P ++ txB x i) :: wA (P ++ txB x i) :: tl, ek P (8 * i), 0⟩)) (fun _ => True) x.size ?_ trivial ?_
  · simp only [go_sem, Int.reduceToNat, Nat.reduceAdd, Nat.reduceBEq, Nat.reduceLeDiff, Nat.reduceLT, Nat.reduceMul, Nat.reduceSub, Int.reduceEq, Int.reduceLT, Int.reduceLE, Int.reduceNeg, hN, l0, l1, l2, l3, l3', txB, List.append_nil, Nat.mul_zero, Nat.add_zero, Nat.sub_self, List.replicate_zero]
    rw [show ek P 0 = [] by simp [ek]]
  · intro i hi _
    rcases Nat.lt_or_ge i x.size with hlt | hge
    · have hs := w64_suc hlt hx2
      have hd : x.data[i]? = some x.data[i] := Array.getElem?_eq_getElem (by exact hlt)
      have hv := UInt8.toNat_lt x.data[i]
      have hu8 : IntKind.u64.wrap ((x.data[i].toNat : Nat) : Int) = (x.data[i].toNat : Nat) := wrapU64 (by omega) (by omega)
      have h1 : ∀ es, call1 T (n + 3) (.fn 241) [.ptr 1 0 0 0, .int .i64 8, .int .u64 (x.data[i].toNat : Nat)] (wH b0 (P ++ txB x i) tl es) = some (.tup [], wH b0 (P ++ txB x i ++ bits 8 x.data[i].toNat) tl (es ++ ek (P ++ txB x i) 8)) :=
        fun es => s241 (n + 2) b0 tl es (P ++ txB x i) 8 x.data[i].toNat (by omega) (by omega) (by rw [List.length_append, txB_len]; omega)
      have hB : P ++ txB x i ++ bits 8 x.data[i].toNat = P ++ txB x (i + 1) := by simp only [txB, hd, Option.getD_some, List.append_assoc]
      have hE : ek P (8 * i) ++ ek (P ++ txB x i) 8 = ek P (8 * (i + 1)) := by rw [ek_add (by rw [List.length_append, txB_len])]; rfl
      rw [hB] at h1
      simp only [go_sem, Int.reduceToNat, Nat.reduceAdd, Nat.reduceBEq, Nat.reduceLeDiff, Nat.reduceLT, Nat.reduceMul, Nat.reduceSub, Int.reduceEq, Int.reduceLT, Int.reduceLE, Int.reduceNeg, hlt, hd, hu8, h1, hE, hs, hN, l0, l1, l2, l3, l3', List.filter_replicate, List.all_replicate, ite_self, if_true]
      refine ⟨by first | trivial | omega, by first | trivial | rfl, trivial⟩
    · obtain rfl : i = x.size := by omega
      have hd : decide (x.size < x.size) = false := decide_eq_false (by omega)
      simp only [go_sem, Int.reduceToNat, Nat.reduceAdd, Nat.reduceBEq, Nat.reduceLeDiff, Nat.reduceLT, Nat.reduceMul, Nat.reduceSub, Int.reduceEq, Int.reduceLT, Int.reduceLE, Int.reduceNeg, hd, hN, l0, l1, l2, l3, l3', List.filter_replicate, List.all_replicate, List.filter_append, List.all_append, ite_self, if_true, Bool.and_self, List.append_assoc]
end
end C13
end Go.Sh
namespace Go.Sh
set_option linter.unusedSectionVars false
set_option linter.unnecessarySimpa false
set_option linter.unusedVariables false
set_option linter.unusedSimpArgs false
set_option maxRecDepth 100000
set_option maxHeartbeats 4000000
namespace C13
abbrev pW : SV := .agg [.ptr 1 0 0 0, .nilPtr]
section
variable (n : Nat) (cs : List SV) (t1 t2 t3 : SBlk) (es : List (Nat × Nat)) (bs : List Bool)
theorem s61a (w v j : Nat) (hj : cs[j]? = some (.int .i64 v)) (h1 : 1 ≤ w) (hw : w ≤ 62) (hv : v < 2 ^ w) (hb : bs.length + w ≤ 524288) :
    call1 T (n + 4) (.fn 201) [pW, .int .i64 w, .ptr 0 0 0 j] (wH (.box cs) bs [t1, t2] es) = some (.tup [], wH (.box cs) (bs ++ bits w v) [t1, t2] (es ++ ek bs w)) := by
  refine call_in e201 (by rfl) ?_
  have h := fun t es => s218 (.box cs) [t1, t2, t] es bs n w v h1 hw hv hb
  simp only [c201, go_sem, Int.reduceToNat, Nat.reduceAdd, Nat.reduceBEq, Nat.reduceLeDiff, Nat.reduceLT, Nat.reduceMul, Nat.reduceSub, Int.reduceEq, Int.reduceLT, Int.reduceLE, Int.reduceNeg, h, hj, List.length_cons, List.length_nil, List.filter_replicate, List.all_replicate, ite_self, if_true]
theorem s61b (w v j : Nat) (hj : cs[j]? = some (.int .i64 v)) (h1 : 1 ≤ w) (hw : w ≤ 62) (hv : v < 2 ^ w) (hb : bs.length + w ≤ 524288) :
    call1 T (n + 4) (.fn 201) [pW, .int .i64 w, .ptr 0 0 0 j] (wH (.box cs) bs [t1, t2, t3] es) = some (.tup [], wH (.box cs) (bs ++ bits w v) [t1, t2, t3] (es ++ ek bs w)) := by
  refine call_in e201 (by rfl) ?_
  have h := fun t es => s218 (.box cs) [t1, t2, t3, t] es bs n w v h1 hw hv hb
  simp only [c201, go_sem, Int.reduceToNat, Nat.reduceAdd, Nat.reduceBEq, Nat.reduceLeDiff, Nat.reduceLT, Nat.reduceMul, Nat.reduceSub, Int.reduceEq, Int.reduceLT, Int.reduceLE, Int.reduceNeg, h, hj, List.length_cons, List.length_nil, List.filter_replicate, List.all_replicate, List.filter_append, List.all_append, Bool.and_self, List.append_assoc, ite_self, if_true]
theorem s215 (x : ByteArray) (j : Nat) (hj : cs[j]? = some (.str x)) (hx : x.size ≤ 127) (hb : bs.length ≤ 1000) :
    call1 T (n + 5) (.fn 215) [pW, .ptr 0 0 0 j] (wH (.box cs) bs [t1, t2, t3] es) = some (.tup [], wH (.box cs) (bs ++ bits 7 x.size ++ txB x x.size) [t1, t2, t3] (es ++ ek bs (7 + 8 * x.size))) := by
  refine call_in e215 (by rfl) ?_
  have h := fun t es => s229 (.box cs) [t1, t2, t3, t] es bs n x hx hb
  simp only [c215, go_sem, Int.reduceToNat, Nat.reduceAdd, Nat.reduceBEq, Nat.reduceLeDiff, Nat.reduceLT, Nat.reduceMul, Nat.reduceSub, Int.reduceEq, Int.reduceLT, Int.reduceLE, Int.reduceNeg, h, hj, List.length_cons, List.length_nil, List.filter_replicate, List.all_replicate, List.filter_append, List.all_append, Bool.and_self, List.append_assoc, ite_self, if_true]
def tgBits (d : Int) : List Bool := bits 1 (bt (decide (0 ≤ d))) ++ bif decide (0 ≤ d) then bits 5 d.toNat else []
def tgLen (d : Int) : Nat := 1 + bif decide (0 ≤ d) then 5 else 0
theorem tgLen_eq (d : Int) : (tgBits d).length = tgLen d := by
  unfold tgBits tgLen; cases decide (0 ≤ d) <;> simp [bits_len]
section
variable (k s d q o c m e t u v : Int) (x : ByteArray)
theorem s202 (hd : d < 32) (hd0 : d < 0 → d = -1) (hb : bs.length ≤ 1000) :
    call1 T (n + 6) (.fn 202) [pW, .ptr 0 0 0 2] (wH (SBlk.box (fr k s d q o c m e t u v x)) bs [t1, t2] es) = some (.tup [], wH (SBlk.box (fr k s d q o c m e t u v x)) (bs ++ tgBits d) [t1, t2] (es ++ ek bs (tgLen d))) := by
  refine call_in e202 (by rfl) ?_
  have h87 := fun tt es f => s220 (SBlk.box (fr k s d q o c m e t u v x)) [t1, t2, tt] es bs (n + 2) f (by omega)
  cases hf : decide (0 ≤ d) with
  | false =>
    have h87 := fun tt es => h87 tt es false
    have hd1 : d = -1 := by simp only [decide_eq_false_iff_not] at hf; omega
    subst hd1
    simp only [c202, go_sem, Int.reduceToNat, Nat.reduceAdd, Nat.reduceBEq, Nat.reduceLeDiff, Nat.reduceLT, Nat.reduceMul, Nat.reduceSub, Int.reduceEq, Int.reduceLT, Int.reduceLE, Int.reduceNeg, h87, hf, tgBits, tgLen, List.length_cons, List.length_nil, List.filter_replicate, List.all_replicate, List.filter_append, List.all_append, Bool.and_self, List.append_assoc, ite_self, if_true]
  | true =>
    have h87 := fun tt es => h87 tt es true
    simp only [decide_eq_true_eq] at hf
    have h61 : ∀ tt es, call1 T (n + 5) (.fn 201) [pW, .int .i64 5, .ptr 0 0 0 2] (wH (SBlk.box (fr k s d q o c m e t u v x)) (bs ++ bits 1 (bt true)) [t1, t2, tt] es) = some (.tup [], wH (SBlk.box (fr k s d q o c m e t u v x)) (bs ++ bits 1 (bt true) ++ bits 5 d.toNat) [t1, t2, tt] (es ++ ek (bs ++ bits 1 (bt true)) 5)) :=
      fun t' es => s61b (n + 1) _ t1 t2 t' es (bs ++ bits 1 (bt true)) 5 d.toNat 2 (by rw [Int.toNat_of_nonneg hf]; rfl) (by omega) (by omega) (by omega) (by rw [List.length_append, bits_len]; omega)
    have hf2 : decide (0 ≤ d) = true := decide_eq_true hf
    have hk : ek bs 6 = ek bs 1 ++ ek (bs ++ bits 1 (bt true)) 5 := (ek_add (bs := bs) (bs' := bs ++ bits 1 (bt true)) (a := 1) (b := 5) (by rw [List.length_append, bits_len])).symm
    simp only [c202, go_sem, Int.reduceToNat, Nat.reduceAdd, Nat.reduceBEq, Nat.reduceLeDiff, Nat.reduceLT, Nat.reduceMul, Nat.reduceSub, Int.reduceEq, Int.reduceLT, Int.reduceLE, Int.reduceNeg, h87, h61, hf2, tgBits, tgLen, hk, List.length_cons, List.length_nil, List.filter_replicate, List.all_replicate, List.filter_append, List.all_append, Bool.and_self, List.append_assoc, ite_self, if_true]
theorem s197 (hc : 0 ≤ c ∧ c ≤ 255) (hm : 0 ≤ m ∧ m ≤ 65535) (hx : x.size ≤ 127) (hb : bs.length ≤ 900) :
    call1 T (n + 6) (.fn 197) [pW, .ptr 0 0 0 0] (wH (SBlk.box (fr k s d q o c m e t u v x)) bs [t1, t2] es) = some (.tup [], wH (SBlk.box (fr k s d q o c m e t u v x)) (bs ++ (bits 8 c.toNat ++ (bits 16 m.toNat ++ (bits 7 x.size ++ (txB x x.size))))) [t1, t2] (es ++ ek bs (24 + (7 + 8 * x.size)))) := by
  refine call_in e197 (by rfl) ?_
  have h0 : ∀ t' es, call1 T (n + 5) (.fn 201) [pW, .int .i64 8, .ptr 0 0 0 5] (wH (SBlk.box (fr k s d q o c m e t u v x)) bs [t1, t2, t'] es) = some (.tup [], wH (SBlk.box (fr k s d q o c m e t u v x)) (bs ++ (bits 8 c.toNat)) [t1, t2, t'] (es ++ ek bs 8)) := fun t' es => by
    have := s61b (n + 1) _ t1 t2 t' es bs 8 c.toNat 5 (show (fr k s d q o c m e t u v x)[5]? = _ by rw [Int.toNat_of_nonneg hc.1]; rfl) (by omega) (by omega) (by omega) (by omega)
    try simp only [List.append_assoc] at this
    exact this
  have l0 : (bs ++ (bits 8 c.toNat)).length = bs.length + 8 := by simp only [List.length_append, bits_len] <;> omega
  have h1 : ∀ t' es, call1 T (n + 5) (.fn 201) [pW, .int .i64 16, .ptr 0 0 0 6] (wH (SBlk.box (fr k s d q o c m e t u v x)) (bs ++ (bits 8 c.toNat)) [t1, t2, t'] es) = some (.tup [], wH (SBlk.box (fr k s d q o c m e t u v x)) (bs ++ (bits 8 c.toNat ++ (bits 16 m.toNat))) [t1, t2, t'] (es ++ ek (bs ++ (bits 8 c.toNat)) 16)) := fun t' es => by
    have := s61b (n + 1) _ t1 t2 t' es (bs ++ (bits 8 c.toNat)) 16 m.toNat 6 (show (fr k s d q o c m e t u v x)[6]? = _ by rw [Int.toNat_of_nonneg hm.1]; rfl) (by omega) (by omega) (by omega) (by rw [l0]; omega)
    try simp only [List.append_assoc] at this
    exact this
  have l1 : (bs ++ (bits 8 c.toNat ++ (bits 16 m.toNat))).length = bs.length + 24 := by simp only [List.length_append, bits_len] <;> omega
  have ht : ∀ t' es, call1 T (n + 5) (.fn 215) [pW, .ptr 0 0 0 11] (wH (SBlk.box (fr k s d q o c m e t u v x)) (bs ++ (bits 8 c.toNat ++ (bits 16 m.toNat))) [t1, t2, t'] es) = some (.tup [], wH (SBlk.box (fr k s d q o c m e t u v x)) (bs ++ (bits 8 c.toNat ++ (bits 16 m.toNat ++ (bits 7 x.size ++ (txB x x.size))))) [t1, t2, t'] (es ++ ek (bs ++ (bits 8 c.toNat ++ (bits 16 m.toNat))) (7 + 8 * x.size))) := fun t' es => by
    have := s215 n _ t1 t2 t' es (bs ++ (bits 8 c.toNat ++ (bits 16 m.toNat))) x 11 (show (fr k s d q o c m e t u v x)[11]? = some (.str x) from rfl) hx (by rw [l1]; omega)
    try simp only [List.append_assoc] at this
    exact this
  have hk : ek bs (24 + (7 + 8 * x.size)) = ek bs 8 ++ ek (bs ++ (bits 8 c.toNat)) 16 ++ ek (bs ++ (bits 8 c.toNat ++ (bits 16 m.toNat))) (7 + 8 * x.size) := by rw [ek_add l0, ek_add l1]
  simp only [List.append_assoc] at hk
  rw [hk]
  simp only [c197, go_sem, Int.reduceToNat, Nat.reduceAdd, Nat.reduceBEq, Nat.reduceLeDiff, Nat.reduceLT, Nat.reduceMul, Nat.reduceSub, Int.reduceEq, Int.reduceLT, Int.reduceLE, Int.reduceNeg, h0, h1, ht, List.length_cons, List.length_nil, List.filter_replicate, List.all_replicate, List.filter_append, List.all_append, Bool.and_self, List.append_assoc, ite_self, if_true]
theorem s199 (ht : 0 ≤ t ∧ t ≤ 109951162) (hu : 0 ≤ u ∧ u ≤ 65535) (hv : 0 ≤ v ∧ v ≤ 65535) (hx : x.size ≤ 127) (hb : bs.length ≤ 900) :
    call1 T (n + 6) (.fn 199) [pW, .ptr 0 0 0 0] (wH (SBlk.box (fr k s d q o c m e t u v x)) bs [t1, t2] es) = some (.tup [], wH (SBlk.box (fr k s d q o c m e t u v x)) (bs ++ (bits 27 t.toNat ++ (bits 16 u.toNat ++ (bits 16 v.toNat ++ (bits 7 x.size ++ (txB x x.size)))))) [t1, t2] (es ++ ek bs (59 + (7 + 8 * x.size)))) := by
  refine call_in e199 (by rfl) ?_
  have h0 : ∀ t' es, call1 T (n + 5) (.fn 201) [pW, .int .i64 27, .ptr 0 0 0 8] (wH (SBlk.box (fr k s d q o c m e t u v x)) bs [t1, t2, t'] es) = some (.tup [], wH (SBlk.box (fr k s d q o c m e t u v x)) (bs ++ (bits 27 t.toNat)) [t1, t2, t'] (es ++ ek bs 27)) := fun t' es => by
    have := s61b (n + 1) _ t1 t2 t' es bs 27 t.toNat 8 (show (fr k s d q o c m e t u v x)[8]? = _ by rw [Int.toNat_of_nonneg ht.1]; rfl) (by omega) (by omega) (by omega) (by omega)
    try simp only [List.append_assoc] at this
    exact this
  have l0 : (bs ++ (bits 27 t.toNat)).length = bs.length + 27 := by simp only [List.length_append, bits_len] <;> omega
  have h1 : ∀ t' es, call1 T (n + 5) (.fn 201) [pW, .int .i64 16, .ptr 0 0 0 9] (wH (SBlk.box (fr k s d q o c m e t u v x)) (bs ++ (bits 27 t.toNat)) [t1, t2, t'] es) = some (.tup [], wH (SBlk.box (fr k s d q o c m e t u v x)) (bs ++ (bits 27 t.toNat ++ (bits 16 u.toNat))) [t1, t2, t'] (es ++ ek (bs ++ (bits 27 t.toNat)) 16)) := fun t' es => by
    have := s61b (n + 1) _ t1 t2 t' es (bs ++ (bits 27 t.toNat)) 16 u.toNat 9 (show (fr k s d q o c m e t u v x)[9]? = _ by rw [Int.toNat_of_nonneg hu.1]; rfl) (by omega) (by omega) (by omega) (by rw [l0]; omega)
    try simp only [List.append_assoc] at this
    exact this
  have l1 : (bs ++ (bits 27 t.toNat ++ (bits 16 u.toNat))).length = bs.length + 43 := by simp only [List.length_append, bits_len] <;> omega
  have h2 : ∀ t' es, call1 T (n + 5) (.fn 201) [pW, .int .i64 16, .ptr 0 0 0 10] (wH (SBlk.box (fr k s d q o c m e t u v x)) (bs ++ (bits 27 t.toNat ++ (bits 16 u.toNat))) [t1, t2, t'] es) = some (.tup [], wH (SBlk.box (fr k s d q o c m e t u v x)) (bs ++ (bits 27 t.toNat ++ (bits 16 u.toNat ++ (bits 16 v.toNat)))) [t1, t2, t'] (es ++ ek (bs ++ (bits 27 t.toNat ++ (bits 16 u.toNat))) 16)) := fun t' es => by
    have := s61b (n + 1) _ t1 t2 t' es (bs ++ (bits 27 t.toNat ++ (bits 16 u.toNat))) 16 v.toNat 10 (show (fr k s d q o c m e t u v x)[10]? = _ by rw [Int.toNat_of_nonneg hv.1]; rfl) (by omega) (by omega) (by omega) (by rw [l1]; omega)
    try simp only [List.append_assoc] at this
    exact this
  have l2 : (bs ++ (bits 27 t.toNat ++ (bits 16 u.toNat ++ (bits 16 v.toNat)))).length = bs.length + 59 := by simp only [List.length_append, bits_len] <;> omega
  have hT : ∀ t' es, call1 T (n + 5) (.fn 215) [pW, .ptr 0 0 0 11] (wH (SBlk.box (fr k s d q o c m e t u v x)) (bs ++ (bits 27 t.toNat ++ (bits 16 u.toNat ++ (bits 16 v.toNat)))) [t1, t2, t'] es) = some (.tup [], wH (SBlk.box (fr k s d q o c m e t u v x)) (bs ++ (bits 27 t.toNat ++ (bits 16 u.toNat ++ (bits 16 v.toNat ++ (bits 7 x.size ++ (txB x x.size)))))) [t1, t2, t'] (es ++ ek (bs ++ (bits 27 t.toNat ++ (bits 16 u.toNat ++ (bits 16 v.toNat)))) (7 + 8 * x.size))) := fun t' es => by
    have := s215 n _ t1 t2 t' es (bs ++ (bits 27 t.toNat ++ (bits 16 u.toNat ++ (bits 16 v.toNat)))) x 11 (show (fr k s d q o c m e t u v x)[11]? = some (.str x) from rfl) hx (by rw [l2]; omega)
    try simp only [List.append_assoc] at this
    exact this
  have hk : ek bs (59 + (7 + 8 * x.size)) = ek bs 27 ++ ek (bs ++ (bits 27 t.toNat)) 16 ++ ek (bs ++ (bits 27 t.toNat ++ (bits 16 u.toNat))) 16 ++ ek (bs ++ (bits 27 t.toNat ++ (bits 16 u.toNat ++ (bits 16 v.toNat)))) (7 + 8 * x.size) := by rw [ek_add l0, ek_add l1, ek_add l2]
  simp only [List.append_assoc] at hk
  rw [hk]
  simp only [c199, go_sem, Int.reduceToNat, Nat.reduceAdd, Nat.reduceBEq, Nat.reduceLeDiff, Nat.reduceLT, Nat.reduceMul, Nat.reduceSub, Int.reduceEq, Int.reduceLT, Int.reduceLE, Int.reduceNeg, h0, h1, h2, hT, List.length_cons, List.length_nil, List.filter_replicate, List.all_replicate, List.filter_append, List.all_append, Bool.and_self, List.append_assoc, ite_self, if_true]
theorem s200 (hx : x.size ≤ 127) (hb : bs.length ≤ 900) :
    call1 T (n + 6) (.fn 200) [pW, .ptr 0 0 0 0] (wH (SBlk.box (fr k s d q o c m e t u v x)) bs [t1, t2] es) = some (.tup [], wH (SBlk.box (fr k s d q o c m e t u v x)) (bs ++ (bits 7 x.size ++ (txB x x.size))) [t1, t2] (es ++ ek bs (7 + 8 * x.size))) := by
  refine call_in e200 (by rfl) ?_
  have ht : ∀ t' es, call1 T (n + 5) (.fn 215) [pW, .ptr 0 0 0 11] (wH (SBlk.box (fr k s d q o c m e t u v x)) bs [t1, t2, t'] es) = some (.tup [], wH (SBlk.box (fr k s d q o c m e t u v x)) (bs ++ (bits 7 x.size ++ (txB x x.size))) [t1, t2, t'] (es ++ ek bs (7 + 8 * x.size))) := fun t' es => by
    have := s215 n _ t1 t2 t' es bs x 11 (show (fr k s d q o c m e t u v x)[11]? = some (.str x) from rfl) hx (by omega)
    try simp only [List.append_assoc] at this
    exact this
  simp only [c200, go_sem, Int.reduceToNat, Nat.reduceAdd, Nat.reduceBEq, Nat.reduceLeDiff, Nat.reduceLT, Nat.reduceMul, Nat.reduceSub, Int.reduceEq, Int.reduceLT, Int.reduceLE, Int.reduceNeg, ht, List.length_cons, List.length_nil, List.filter_replicate, List.all_replicate, List.filter_append, List.all_append, Bool.and_self, List.append_assoc, ite_self, if_true]
theorem s198 (h0 : -32768 ≤ e) (h1 : e ≤ 32767) (hb : bs.length ≤ 900) :
    call1 T (n + 4) (.fn 198) [pW, .ptr 0 0 0 0] (wH (SBlk.box (fr k s d q o c m e t u v x)) bs [t1, t2] es) = some (.tup [], wH (SBlk.box (fr k s d q o c m e t u v x)) (bs ++ bits 16 (sgN e)) [t1, t2] (es ++ ek bs 16)) := by
  refine call_in e198 (by rfl) ?_
  have h := fun t' es => s216 (SBlk.box (fr k s d q o c m e t u v x)) [t1, t2, t'] es bs n e h0 h1 (by omega)
  simp only [c198, go_sem, Int.reduceToNat, Nat.reduceAdd, Nat.reduceBEq, Nat.reduceLeDiff, Nat.reduceLT, Nat.reduceMul, Nat.reduceSub, Int.reduceEq, Int.reduceLT, Int.reduceLE, Int.reduceNeg, h, List.length_cons, List.length_nil, List.filter_replicate, List.all_replicate, List.filter_append, List.all_append, Bool.and_self, List.append_assoc, ite_self, if_true]
end
end
end C13
end Go.Sh
namespace Go.Sh
set_option linter.unusedSectionVars false
set_option linter.unnecessarySimpa false
set_option linter.unusedVariables false
set_option linter.unusedSimpArgs false
set_option maxRecDepth 100000
set_option maxHeartbeats 4000000
namespace C13
theorem tgLe (d : Int) : tgLen d ≤ 6 := by unfold tgLen; cases decide (0 ≤ d) <;> simp
section
variable (n : Nat) (es : List (Nat × Nat)) (bs : List Bool)
theorem s27_1 (s d q o c m e t u v : Int) (x : ByteArray) (hs : 0 ≤ s ∧ s ≤ 31) (hd : d < 32) (hd0 : d < 0 → d = -1) (hq : 0 ≤ q ∧ q ≤ 255) (ho : 0 ≤ o ∧ o ≤ 255) (hc : 0 ≤ c ∧ c ≤ 255) (hm : 0 ≤ m ∧ m ≤ 65535) (hx : x.size ≤ 127) (hb : bs.length ≤ 100) :
    call1 T (n + 7) (.fn 176) [pW, .ptr 0 0 0 0] (wH (.box (fr 1 s d q o c m e t u v x)) bs [] es) = some (.bool true, wH (.box (fr 1 s d q o c m e t u v x)) (bs ++ (bits 3 1 ++ (bits 5 s.toNat ++ (tgBits d ++ (bits 8 q.toNat ++ (bits 8 o.toNat ++ (bits 8 c.toNat ++ (bits 16 m.toNat ++ (bits 7 x.size ++ (txB x x.size)))))))))) [] (es ++ ek bs ((24 + tgLen d) + (24 + (7 + 8 * x.size))))) := by
  refine call_in e176 (by rfl) ?_
  have h0 : ∀ t1 t2 es, call1 T (n + 6) (.fn 201) [pW, .int .i64 3, .ptr 0 0 0 0] (wH (.box (fr 1 s d q o c m e t u v x)) bs [t1, t2] es) = some (.tup [], wH (.box (fr 1 s d q o c m e t u v x)) (bs ++ (bits 3 1)) [t1, t2] (es ++ ek bs 3)) := fun t1 t2 es => by
    have := s61a (n + 2) (fr 1 s d q o c m e t u v x) t1 t2 es bs 3 1 0 rfl (by omega) (by omega) (by omega) (by omega)
    try simp only [List.append_assoc] at this
    exact this
  have l0 : (bs ++ (bits 3 1)).length = bs.length + (3) := by simp only [List.length_append, bits_len, tgLen_eq] <;> omega
  have h1 : ∀ t1 t2 es, call1 T (n + 6) (.fn 201) [pW, .int .i64 5, .ptr 0 0 0 1] (wH (.box (fr 1 s d q o c m e t u v x)) (bs ++ (bits 3 1)) [t1, t2] es) = some (.tup [], wH (.box (fr 1 s d q o c m e t u v x)) (bs ++ (bits 3 1 ++ (bits 5 s.toNat))) [t1, t2] (es ++ ek (bs ++ (bits 3 1)) 5)) := fun t1 t2 es => by
    have := s61a (n + 2) (fr 1 s d q o c m e t u v x) t1 t2 es (bs ++ (bits 3 1)) 5 s.toNat 1 (show (fr 1 s d q o c m e t u v x)[1]? = _ by rw [Int.toNat_of_nonneg hs.1]; rfl) (by omega) (by omega) (by omega) (by have := tgLe d; rw [l0]; omega)
    try simp only [List.append_assoc] at this
    exact this
  have l1 : (bs ++ (bits 3 1 ++ (bits 5 s.toNat))).length = bs.length + (8) := by simp only [List.length_append, bits_len, tgLen_eq] <;> omega
  have h2 : ∀ t1 t2 es, call1 T (n + 6) (.fn 202) [pW, .ptr 0 0 0 2] (wH (.box (fr 1 s d q o c m e t u v x)) (bs ++ (bits 3 1 ++ (bits 5 s.toNat))) [t1, t2] es) = some (.tup [], wH (.box (fr 1 s d q o c m e t u v x)) (bs ++ (bits 3 1 ++ (bits 5 s.toNat ++ (tgBits d)))) [t1, t2] (es ++ ek (bs ++ (bits 3 1 ++ (bits 5 s.toNat))) (tgLen d))) := fun t1 t2 es => by
    have := s202 n t1 t2 es (bs ++ (bits 3 1 ++ (bits 5 s.toNat))) 1 s d q o c m e t u v x hd hd0 (by rw [l1]; omega)
    try simp only [List.append_assoc] at this
    exact this
  have l2 : (bs ++ (bits 3 1 ++ (bits 5 s.toNat ++ (tgBits d)))).length = bs.length + (8 + tgLen d) := by simp only [List.length_append, bits_len, tgLen_eq] <;> omega
  have h3 : ∀ t1 t2 es, call1 T (n + 6) (.fn 201) [pW, .int .i64 8, .ptr 0 0 0 3] (wH (.box (fr 1 s d q o c m e t u v x)) (bs ++ (bits 3 1 ++ (bits 5 s.toNat ++ (tgBits d)))) [t1, t2] es) = some (.tup [], wH (.box (fr 1 s d q o c m e t u v x)) (bs ++ (bits 3 1 ++ (bits 5 s.toNat ++ (tgBits d ++ (bits 8 q.toNat))))) [t1, t2] (es ++ ek (bs ++ (bits 3 1 ++ (bits 5 s.toNat ++ (tgBits d)))) 8)) := fun t1 t2 es => by
    have := s61a (n + 2) (fr 1 s d q o c m e t u v x) t1 t2 es (bs ++ (bits 3 1 ++ (bits 5 s.toNat ++ (tgBits d)))) 8 q.toNat 3 (show (fr 1 s d q o c m e t u v x)[3]? = _ by rw [Int.toNat_of_nonneg hq.1]; rfl) (by omega) (by omega) (by omega) (by have := tgLe d; rw [l2]; omega)
    try simp only [List.append_assoc] at this
    exact this
  have l3 : (bs ++ (bits 3 1 ++ (bits 5 s.toNat ++ (tgBits d ++ (bits 8 q.toNat))))).length = bs.length + (16 + tgLen d) := by simp only [List.length_append, bits_len, tgLen_eq] <;> omega
  have h4 : ∀ t1 t2 es, call1 T (n + 6) (.fn 201) [pW, .int .i64 8, .ptr 0 0 0 4] (wH (.box (fr 1 s d q o c m e t u v x)) (bs ++ (bits 3 1 ++ (bits 5 s.toNat ++ (tgBits d ++ (bits 8 q.toNat))))) [t1, t2] es) = some (.tup [], wH (.box (fr 1 s d q o c m e t u v x)) (bs ++ (bits 3 1 ++ (bits 5 s.toNat ++ (tgBits d ++ (bits 8 q.toNat ++ (bits 8 o.toNat)))))) [t1, t2] (es ++ ek (bs ++ (bits 3 1 ++ (bits 5 s.toNat ++ (tgBits d ++ (bits 8 q.toNat))))) 8)) := fun t1 t2 es => by
    have := s61a (n + 2) (fr 1 s d q o c m e t u v x) t1 t2 es (bs ++ (bits 3 1 ++ (bits 5 s.toNat ++ (tgBits d ++ (bits 8 q.toNat))))) 8 o.toNat 4 (show (fr 1 s d q o c m e t u v x)[4]? = _ by rw [Int.toNat_of_nonneg ho.1]; rfl) (by omega) (by omega) (by omega) (by have := tgLe d; rw [l3]; omega)
    try simp only [List.append_assoc] at this
    exact this
  have l4 : (bs ++ (bits 3 1 ++ (bits 5 s.toNat ++ (tgBits d ++ (bits 8 q.toNat ++ (bits 8 o.toNat)))))).length = bs.length + (24 + tgLen d) := by simp only [List.length_append, bits_len, tgLen_eq] <;> omega
  have hb1 : ∀ t1 t2 es, call1 T (n + 6) (.fn 197) [pW, .ptr 0 0 0 0] (wH (.box (fr 1 s d q o c m e t u v x)) (bs ++ (bits 3 1 ++ (bits 5 s.toNat ++ (tgBits d ++ (bits 8 q.toNat ++ (bits 8 o.toNat)))))) [t1, t2] es) = some (.tup [], wH (.box (fr 1 s d q o c m e t u v x)) (bs ++ (bits 3 1 ++ (bits 5 s.toNat ++ (tgBits d ++ (bits 8 q.toNat ++ (bits 8 o.toNat ++ (bits 8 c.toNat ++ (bits 16 m.toNat ++ (bits 7 x.size ++ (txB x x.size)))))))))) [t1, t2] (es ++ ek (bs ++ (bits 3 1 ++ (bits 5 s.toNat ++ (tgBits d ++ (bits 8 q.toNat ++ (bits 8 o.toNat)))))) (24 + (7 + 8 * x.size)))) := fun t1 t2 es => by
    have := s197 n t1 t2 es (bs ++ (bits 3 1 ++ (bits 5 s.toNat ++ (tgBits d ++ (bits 8 q.toNat ++ (bits 8 o.toNat)))))) 1 s d q o c m e t u v x hc hm hx (by have := tgLe d; rw [l4]; omega)
    try simp only [List.append_assoc] at this
    exact this
  have hk : ek bs ((24 + tgLen d) + (24 + (7 + 8 * x.size))) = ek bs 3 ++ ek (bs ++ (bits 3 1)) 5 ++ ek (bs ++ (bits 3 1 ++ (bits 5 s.toNat))) (tgLen d) ++ ek (bs ++ (bits 3 1 ++ (bits 5 s.toNat ++ (tgBits d)))) 8 ++ ek (bs ++ (bits 3 1 ++ (bits 5 s.toNat ++ (tgBits d ++ (bits 8 q.toNat))))) 8 ++ ek (bs ++ (bits 3 1 ++ (bits 5 s.toNat ++ (tgBits d ++ (bits 8 q.toNat ++ (bits 8 o.toNat)))))) (24 + (7 + 8 * x.size)) := by
    rw [ek_add (bs := bs) (a := 3) l0, ek_add (a := 3 + 5) (by rw [l1]), ek_add (a := 3 + 5 + tgLen d) (by rw [l2]), ek_add (a := 3 + 5 + tgLen d + 8) (by rw [l3]; omega), ek_add (a := 3 + 5 + tgLen d + 8 + 8) (by rw [l4]; omega)]
    congr 1; omega
  simp only [List.append_assoc] at hk
  rw [hk]
  simp only [c176, go_sem, Int.reduceToNat, Nat.reduceAdd, Nat.reduceBEq, Nat.reduceLeDiff, Nat.reduceLT, Nat.reduceMul, Nat.reduceSub, Int.reduceEq, Int.reduceLT, Int.reduceLE, Int.reduceNeg, h0, h1, h2, h3, h4, hb1, List.length_cons, List.length_nil, List.filter_replicate, List.all_replicate, List.filter_append, List.all_append, Bool.and_self, List.append_assoc, ite_self, if_true]
theorem s27_2 (s d q o c m e t u v : Int) (x : ByteArray) (hs : 0 ≤ s ∧ s ≤ 31) (hd : d < 32) (hd0 : d < 0 → d = -1) (hq : 0 ≤ q ∧ q ≤ 255) (ho : 0 ≤ o ∧ o ≤ 255) (he : -32768 ≤ e ∧ e ≤ 32767) (hb : bs.length ≤ 100) :
    call1 T (n + 7) (.fn 176) [pW, .ptr 0 0 0 0] (wH (.box (fr 2 s d q o c m e t u v x)) bs [] es) = some (.bool true, wH (.box (fr 2 s d q o c m e t u v x)) (bs ++ (bits 3 2 ++ (bits 5 s.toNat ++ (tgBits d ++ (bits 8 q.toNat ++ (bits 8 o.toNat ++ (bits 16 (sgN e)))))))) [] (es ++ ek bs ((24 + tgLen d) + (16)))) := by
  refine call_in e176 (by rfl) ?_
  have h0 : ∀ t1 t2 es, call1 T (n + 6) (.fn 201) [pW, .int .i64 3, .ptr 0 0 0 0] (wH (.box (fr 2 s d q o c m e t u v x)) bs [t1, t2] es) = some (.tup [], wH (.box (fr 2 s d q o c m e t u v x)) (bs ++ (bits 3 2)) [t1, t2] (es ++ ek bs 3)) := fun t1 t2 es => by
    have := s61a (n + 2) (fr 2 s d q o c m e t u v x) t1 t2 es bs 3 2 0 rfl (by omega) (by omega) (by omega) (by omega)
    try simp only [List.append_assoc] at this
    exact this
  have l0 : (bs ++ (bits 3 2)).length = bs.length + (3) := by simp only [List.length_append, bits_len, tgLen_eq] <;> omega
  have h1 : ∀ t1 t2 es, call1 T (n + 6) (.fn 201) [pW, .int .i64 5, .ptr 0 0 0 1] (wH (.box (fr 2 s d q o c m e t u v x)) (bs ++ (bits 3 2)) [t1, t2] es) = some (.tup [], wH (.box (fr 2 s d q o c m e t u v x)) (bs ++ (bits 3 2 ++ (bits 5 s.toNat))) [t1, t2] (es ++ ek (bs ++ (bits 3 2)) 5)) := fun t1 t2 es => by
    have := s61a (n + 2) (fr 2 s d q o c m e t u v x) t1 t2 es (bs ++ (bits 3 2)) 5 s.toNat 1 (show (fr 2 s d q o c m e t u v x)[1]? = _ by rw [Int.toNat_of_nonneg hs.1]; rfl) (by omega) (by omega) (by omega) (by have := tgLe d; rw [l0]; omega)
    try simp only [List.append_assoc] at this
    exact this
  have l1 : (bs ++ (bits 3 2 ++ (bits 5 s.toNat))).length = bs.length + (8) := by simp only [List.length_append, bits_len, tgLen_eq] <;> omega
  have h2 : ∀ t1 t2 es, call1 T (n + 6) (.fn 202) [pW, .ptr 0 0 0 2] (wH (.box (fr 2 s d q o c m e t u v x)) (bs ++ (bits 3 2 ++ (bits 5 s.toNat))) [t1, t2] es) = some (.tup [], wH (.box (fr 2 s d q o c m e t u v x)) (bs ++ (bits 3 2 ++ (bits 5 s.toNat ++ (tgBits d)))) [t1, t2] (es ++ ek (bs ++ (bits 3 2 ++ (bits 5 s.toNat))) (tgLen d))) := fun t1 t2 es => by
    have := s202 n t1 t2 es (bs ++ (bits 3 2 ++ (bits 5 s.toNat))) 2 s d q o c m e t u v x hd hd0 (by rw [l1]; omega)
    try simp only [List.append_assoc] at this
    exact this
  have l2 : (bs ++ (bits 3 2 ++ (bits 5 s.toNat ++ (tgBits d)))).length = bs.length + (8 + tgLen d) := by simp only [List.length_append, bits_len, tgLen_eq] <;> omega
  have h3 : ∀ t1 t2 es, call1 T (n + 6) (.fn 201) [pW, .int .i64 8, .ptr 0 0 0 3] (wH (.box (fr 2 s d q o c m e t u v x)) (bs ++ (bits 3 2 ++ (bits 5 s.toNat ++ (tgBits d)))) [t1, t2] es) = some (.tup [], wH (.box (fr 2 s d q o c m e t u v x)) (bs ++ (bits 3 2 ++ (bits 5 s.toNat ++ (tgBits d ++ (bits 8 q.toNat))))) [t1, t2] (es ++ ek (bs ++ (bits 3 2 ++ (bits 5 s.toNat ++ (tgBits d)))) 8)) := fun t1 t2 es => by
    have := s61a (n + 2) (fr 2 s d q o c m e t u v x) t1 t2 es (bs ++ (bits 3 2 ++ (bits 5 s.toNat ++ (tgBits d)))) 8 q.toNat 3 (show (fr 2 s d q o c m e t u v x)[3]? = _ by rw [Int.toNat_of_nonneg hq.1]; rfl) (by omega) (by omega) (by omega) (by have := tgLe d; rw [l2]; omega)
    try simp only [List.append_assoc] at this
    exact this
  have l3 : (bs ++ (bits 3 2 ++ (bits 5 s.toNat ++ (tgBits d ++ (bits 8 q.toNat))))).length = bs.length + (16 + tgLen d) := by simp only [List.length_append, bits_len, tgLen_eq] <;> omega
  have h4 : ∀ t1 t2 es, call1 T (n + 6) (.fn 201) [pW, .int .i64 8, .ptr 0 0 0 4] (wH (.box (fr 2 s d q o c m e t u v x)) (bs ++ (bits 3 2 ++ (bits 5 s.toNat ++ (tgBits d ++ (bits 8 q.toNat))))) [t1, t2] es) = some (.tup [], wH (.box (fr 2 s d q o c m e t u v x)) (bs ++ (bits 3 2 ++ (bits 5 s.toNat ++ (tgBits d ++ (bits 8 q.toNat ++ (bits 8 o.toNat)))))) [t1, t2] (es ++ ek (bs ++ (bits 3 2 ++ (bits 5 s.toNat ++ (tgBits d ++ (bits 8 q.toNat))))) 8)) := fun t1 t2 es => by
    have := s61a (n + 2) (fr 2 s d q o c m e t u v x) t1 t2 es (bs ++ (bits 3 2 ++ (bits 5 s.toNat ++ (tgBits d ++ (bits 8 q.toNat))))) 8 o.toNat 4 (show (fr 2 s d q o c m e t u v x)[4]? = _ by rw [Int.toNat_of_nonneg ho.1]; rfl) (by omega) (by omega) (by omega) (by have := tgLe d; rw [l3]; omega)
    try simp only [List.append_assoc] at this
    exact this
  have l4 : (bs ++ (bits 3 2 ++ (bits 5 s.toNat ++ (tgBits d ++ (bits 8 q.toNat ++ (bits 8 o.toNat)))))).length = bs.length + (24 + tgLen d) := by simp only [List.length_append, bits_len, tgLen_eq] <;> omega
  have hb1 : ∀ t1 t2 es, call1 T (n + 6) (.fn 198) [pW, .ptr 0 0 0 0] (wH (.box (fr 2 s d q o c m e t u v x)) (bs ++ (bits 3 2 ++ (bits 5 s.toNat ++ (tgBits d ++ (bits 8 q.toNat ++ (bits 8 o.toNat)))))) [t1, t2] es) = some (.tup [], wH (.box (fr 2 s d q o c m e t u v x)) (bs ++ (bits 3 2 ++ (bits 5 s.toNat ++ (tgBits d ++ (bits 8 q.toNat ++ (bits 8 o.toNat ++ (bits 16 (sgN e)))))))) [t1, t2] (es ++ ek (bs ++ (bits 3 2 ++ (bits 5 s.toNat ++ (tgBits d ++ (bits 8 q.toNat ++ (bits 8 o.toNat)))))) (16))) := fun t1 t2 es => by
    have := s198 (n + 2) t1 t2 es (bs ++ (bits 3 2 ++ (bits 5 s.toNat ++ (tgBits d ++ (bits 8 q.toNat ++ (bits 8 o.toNat)))))) 2 s d q o c m e t u v x he.1 he.2 (by have := tgLe d; rw [l4]; omega)
    try simp only [List.append_assoc] at this
    exact this
  have hk : ek bs ((24 + tgLen d) + (16)) = ek bs 3 ++ ek (bs ++ (bits 3 2)) 5 ++ ek (bs ++ (bits 3 2 ++ (bits 5 s.toNat))) (tgLen d) ++ ek (bs ++ (bits 3 2 ++ (bits 5 s.toNat ++ (tgBits d)))) 8 ++ ek (bs ++ (bits 3 2 ++ (bits 5 s.toNat ++ (tgBits d ++ (bits 8 q.toNat))))) 8 ++ ek (bs ++ (bits 3 2 ++ (bits 5 s.toNat ++ (tgBits d ++ (bits 8 q.toNat ++ (bits 8 o.toNat)))))) (16) := by
    rw [ek_add (bs := bs) (a := 3) l0, ek_add (a := 3 + 5) (by rw [l1]), ek_add (a := 3 + 5 + tgLen d) (by rw [l2]), ek_add (a := 3 + 5 + tgLen d + 8) (by rw [l3]; omega), ek_add (a := 3 + 5 + tgLen d + 8 + 8) (by rw [l4]; omega)]
    congr 1; omega
  simp only [List.append_assoc] at hk
  rw [hk]
  simp only [c176, go_sem, Int.reduceToNat, Nat.reduceAdd, Nat.reduceBEq, Nat.reduceLeDiff, Nat.reduceLT, Nat.reduceMul, Nat.reduceSub, Int.reduceEq, Int.reduceLT, Int.reduceLE, Int.reduceNeg, h0, h1, h2, h3, h4, hb1, List.length_cons, List.length_nil, List.filter_replicate, List.all_replicate, List.filter_append, List.all_append, Bool.and_self, List.append_assoc, ite_self, if_true]
theorem s27_3 (s d q o c m e t u v : Int) (x : ByteArray) (hs : 0 ≤ s ∧ s ≤ 31) (hd : d < 32) (hd0 : d < 0 → d = -1) (hq : 0 ≤ q ∧ q ≤ 255) (ho : 0 ≤ o ∧ o ≤ 255) (ht : 0 ≤ t ∧ t ≤ 109951162) (hu : 0 ≤ u ∧ u ≤ 65535) (hv : 0 ≤ v ∧ v ≤ 65535) (hx : x.size ≤ 127) (hb : bs.length ≤ 100) :
    call1 T (n + 7) (.fn 176) [pW, .ptr 0 0 0 0] (wH (.box (fr 3 s d q o c m e t u v x)) bs [] es) = some (.bool true, wH (.box (fr 3 s d q o c m e t u v x)) (bs ++ (bits 3 3 ++ (bits 5 s.toNat ++ (tgBits d ++ (bits 8 q.toNat ++ (bits 8 o.toNat ++ (bits 27 t.toNat ++ (bits 16 u.toNat ++ (bits 16 v.toNat ++ (bits 7 x.size ++ (txB x x.size))))))))))) [] (es ++ ek bs ((24 + tgLen d) + (59 + (7 + 8 * x.size))))) := by
  refine call_in e176 (by rfl) ?_
  have h0 : ∀ t1 t2 es, call1 T (n + 6) (.fn 201) [pW, .int .i64 3, .ptr 0 0 0 0] (wH (.box (fr 3 s d q o c m e t u v x)) bs [t1, t2] es) = some (.tup [], wH (.box (fr 3 s d q o c m e t u v x)) (bs ++ (bits 3 3)) [t1, t2] (es ++ ek bs 3)) := fun t1 t2 es => by
    have := s61a (n + 2) (fr 3 s d q o c m e t u v x) t1 t2 es bs 3 3 0 rfl (by omega) (by omega) (by omega) (by omega)
    try simp only [List.append_assoc] at this
    exact this
  have l0 : (bs ++ (bits 3 3)).length = bs.length + (3) := by simp only [List.length_append, bits_len, tgLen_eq] <;> omega
  have h1 : ∀ t1 t2 es, call1 T (n + 6) (.fn 201) [pW, .int .i64 5, .ptr 0 0 0 1] (wH (.box (fr 3 s d q o c m e t u v x)) (bs ++ (bits 3 3)) [t1, t2] es) = some (.tup [], wH (.box (fr 3 s d q o c m e t u v x)) (bs ++ (bits 3 3 ++ (bits 5 s.toNat))) [t1, t2] (es ++ ek (bs ++ (bits 3 3)) 5)) := fun t1 t2 es => by
    have := s61a (n + 2) (fr 3 s d q o c m e t u v x) t1 t2 es (bs ++ (bits 3 3)) 5 s.toNat 1 (show (fr 3 s d q o c m e t u v x)[1]? = _ by rw [Int.toNat_of_nonneg hs.1]; rfl) (by omega) (by omega) (by omega) (by have := tgLe d; rw [l0]; omega)
    try simp only [List.append_assoc] at this
    exact this
  have l1 : (bs ++ (bits 3 3 ++ (bits 5 s.toNat))).length = bs.length + (8) := by simp only [List.length_append, bits_len, tgLen_eq] <;> omega
  have h2 : ∀ t1 t2 es, call1 T (n + 6) (.fn 202) [pW, .ptr 0 0 0 2] (wH (.box (fr 3 s d q o c m e t u v x)) (bs ++ (bits 3 3 ++ (bits 5 s.toNat))) [t1, t2] es) = some (.tup [], wH (.box (fr 3 s d q o c m e t u v x)) (bs ++ (bits 3 3 ++ (bits 5 s.toNat ++ (tgBits d)))) [t1, t2] (es ++ ek (bs ++ (bits 3 3 ++ (bits 5 s.toNat))) (tgLen d))) := fun t1 t2 es => by
    have := s202 n t1 t2 es (bs ++ (bits 3 3 ++ (bits 5 s.toNat))) 3 s d q o c m e t u v x hd hd0 (by rw [l1]; omega)
    try simp only [List.append_assoc] at this
    exact this
  have l2 : (bs ++ (bits 3 3 ++ (bits 5 s.toNat ++ (tgBits d)))).length = bs.length + (8 + tgLen d) := by simp only [List.length_append, bits_len, tgLen_eq] <;> omega
  have h3 : ∀ t1 t2 es, call1 T (n + 6) (.fn 201) [pW, .int .i64 8, .ptr 0 0 0 3] (wH (.box (fr 3 s d q o c m e t u v x)) (bs ++ (bits 3 3 ++ (bits 5 s.toNat ++ (tgBits d)))) [t1, t2] es) = some (.tup [], wH (.box (fr 3 s d q o c m e t u v x)) (bs ++ (bits 3 3 ++ (bits 5 s.toNat ++ (tgBits d ++ (bits 8 q.toNat))))) [t1, t2] (es ++ ek (bs ++ (bits 3 3 ++ (bits 5 s.toNat ++ (tgBits d)))) 8)) := fun t1 t2 es => by
    have := s61a (n + 2) (fr 3 s d q o c m e t u v x) t1 t2 es (bs ++ (bits 3 3 ++ (bits 5 s.toNat ++ (tgBits d)))) 8 q.toNat 3 (show (fr 3 s d q o c m e t u v x)[3]? = _ by rw [Int.toNat_of_nonneg hq.1]; rfl) (by omega) (by omega) (by omega) (by have := tgLe d; rw [l2]; omega)
    try simp only [List.append_assoc] at this
    exact this
  have l3 : (bs ++ (bits 3 3 ++ (bits 5 s.toNat ++ (tgBits d ++ (bits 8 q.toNat))))).length = bs.length + (16 + tgLen d) := by simp only [List.length_append, bits_len, tgLen_eq] <;> omega
  have h4 : ∀ t1 t2 es, call1 T (n + 6) (.fn 201) [pW, .int .i64 8, .ptr 0 0 0 4] (wH (.box (fr 3 s d q o c m e t u v x)) (bs ++ (bits 3 3 ++ (bits 5 s.toNat ++ (tgBits d ++ (bits 8 q.toNat))))) [t1, t2] es) = some (.tup [], wH (.box (fr 3 s d q o c m e t u v x)) (bs ++ (bits 3 3 ++ (bits 5 s.toNat ++ (tgBits d ++ (bits 8 q.toNat ++ (bits 8 o.toNat)))))) [t1, t2] (es ++ ek (bs ++ (bits 3 3 ++ (bits 5 s.toNat ++ (tgBits d ++ (bits 8 q.toNat))))) 8)) := fun t1 t2 es => by
    have := s61a (n + 2) (fr 3 s d q o c m e t u v x) t1 t2 es (bs ++ (bits 3 3 ++ (bits 5 s.toNat ++ (tgBits d ++ (bits 8 q.toNat))))) 8 o.toNat 4 (show (fr 3 s d q o c m e t u v x)[4]? = _ by rw [Int.toNat_of_nonneg ho.1]; rfl) (by omega) (by omega) (by omega) (by have := tgLe d; rw [l3]; omega)
    try simp only [List.append_assoc] at this
    exact this
  have l4 : (bs ++ (bits 3 3 ++ (bits 5 s.toNat ++ (tgBits d ++ (bits 8 q.toNat ++ (bits 8 o.toNat)))))).length = bs.length + (24 + tgLen d) := by simp only [List.length_append, bits_len, tgLen_eq] <;> omega
  have hb1 : ∀ t1 t2 es, call1 T (n + 6) (.fn 199) [pW, .ptr 0 0 0 0] (wH (.box (fr 3 s d q o c m e t u v x)) (bs ++ (bits 3 3 ++ (bits 5 s.toNat ++ (tgBits d ++ (bits 8 q.toNat ++ (bits 8 o.toNat)))))) [t1, t2] es) = some (.tup [], wH (.box (fr 3 s d q o c m e t u v x)) (bs ++ (bits 3 3 ++ (bits 5 s.toNat ++ (tgBits d ++ (bits 8 q.toNat ++ (bits 8 o.toNat ++ (bits 27 t.toNat ++ (bits 16 u.toNat ++ (bits 16 v.toNat ++ (bits 7 x.size ++ (txB x x.size))))))))))) [t1, t2] (es ++ ek (bs ++ (bits 3 3 ++ (bits 5 s.toNat ++ (tgBits d ++ (bits 8 q.toNat ++ (bits 8 o.toNat)))))) (59 + (7 + 8 * x.size)))) := fun t1 t2 es => by
    have := s199 n t1 t2 es (bs ++ (bits 3 3 ++ (bits 5 s.toNat ++ (tgBits d ++ (bits 8 q.toNat ++ (bits 8 o.toNat)))))) 3 s d q o c m e t u v x ht hu hv hx (by have := tgLe d; rw [l4]; omega)
    try simp only [List.append_assoc] at this
    exact this
  have hk : ek bs ((24 + tgLen d) + (59 + (7 + 8 * x.size))) = ek bs 3 ++ ek (bs ++ (bits 3 3)) 5 ++ ek (bs ++ (bits 3 3 ++ (bits 5 s.toNat))) (tgLen d) ++ ek (bs ++ (bits 3 3 ++ (bits 5 s.toNat ++ (tgBits d)))) 8 ++ ek (bs ++ (bits 3 3 ++ (bits 5 s.toNat ++ (tgBits d ++ (bits 8 q.toNat))))) 8 ++ ek (bs ++ (bits 3 3 ++ (bits 5 s.toNat ++ (tgBits d ++ (bits 8 q.toNat ++ (bits 8 o.toNat)))))) (59 + (7 + 8 * x.size)) := by
    rw [ek_add (bs := bs) (a := 3) l0, ek_add (a := 3 + 5) (by rw [l1]), ek_add (a := 3 + 5 + tgLen d) (by rw [l2]), ek_add (a := 3 + 5 + tgLen d + 8) (by rw [l3]; omega), ek_add (a := 3 + 5 + tgLen d + 8 + 8) (by rw [l4]; omega)]
    congr 1; omega
  simp only [List.append_assoc] at hk
  rw [hk]
  simp only [c176, go_sem, Int.reduceToNat, Nat.reduceAdd, Nat.reduceBEq, Nat.reduceLeDiff, Nat.reduceLT, Nat.reduceMul, Nat.reduceSub, Int.reduceEq, Int.reduceLT, Int.reduceLE, Int.reduceNeg, h0, h1, h2, h3, h4, hb1, List.length_cons, List.length_nil, List.filter_replicate, List.all_replicate, List.filter_append, List.all_append, Bool.and_self, List.append_assoc, ite_self, if_true]
theorem s27_4 (s d q o c m e t u v : Int) (x : ByteArray) (hs : 0 ≤ s ∧ s ≤ 31) (hd : d < 32) (hd0 : d < 0 → d = -1) (hq : 0 ≤ q ∧ q ≤ 255) (ho : 0 ≤ o ∧ o ≤ 255) (hx : x.size ≤ 127) (hb : bs.length ≤ 100) :
    call1 T (n + 7) (.fn 176) [pW, .ptr 0 0 0 0] (wH (.box (fr 4 s d q o c m e t u v x)) bs [] es) = some (.bool true, wH (.box (fr 4 s d q o c m e t u v x)) (bs ++ (bits 3 4 ++ (bits 5 s.toNat ++ (tgBits d ++ (bits 8 q.toNat ++ (bits 8 o.toNat ++ (bits 7 x.size ++ (txB x x.size)))))))) [] (es ++ ek bs ((24 + tgLen d) + (7 + 8 * x.size)))) := by
  refine call_in e176 (by rfl) ?_
  have h0 : ∀ t1 t2 es, call1 T (n + 6) (.fn 201) [pW, .int .i64 3, .ptr 0 0 0 0] (wH (.box (fr 4 s d q o c m e t u v x)) bs [t1, t2] es) = some (.tup [], wH (.box (fr 4 s d q o c m e t u v x)) (bs ++ (bits 3 4)) [t1, t2] (es ++ ek bs 3)) := fun t1 t2 es => by
    have := s61a (n + 2) (fr 4 s d q o c m e t u v x) t1 t2 es bs 3 4 0 rfl (by omega) (by omega) (by omega) (by omega)
    try simp only [List.append_assoc] at this
    exact this
  have l0 : (bs ++ (bits 3 4)).length = bs.length + (3) := by simp only [List.length_append, bits_len, tgLen_eq] <;> omega
  have h1 : ∀ t1 t2 es, call1 T (n + 6) (.fn 201) [pW, .int .i64 5, .ptr 0 0 0 1] (wH (.box (fr 4 s d q o c m e t u v x)) (bs ++ (bits 3 4)) [t1, t2] es) = some (.tup [], wH (.box (fr 4 s d q o c m e t u v x)) (bs ++ (bits 3 4 ++ (bits 5 s.toNat))) [t1, t2] (es ++ ek (bs ++ (bits 3 4)) 5)) := fun t1 t2 es => by
    have := s61a (n + 2) (fr 4 s d q o c m e t u v x) t1 t2 es (bs ++ (bits 3 4)) 5 s.toNat 1 (show (fr 4 s d q o c m e t u v x)[1]? = _ by rw [Int.toNat_of_nonneg hs.1]; rfl) (by omega) (by omega) (by omega) (by have := tgLe d; rw [l0]; omega)
    try simp only [List.append_assoc] at this
    exact this
  have l1 : (bs ++ (bits 3 4 ++ (bits 5 s.toNat))).length = bs.length + (8) := by simp only [List.length_append, bits_len, tgLen_eq] <;> omega
  have h2 : ∀ t1 t2 es, call1 T (n + 6) (.fn 202) [pW, .ptr 0 0 0 2] (wH (.box (fr 4 s d q o c m e t u v x)) (bs ++ (bits 3 4 ++ (bits 5 s.toNat))) [t1, t2] es) = some (.tup [], wH (.box (fr 4 s d q o c m e t u v x)) (bs ++ (bits 3 4 ++ (bits 5 s.toNat ++ (tgBits d)))) [t1, t2] (es ++ ek (bs ++ (bits 3 4 ++ (bits 5 s.toNat))) (tgLen d))) := fun t1 t2 es => by
    have := s202 n t1 t2 es (bs ++ (bits 3 4 ++ (bits 5 s.toNat))) 4 s d q o c m e t u v x hd hd0 (by rw [l1]; omega)
    try simp only [List.append_assoc] at this
    exact this
  have l2 : (bs ++ (bits 3 4 ++ (bits 5 s.toNat ++ (tgBits d)))).length = bs.length + (8 + tgLen d) := by simp only [List.length_append, bits_len, tgLen_eq] <;> omega
  have h3 : ∀ t1 t2 es, call1 T (n + 6) (.fn 201) [pW, .int .i64 8, .ptr 0 0 0 3] (wH (.box (fr 4 s d q o c m e t u v x)) (bs ++ (bits 3 4 ++ (bits 5 s.toNat ++ (tgBits d)))) [t1, t2] es) = some (.tup [], wH (.box (fr 4 s d q o c m e t u v x)) (bs ++ (bits 3 4 ++ (bits 5 s.toNat ++ (tgBits d ++ (bits 8 q.toNat))))) [t1, t2] (es ++ ek (bs ++ (bits 3 4 ++ (bits 5 s.toNat ++ (tgBits d)))) 8)) := fun t1 t2 es => by
    have := s61a (n + 2) (fr 4 s d q o c m e t u v x) t1 t2 es (bs ++ (bits 3 4 ++ (bits 5 s.toNat ++ (tgBits d)))) 8 q.toNat 3 (show (fr 4 s d q o c m e t u v x)[3]? = _ by rw [Int.toNat_of_nonneg hq.1]; rfl) (by omega) (by omega) (by omega) (by have := tgLe d; rw [l2]; omega)
    try simp only [List.append_assoc] at this
    exact this
  have l3 : (bs ++ (bits 3 4 ++ (bits 5 s.toNat ++ (tgBits d ++ (bits 8 q.toNat))))).length = bs.length + (16 + tgLen d) := by simp only [List.length_append, bits_len, tgLen_eq] <;> omega
  have h4 : ∀ t1 t2 es, call1 T (n + 6) (.fn 201) [pW, .int .i64 8, .ptr 0 0 0 4] (wH (.box (fr 4 s d q o c m e t u v x)) (bs ++ (bits 3 4 ++ (bits 5 s.toNat ++ (tgBits d ++ (bits 8 q.toNat))))) [t1, t2] es) = some (.tup [], wH (.box (fr 4 s d q o c m e t u v x)) (bs ++ (bits 3 4 ++ (bits 5 s.toNat ++ (tgBits d ++ (bits 8 q.toNat ++ (bits 8 o.toNat)))))) [t1, t2] (es ++ ek (bs ++ (bits 3 4 ++ (bits 5 s.toNat ++ (tgBits d ++ (bits 8 q.toNat))))) 8)) := fun t1 t2 es => by
    have := s61a (n + 2) (fr 4 s d q o c m e t u v x) t1 t2 es (bs ++ (bits 3 4 ++ (bits 5 s.toNat ++ (tgBits d ++ (bits 8 q.toNat))))) 8 o.toNat 4 (show (fr 4 s d q o c m e t u v x)[4]? = _ by rw [Int.toNat_of_nonneg ho.1]; rfl) (by omega) (by omega) (by omega) (by have := tgLe d; rw [l3]; omega)
    try simp only [List.append_assoc] at this
    exact this
  have l4 : (bs ++ (bits 3 4 ++ (bits 5 s.toNat ++ (tgBits d ++ (bits 8 q.toNat ++ (bits 8 o.toNat)))))).length = bs.length + (24 + tgLen d) := by simp only [List.length_append, bits_len, tgLen_eq] <;> omega
  have hb1 : ∀ t1 t2 es, call1 T (n + 6) (.fn 200) [pW, .ptr 0 0 0 0] (wH (.box (fr 4 s d q o c m e t u v x)) (bs ++ (bits 3 4 ++ (bits 5 s.toNat ++ (tgBits d ++ (bits 8 q.toNat ++ (bits 8 o.toNat)))))) [t1, t2] es) = some (.tup [], wH (.box (fr 4 s d q o c m e t u v x)) (bs ++ (bits 3 4 ++ (bits 5 s.toNat ++ (tgBits d ++ (bits 8 q.toNat ++ (bits 8 o.toNat ++ (bits 7 x.size ++ (txB x x.size)))))))) [t1, t2] (es ++ ek (bs ++ (bits 3 4 ++ (bits 5 s.toNat ++ (tgBits d ++ (bits 8 q.toNat ++ (bits 8 o.toNat)))))) (7 + 8 * x.size))) := fun t1 t2 es => by
    have := s200 n t1 t2 es (bs ++ (bits 3 4 ++ (bits 5 s.toNat ++ (tgBits d ++ (bits 8 q.toNat ++ (bits 8 o.toNat)))))) 4 s d q o c m e t u v x hx (by have := tgLe d; rw [l4]; omega)
    try simp only [List.append_assoc] at this
    exact this
  have hk : ek bs ((24 + tgLen d) + (7 + 8 * x.size)) = ek bs 3 ++ ek (bs ++ (bits 3 4)) 5 ++ ek (bs ++ (bits 3 4 ++ (bits 5 s.toNat))) (tgLen d) ++ ek (bs ++ (bits 3 4 ++ (bits 5 s.toNat ++ (tgBits d)))) 8 ++ ek (bs ++ (bits 3 4 ++ (bits 5 s.toNat ++ (tgBits d ++ (bits 8 q.toNat))))) 8 ++ ek (bs ++ (bits 3 4 ++ (bits 5 s.toNat ++ (tgBits d ++ (bits 8 q.toNat ++ (bits 8 o.toNat)))))) (7 + 8 * x.size) := by
    rw [ek_add (bs := bs) (a := 3) l0, ek_add (a := 3 + 5) (by rw [l1]), ek_add (a := 3 + 5 + tgLen d) (by rw [l2]), ek_add (a := 3 + 5 + tgLen d + 8) (by rw [l3]; omega), ek_add (a := 3 + 5 + tgLen d + 8 + 8) (by rw [l4]; omega)]
    congr 1; omega
  simp only [List.append_assoc] at hk
  rw [hk]
  simp only [c176, go_sem, Int.reduceToNat, Nat.reduceAdd, Nat.reduceBEq, Nat.reduceLeDiff, Nat.reduceLT, Nat.reduceMul, Nat.reduceSub, Int.reduceEq, Int.reduceLT, Int.reduceLE, Int.reduceNeg, h0, h1, h2, h3, h4, hb1, List.length_cons, List.length_nil, List.filter_replicate, List.all_replicate, List.filter_append, List.all_append, Bool.and_self, List.append_assoc, ite_self, if_true]
end
end C13
end Go.Sh
namespace Go.Sh
set_option linter.unusedSectionVars false
set_option linter.unnecessarySimpa false
set_option linter.unusedVariables false
set_option linter.unusedSimpArgs false
set_option maxRecDepth 100000
set_option maxHeartbeats 4000000
namespace C13
abbrev W16 := BitVec 16
def poly : W16 := 0x1021#16
def tm (c : W16) : W16 := (c <<< 1) ^^^ (bif c.msb then poly else 0#16)
theorem tm_xor (a b : W16) : tm (a ^^^ b) = tm a ^^^ tm b := by
  unfold tm
  rw [BitVec.shiftLeft_xor_distrib, BitVec.msb_xor]
  cases a.msb <;> cases b.msb <;> simp only [Bool.xor_false, Bool.xor_true, Bool.false_xor, Bool.true_xor, cond_true, cond_false, Bool.not_true, Bool.not_false, BitVec.xor_zero]
  · ac_rfl
  · ac_rfl
  · rw [show a <<< 1 ^^^ poly ^^^ (b <<< 1 ^^^ poly) = a <<< 1 ^^^ b <<< 1 ^^^ (poly ^^^ poly) by ac_rfl, BitVec.xor_self, BitVec.xor_zero]
def t4 (c : W16) : W16 := tm (tm (tm (tm c)))
theorem t4_xor (a b : W16) : t4 (a ^^^ b) = t4 a ^^^ t4 b := by simp only [t4, tm_xor]
theorem tm_low {c : W16} (h : c.msb = false) : tm c = c <<< 1 := by unfold tm; rw [h]; simp
def tbl : List W16 := [0x0000#16, 0x1021#16, 0x2042#16, 0x3063#16, 0x4084#16, 0x50a5#16, 0x60c6#16, 0x70e7#16, 0x8108#16, 0x9129#16, 0xa14a#16, 0xb16b#16, 0xc18c#16, 0xd1ad#16, 0xe1ce#16, 0xf1ef#16]
theorem t4_high : ∀ h : Fin 16, tbl[(h : Nat)]? = some (t4 ((BitVec.ofNat 16 h) <<< 12)) := by decide
theorem t4_low (c : W16) : t4 ((c <<< 4) >>> 4) = c <<< 4 := by
  have m : ∀ (i : Nat), i < 4 → (((c <<< 4) >>> 4) <<< i).msb = false := by
    intro i hi
    rw [BitVec.msb_eq_getLsbD_last]
    simp [BitVec.getLsbD_shiftLeft, BitVec.getLsbD_ushiftRight]
    omega
  have e : ∀ i : Nat, (((c <<< 4) >>> 4) <<< i) <<< 1 = ((c <<< 4) >>> 4) <<< (i + 1) := fun i => (BitVec.shiftLeft_add _ _ _).symm
  have h0 := m 0 (by omega)
  rw [BitVec.shiftLeft_zero] at h0
  unfold t4
  rw [tm_low h0, tm_low (m 1 (by omega)), e 1, tm_low (m 2 (by omega)), e 2, tm_low (m 3 (by omega)), e 3]
  apply BitVec.eq_of_getLsbD_eq
  intro i hi
  simp [BitVec.getLsbD_shiftLeft, BitVec.getLsbD_ushiftRight]
  by_cases h : i < 4
  · simp [h]
  · simp [h, hi, show 4 + (i - 4) = i by omega]
theorem split12 (c : W16) : c = ((c >>> 12) <<< 12) ^^^ ((c <<< 4) >>> 4) := by
  apply BitVec.eq_of_getLsbD_eq
  intro i hi
  simp [BitVec.getLsbD_shiftLeft, BitVec.getLsbD_ushiftRight]
  by_cases h : i < 12
  · simp [h, show 4 + i - 4 = i by omega, show 4 + i < 16 by omega]
  · simp [h, show ¬ 4 + i < 16 by omega, show 12 + (i - 12) = i by omega]
    exact fun _ => hi
theorem t4_tbl (c : W16) : tbl[(c >>> 12).toNat]? = some (t4 c ^^^ (c <<< 4)) := by
  have hlt : (c >>> 12).toNat < 16 := by
    rw [BitVec.toNat_ushiftRight, Nat.shiftRight_eq_div_pow]
    have := c.isLt
    omega
  have h := t4_high ⟨(c >>> 12).toNat, hlt⟩
  rw [show tbl[(c >>> 12).toNat]? = _ from h]
  congr 1
  have e : BitVec.ofNat 16 (c >>> 12).toNat = c >>> 12 := by rw [BitVec.ofNat_toNat]; exact BitVec.setWidth_eq _
  show t4 (BitVec.ofNat 16 (c >>> 12).toNat <<< 12) = _
  rw [e]
  have h2 : t4 c = t4 ((c >>> 12) <<< 12) ^^^ (c <<< 4) := by
    rw [← t4_low c, ← t4_xor, ← split12]
  rw [h2, BitVec.xor_assoc, BitVec.xor_self, BitVec.xor_zero]
end C13
end Go.Sh
