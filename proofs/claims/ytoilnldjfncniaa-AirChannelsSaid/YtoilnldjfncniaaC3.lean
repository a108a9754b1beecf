

import Derived.Test.YtoilnldjfncniaaC2
namespace Go.Sh
set_option linter.unusedSectionVars false
set_option linter.unnecessarySimpa false
set_option linter.unusedVariables false
set_option linter.unusedSimpArgs false
set_option maxRecDepth 100000
set_option maxHeartbeats 4000000
/-- Whether an emission can be the one that is heard, the best one so far given. -/
def heC (L : List Em) (y : Em) (o : Option Nat) (x : Em) : Bool := decide (x.c = y.c) && !decide (x.x < y.x) && !decide (y.y < x.x) && !(match o with | some b => (match L[b]? with | some z => decide (z.x ≤ x.x) | none => false) | none => false)
def heF (s : Sn) (L : List Em) (y : Em) : Nat → Option Nat
  | 0 => none
  | q + 1 => match L[q]? with
    | some x => bif heC L y (heF s L y q) x && recB s L q x y.n then some q else heF s L y q
    | none => heF s L y q
def obI : Option Nat → Int
  | some b => b
  | none => 0
theorem heF_lt (s : Sn) (L : List Em) (y : Em) : ∀ q b, heF s L y q = some b → b < q ∧ b < L.length
  | 0, b, h => by cases h
  | q + 1, b, h => by
    have ih := heF_lt s L y q
    simp only [heF] at h
    cases hx : L[q]? with
    | none => rw [hx] at h; have := ih b h; omega
    | some x =>
      rw [hx] at h
      cases hc : heC L y (heF s L y q) x && recB s L q x y.n with
      | true =>
        simp only [hc, cond_true, Option.some.injEq] at h
        have := (List.getElem?_eq_some_iff.1 hx).1
        omega
      | false => simp only [hc, cond_false] at h; have := ih b h; omega
def liB (y : Em) : Bool := decide (y.c < 0) || decide (16 ≤ y.c) || decide (y.x < 0) || decide (y.y < y.x) || decide (1099511627776 < y.y)
def hrV (s : Sn) (L : List Em) (y : Em) : SV := bif decide (acE (okSn s) s.N.length L = 0) then (bif decide (y.n < 0) || decide ((s.N.length : Int) ≤ y.n) then .tup [.int .i64 0, .bool false, .int .i64 7] else
  bif liB y then .tup [.int .i64 0, .bool false, .int .i64 2] else .tup [.int .i64 (obI (heF s L y L.length)), .bool (heF s L y L.length).isSome, .int .i64 0]) else .tup [.int .i64 0, .bool false, .int .i64 (acE (okSn s) s.N.length L)]
@[go_sem] theorem res_three (e H r s t) : results1 e H [r, s, t] = (resOf e H r).bind fun a => (resOf e H s).bind fun b => (resOf e H t).map fun c => .tup [a, b, c] := by
  unfold results1
  cases h : resOf e H r <;> cases h' : resOf e H s <;> cases h'' : resOf e H t <;> simp [allS, h, h', h'']
theorem s16 (n : Nat) (H : Heap) (s : Sn) (L : List Em) (f : Bool) (y : Em) (hL : L.length ≤ maxLen) : call1 T (n + 18) (.fn 16) [.agg (stC s), .agg (spC s), .lst 4 (emsS L) f, .agg (emC y)] H = some (hrV s L y, H) := by
  refine call_pure e16 (by rfl) ?_
  have h38 := fun x y z es => s38k (n + 8) [x, y, z] es 0 s L f hL (by simp)
  unfold hrV
  cases h0 : decide (acE (okSn s) s.N.length L = 0) with
  | false => simp only [c16, heap0, go_sem, Int.cast_ofNat_Int, Int.reduceToNat, Bool.true_xor, Bool.false_xor, Bool.xor_true, Bool.xor_false, Nat.reduceAdd, Nat.reduceBEq, Nat.reduceLeDiff, Nat.reduceLT, Nat.reduceMul, Nat.reduceSub, Int.reduceEq, Int.reduceLT, Int.reduceLE, Int.reduceNeg, h38, h0]
  | true =>
    have h0' := of_decide_eq_true h0
    cases k1 : decide (y.n < 0) with
    | true => simp only [c16, heap0, go_sem, Int.cast_ofNat_Int, Int.reduceToNat, Bool.true_xor, Bool.false_xor, Bool.xor_true, Bool.xor_false, Nat.reduceAdd, Nat.reduceBEq, Nat.reduceLeDiff, Nat.reduceLT, Nat.reduceMul, Nat.reduceSub, Int.reduceEq, Int.reduceLT, Int.reduceLE, Int.reduceNeg, h38, h0, k1]
    | false =>
    cases k2 : decide ((s.N.length : Int) ≤ y.n) with
    | true => simp only [c16, heap0, go_sem, Int.cast_ofNat_Int, Int.reduceToNat, Bool.true_xor, Bool.false_xor, Bool.xor_true, Bool.xor_false, Nat.reduceAdd, Nat.reduceBEq, Nat.reduceLeDiff, Nat.reduceLT, Nat.reduceMul, Nat.reduceSub, Int.reduceEq, Int.reduceLT, Int.reduceLE, Int.reduceNeg, h38, h0, k1, G.ptsS_len', k2]
    | false =>
    unfold liB
    cases k3 : decide (y.c < 0) with
    | true => simp only [c16, heap0, go_sem, Int.cast_ofNat_Int, Int.reduceToNat, Bool.true_xor, Bool.false_xor, Bool.xor_true, Bool.xor_false, Nat.reduceAdd, Nat.reduceBEq, Nat.reduceLeDiff, Nat.reduceLT, Nat.reduceMul, Nat.reduceSub, Int.reduceEq, Int.reduceLT, Int.reduceLE, Int.reduceNeg, h38, h0, k1, G.ptsS_len', k2, k3]
    | false =>
    cases k4 : decide (16 ≤ y.c) with
    | true => simp only [c16, heap0, go_sem, Int.cast_ofNat_Int, Int.reduceToNat, Bool.true_xor, Bool.false_xor, Bool.xor_true, Bool.xor_false, Nat.reduceAdd, Nat.reduceBEq, Nat.reduceLeDiff, Nat.reduceLT, Nat.reduceMul, Nat.reduceSub, Int.reduceEq, Int.reduceLT, Int.reduceLE, Int.reduceNeg, h38, h0, k1, G.ptsS_len', k2, k3, k4]
    | false =>
    cases k5 : decide (y.x < 0) with
    | true => simp only [c16, heap0, go_sem, Int.cast_ofNat_Int, Int.reduceToNat, Bool.true_xor, Bool.false_xor, Bool.xor_true, Bool.xor_false, Nat.reduceAdd, Nat.reduceBEq, Nat.reduceLeDiff, Nat.reduceLT, Nat.reduceMul, Nat.reduceSub, Int.reduceEq, Int.reduceLT, Int.reduceLE, Int.reduceNeg, h38, h0, k1, G.ptsS_len', k2, k3, k4, k5]
    | false =>
    cases k6 : decide (y.y < y.x) with
    | true => simp only [c16, heap0, go_sem, Int.cast_ofNat_Int, Int.reduceToNat, Bool.true_xor, Bool.false_xor, Bool.xor_true, Bool.xor_false, Nat.reduceAdd, Nat.reduceBEq, Nat.reduceLeDiff, Nat.reduceLT, Nat.reduceMul, Nat.reduceSub, Int.reduceEq, Int.reduceLT, Int.reduceLE, Int.reduceNeg, h38, h0, k1, G.ptsS_len', k2, k3, k4, k5, k6]
    | false =>
    cases k7 : decide (1099511627776 < y.y) with
    | true => simp only [c16, heap0, go_sem, Int.cast_ofNat_Int, Int.reduceToNat, Bool.true_xor, Bool.false_xor, Bool.xor_true, Bool.xor_false, Nat.reduceAdd, Nat.reduceBEq, Nat.reduceLeDiff, Nat.reduceLT, Nat.reduceMul, Nat.reduceSub, Int.reduceEq, Int.reduceLT, Int.reduceLE, Int.reduceNeg, h38, h0, k1, G.ptsS_len', k2, k3, k4, k5, k6, k7]
    | false =>
      simp only [c16, heap0, go_sem, Int.cast_ofNat_Int, Int.reduceToNat, Bool.true_xor, Bool.false_xor, Bool.xor_true, Bool.xor_false, Nat.reduceAdd, Nat.reduceBEq, Nat.reduceLeDiff, Nat.reduceLT, Nat.reduceMul, Nat.reduceSub, Int.reduceEq, Int.reduceLT, Int.reduceLE, Int.reduceNeg, h38, h0, h0', k1, G.ptsS_len', k2, k3, k4, k5, k6, k7]
      refine loop_rule (fun q => ([(2, .lst 4 (emsS L) f), (7, .ptr 2 0 0 0), (11, .ptr 6 0 0 0), (13, .int .i64 (obI (heF s L y q))), (14, .bool (heF s L y q).isSome), (66, .lst 4 (emsS L) f), (67, .int .i64 L.length), (68, .int .i64 q)],
        ⟨[.box (stC s), .box (spC s), .box (emC y), .box (stC s), .box (spC s), .box (snC s L f 3), .box (snC s L f 3)], [], 0⟩)) (fun _ => True) L.length (by simp only [go_sem, Int.cast_ofNat_Int, Int.reduceToNat, Bool.true_xor, Bool.false_xor, Bool.xor_true, Bool.xor_false, Nat.reduceAdd, Nat.reduceBEq, Nat.reduceLeDiff, Nat.reduceLT, Nat.reduceMul, Nat.reduceSub, Int.reduceEq, Int.reduceLT, Int.reduceLE, Int.reduceNeg]; rfl) trivial ?_
      intro q hq _
      rcases Nat.lt_or_ge q L.length with hlt | hge
      · obtain ⟨x, hx⟩ := getS hlt
        have hw := w64_suc hlt hL
        have h39 := fun x0 x1 x2 x4 x5 x6 x7 es ro => s39 n ⟨[x0, x1, x2, .box (stC s), x4, x5, x6, x7], es, ro⟩ s L f 3 q x y.n hL hx rfl
        have no : (heC L y (heF s L y q) x && recB s L q x y.n) = false → heF s L y (q + 1) = heF s L y q := fun h => by simp only [heF, hx, h, cond_false]
        cases j1 : decide (x.c = y.c) with
        | false =>
          have e1 := no (by simp only [heC, j1]; rfl)
          simp only [go_sem, Int.cast_ofNat_Int, Int.reduceToNat, Bool.true_xor, Bool.false_xor, Bool.xor_true, Bool.xor_false, Nat.reduceAdd, Nat.reduceBEq, Nat.reduceLeDiff, Nat.reduceLT, Nat.reduceMul, Nat.reduceSub, Int.reduceEq, Int.reduceLT, Int.reduceLE, Int.reduceNeg, hlt, hx, j1, hw, e1]
          exact ⟨trivial, by first | trivial | rfl, trivial⟩
        | true =>
        cases j2 : decide (x.x < y.x) with
        | true =>
          have e1 := no (by simp only [heC, j1, j2]; rfl)
          simp only [go_sem, Int.cast_ofNat_Int, Int.reduceToNat, Bool.true_xor, Bool.false_xor, Bool.xor_true, Bool.xor_false, Nat.reduceAdd, Nat.reduceBEq, Nat.reduceLeDiff, Nat.reduceLT, Nat.reduceMul, Nat.reduceSub, Int.reduceEq, Int.reduceLT, Int.reduceLE, Int.reduceNeg, hlt, hx, j1, j2, hw, e1]
          exact ⟨trivial, by first | trivial | rfl, trivial⟩
        | false =>
        cases j3 : decide (y.y < x.x) with
        | true =>
          have e1 := no (by simp only [heC, j1, j2, j3]; rfl)
          simp only [go_sem, Int.cast_ofNat_Int, Int.reduceToNat, Bool.true_xor, Bool.false_xor, Bool.xor_true, Bool.xor_false, Nat.reduceAdd, Nat.reduceBEq, Nat.reduceLeDiff, Nat.reduceLT, Nat.reduceMul, Nat.reduceSub, Int.reduceEq, Int.reduceLT, Int.reduceLE, Int.reduceNeg, hlt, hx, j1, j2, j3, hw, e1]
          exact ⟨trivial, by first | trivial | rfl, trivial⟩
        | false =>
        have hcase : heC L y (heF s L y q) x = !(match heF s L y q with | some b => (match L[b]? with | some z => decide (z.x ≤ x.x) | none => false) | none => false) := by simp only [heC, j1, j2, j3]; rfl
        cases ho : heF s L y q with
        | none =>
          rw [ho] at hcase no
          cases hr : recB s L q x y.n with
          | false =>
            have e1 := no (by rw [hr, Bool.and_false])
            rw [hr] at h39
            simp only [go_sem, Int.cast_ofNat_Int, Int.reduceToNat, Bool.true_xor, Bool.false_xor, Bool.xor_true, Bool.xor_false, Nat.reduceAdd, Nat.reduceBEq, Nat.reduceLeDiff, Nat.reduceLT, Nat.reduceMul, Nat.reduceSub, Int.reduceEq, Int.reduceLT, Int.reduceLE, Int.reduceNeg, hlt, hx, j1, j2, j3, ho, obI, Option.isSome_none, h39, hw, e1]
            exact ⟨trivial, by first | trivial | rfl, trivial⟩
          | true =>
            have e1 : heF s L y (q + 1) = some q := by simp only [heF, hx, ho, hcase, hr, Bool.not_false, Bool.and_self, cond_true]
            rw [hr] at h39
            simp only [go_sem, Int.cast_ofNat_Int, Int.reduceToNat, Bool.true_xor, Bool.false_xor, Bool.xor_true, Bool.xor_false, Nat.reduceAdd, Nat.reduceBEq, Nat.reduceLeDiff, Nat.reduceLT, Nat.reduceMul, Nat.reduceSub, Int.reduceEq, Int.reduceLT, Int.reduceLE, Int.reduceNeg, hlt, hx, j1, j2, j3, ho, obI, Option.isSome_none, h39, hw, e1, Option.isSome_some]
            exact ⟨trivial, by first | trivial | rfl, trivial⟩
        | some b =>
          have hbl := (heF_lt s L y q b ho).2
          obtain ⟨z, hz⟩ := getS hbl
          rw [ho] at hcase no
          simp only [hz] at hcase
          cases j4 : decide (z.x ≤ x.x) with
          | true =>
            have e1 := no (by rw [hcase, j4]; rfl)
            simp only [go_sem, Int.cast_ofNat_Int, Int.reduceToNat, Bool.true_xor, Bool.false_xor, Bool.xor_true, Bool.xor_false, Nat.reduceAdd, Nat.reduceBEq, Nat.reduceLeDiff, Nat.reduceLT, Nat.reduceMul, Nat.reduceSub, Int.reduceEq, Int.reduceLT, Int.reduceLE, Int.reduceNeg, hlt, hx, j1, j2, j3, ho, obI, Option.isSome_some, hbl, hz, j4, hw, e1]
            exact ⟨trivial, by first | trivial | rfl, trivial⟩
          | false =>
            cases hr : recB s L q x y.n with
            | false =>
              have e1 := no (by rw [hr, Bool.and_false])
              rw [hr] at h39
              simp only [go_sem, Int.cast_ofNat_Int, Int.reduceToNat, Bool.true_xor, Bool.false_xor, Bool.xor_true, Bool.xor_false, Nat.reduceAdd, Nat.reduceBEq, Nat.reduceLeDiff, Nat.reduceLT, Nat.reduceMul, Nat.reduceSub, Int.reduceEq, Int.reduceLT, Int.reduceLE, Int.reduceNeg, hlt, hx, j1, j2, j3, ho, obI, Option.isSome_some, hbl, hz, j4, h39, hw, e1]
              exact ⟨trivial, by first | trivial | rfl, trivial⟩
            | true =>
              have e1 : heF s L y (q + 1) = some q := by simp only [heF, hx, ho, hcase, hr, j4, Bool.not_false, Bool.and_self, cond_true]
              rw [hr] at h39
              simp only [go_sem, Int.cast_ofNat_Int, Int.reduceToNat, Bool.true_xor, Bool.false_xor, Bool.xor_true, Bool.xor_false, Nat.reduceAdd, Nat.reduceBEq, Nat.reduceLeDiff, Nat.reduceLT, Nat.reduceMul, Nat.reduceSub, Int.reduceEq, Int.reduceLT, Int.reduceLE, Int.reduceNeg, hlt, hx, j1, j2, j3, ho, obI, Option.isSome_some, hbl, hz, j4, h39, hw, e1]
              exact ⟨trivial, by first | trivial | rfl, trivial⟩
      · obtain rfl : q = L.length := by omega
        simp only [go_sem, Int.cast_ofNat_Int, Int.reduceToNat, Bool.true_xor, Bool.false_xor, Bool.xor_true, Bool.xor_false, Nat.reduceAdd, Nat.reduceBEq, Nat.reduceLeDiff, Nat.reduceLT, Nat.reduceMul, Nat.reduceSub, Int.reduceEq, Int.reduceLT, Int.reduceLE, Int.reduceNeg, show decide ((L.length : Int) < (L.length : Int)) = false from decide_eq_false (by omega)]
end Go.Sh
namespace Go.Sh
set_option linter.unusedSectionVars false
set_option linter.unnecessarySimpa false
set_option linter.unusedVariables false
set_option linter.unusedSimpArgs false
set_option maxRecDepth 100000
set_option maxHeartbeats 4000000
def cand (s : Sn) (L : List Em) (y : Em) (q : Nat) (x : Em) : Bool := recB s L q x y.n && decide (x.c = y.c) && decide (y.x ≤ x.x) && decide (x.x ≤ y.y)
def HeS (s : Sn) (L : List Em) (y : Em) (q : Nat) : Option Nat → Prop
  | none => ∀ (j : Nat) x, j < q → L[j]? = some x → cand s L y j x = false
  | some b => ∃ z, L[b]? = some z ∧ cand s L y b z = true ∧ ∀ (j : Nat) x, j < q → L[j]? = some x → cand s L y j x = true → z.x ≤ x.x
theorem not_lt_dec (a b : Int) : (!decide (a < b)) = decide (b ≤ a) := by rw [Bool.eq_iff_iff]; simp
theorem heF_spec (s : Sn) (L : List Em) (y : Em) : ∀ q, HeS s L y q (heF s L y q)
  | 0 => fun j x h => by omega
  | q + 1 => by
    have ih := heF_spec s L y q
    simp only [heF]
    cases hx : L[q]? with
    | none =>
      have hout : ∀ (j : Nat) x, j < q + 1 → L[j]? = some x → j < q := fun j x hj h => by
        rcases Nat.lt_or_ge j q with h3 | h3
        · exact h3
        · obtain rfl : j = q := by omega
          rw [hx] at h; cases h
      cases ho : heF s L y q with
      | none => rw [ho] at ih; exact fun j x hj h => ih j x (hout j x hj h) h
      | some b => rw [ho] at ih; obtain ⟨z, h1, h2, h3⟩ := ih; exact ⟨z, h1, h2, fun j x hj h hc => h3 j x (hout j x hj h) h hc⟩
    | some x =>
      simp only
      have hsp : ∀ (j : Nat) w, j < q + 1 → L[j]? = some w → j < q ∨ j = q ∧ w = x := fun j w hj h => by
        rcases Nat.lt_or_ge j q with h3 | h3
        · exact .inl h3
        · obtain rfl : j = q := by omega
          rw [hx] at h; cases h; exact .inr ⟨rfl, rfl⟩
      cases ho : heF s L y q with
      | none =>
        rw [ho] at ih
        have e : (heC L y none x && recB s L q x y.n) = cand s L y q x := by
          simp only [heC, cand, not_lt_dec, Bool.not_false, Bool.and_true]
          cases recB s L q x y.n <;> simp
        rw [e]
        cases hc : cand s L y q x with
        | true =>
          refine ⟨x, hx, hc, fun j w hj h hw => ?_⟩
          rcases hsp j w hj h with h3 | ⟨rfl, rfl⟩
          · rw [ih j w h3 h] at hw; cases hw
          · exact Int.le_refl _
        | false =>
          intro j w hj h
          rcases hsp j w hj h with h3 | ⟨rfl, rfl⟩
          · exact ih j w h3 h
          · exact hc
      | some b =>
        rw [ho] at ih
        obtain ⟨z, h1, h2, h3⟩ := ih
        have e : (heC L y (some b) x && recB s L q x y.n) = (cand s L y q x && !decide (z.x ≤ x.x)) := by
          simp only [heC, cand, not_lt_dec, h1]
          cases recB s L q x y.n <;> simp
        rw [e]
        cases hc : cand s L y q x with
        | true =>
          cases hz : decide (z.x ≤ x.x) with
          | true =>
            refine ⟨z, h1, h2, fun j w hj h hw => ?_⟩
            rcases hsp j w hj h with h4 | ⟨rfl, rfl⟩
            · exact h3 j w h4 h hw
            · exact of_decide_eq_true hz
          | false =>
            have hz' := of_decide_eq_false hz
            refine ⟨x, hx, hc, fun j w hj h hw => ?_⟩
            rcases hsp j w hj h with h4 | ⟨rfl, rfl⟩
            · have := h3 j w h4 h hw; omega
            · exact Int.le_refl _
        | false =>
          refine ⟨z, h1, h2, fun j w hj h hw => ?_⟩
          rcases hsp j w hj h with h4 | ⟨rfl, rfl⟩
          · exact h3 j w h4 h hw
          · rw [hc] at hw; cases hw
theorem he_wider {s : Sn} {L : List Em} {y y' : Em} (hn : y'.n = y.n) (hc : y'.c = y.c) (h1 : y'.x ≤ y.x) (h2 : y.y ≤ y'.y) {i : Nat} (h : heF s L y L.length = some i) : ∃ k a b, heF s L y' L.length = some k ∧ L[k]? = some a ∧ L[i]? = some b ∧ a.x ≤ b.x := by
  have s1 := heF_spec s L y L.length
  have s2 := heF_spec s L y' L.length
  rw [h] at s1
  obtain ⟨z, z1, z2, _⟩ := s1
  have hz : cand s L y' i z = true := by
    simp only [cand, Bool.and_eq_true, decide_eq_true_eq] at z2 ⊢
    rw [hn, hc]
    exact ⟨⟨z2.1.1, by omega⟩, by omega⟩
  have hi := (List.getElem?_eq_some_iff.1 z1).1
  cases ho : heF s L y' L.length with
  | none => rw [ho] at s2; rw [s2 i z hi z1] at hz; cases hz
  | some k =>
    rw [ho] at s2
    obtain ⟨w, w1, _, w3⟩ := s2
    exact ⟨k, w, z, rfl, w1, z1, w3 i z hi z1 hz⟩
abbrev snA (s : Sn) (L : List Em) (f : Bool) : List SV := [.lst 2 (G.ptsS s.N) s.g1, .lst 1 (G.intsS s.P) s.g2, .lst 5 (G.wlsS s.W) s.g3, .int .i64 s.ex, .int .i64 s.no, .int .i64 s.th, .lst 7 (U.srsS s.S) s.f1, .lst 6 (U.fdsS s.F) s.f2, .lst 4 (emsS L) f]
def fiI : Option Nat → Int
  | some b => b
  | none => -1
theorem s16' (n : Nat) (H : Heap) (s : Sn) (L : List Em) (f : Bool) (a c x y : Int) (hL : L.length ≤ maxLen) : call1 T (n + 18) (.fn 16) [.agg (stC s), .agg (spC s), .lst 4 (emsS L) f, .agg [.int .i64 a, .int .i64 c, .int .i64 x, .int .i64 y]] H = some (hrV s L ⟨a, c, x, y⟩, H) := s16 n H s L f ⟨a, c, x, y⟩ hL
theorem s4 (s : Sn) (L : List Em) (f : Bool) (y : Em) (wd : Nat) (hwd : wd < 65536) (hL : L.length ≤ maxLen) : call1 T 41 (.fn 4) [.agg (snA s L f), .agg (emC y), .int .u16 wd] heap0 = some (.bool true, heap0) := by
  refine call_pure e4 (by rfl) ?_
  have h9 := s9
  have h10 := fun H => s10 36 H s.N s.P s.W s.g1 s.g2 s.g3 s.ex s.no s.th s.S s.f1 s.F s.f2 L f s.hS.1
  cases hf : fwB s.N s.P s.W s.S s.F L with
  | false => simp only [c4, heap0, go_sem, Int.cast_ofNat_Int, Int.reduceToNat, Bool.true_xor, Bool.false_xor, Bool.xor_true, Bool.xor_false, Nat.reduceAdd, Nat.reduceBEq, Nat.reduceLeDiff, Nat.reduceLT, Nat.reduceMul, Nat.reduceSub, Int.reduceEq, Int.reduceLT, Int.reduceLE, Int.reduceNeg, h9, h10, hf]
  | true =>
    have h12 := fun H => s12 39 H L f (by have := fw_of hf; omega)
    have h16 := fun H => s16 22 H s L false y hL
    unfold hrV at h16
    cases h0 : decide (acE (okSn s) s.N.length L = 0) with
    | false =>
      simp only [h0, cond_false] at h16
      simp only [c4, heap0, go_sem, Int.cast_ofNat_Int, Int.reduceToNat, Bool.true_xor, Bool.false_xor, Bool.xor_true, Bool.xor_false, Nat.reduceAdd, Nat.reduceBEq, Nat.reduceLeDiff, Nat.reduceLT, Nat.reduceMul, Nat.reduceSub, Int.reduceEq, Int.reduceLT, Int.reduceLE, Int.reduceNeg, h9, h10, hf, h12, h16, h0]
    | true =>
      have h0' := of_decide_eq_true h0
      cases k1 : decide (y.n < 0) || decide ((s.N.length : Int) ≤ y.n) with
      | true =>
        simp only [h0, k1, cond_true] at h16
        simp only [c4, heap0, go_sem, Int.cast_ofNat_Int, Int.reduceToNat, Bool.true_xor, Bool.false_xor, Bool.xor_true, Bool.xor_false, Nat.reduceAdd, Nat.reduceBEq, Nat.reduceLeDiff, Nat.reduceLT, Nat.reduceMul, Nat.reduceSub, Int.reduceEq, Int.reduceLT, Int.reduceLE, Int.reduceNeg, h9, h10, hf, h12, h16]
      | false =>
        cases k2 : liB y with
        | true =>
          simp only [h0, k1, k2, cond_true, cond_false] at h16
          simp only [c4, heap0, go_sem, Int.cast_ofNat_Int, Int.reduceToNat, Bool.true_xor, Bool.false_xor, Bool.xor_true, Bool.xor_false, Nat.reduceAdd, Nat.reduceBEq, Nat.reduceLeDiff, Nat.reduceLT, Nat.reduceMul, Nat.reduceSub, Int.reduceEq, Int.reduceLT, Int.reduceLE, Int.reduceNeg, h9, h10, hf, h12, h16]
        | false =>
          simp only [h0, k1, k2, cond_true, cond_false] at h16
          have k1' := k1
          simp only [Bool.or_eq_false_iff, decide_eq_false_iff_not] at k1'
          simp only [liB, Bool.or_eq_false_iff, decide_eq_false_iff_not] at k2
          simp only [c4, heap0, go_sem, Int.cast_ofNat_Int, Int.reduceToNat, Bool.true_xor, Bool.false_xor, Bool.xor_true, Bool.xor_false, Nat.reduceAdd, Nat.reduceBEq, Nat.reduceLeDiff, Nat.reduceLT, Nat.reduceMul, Nat.reduceSub, Int.reduceEq, Int.reduceLT, Int.reduceLE, Int.reduceNeg, h9, h10, hf, h12, h16]
          refine loop_rule (fun q => ([(2, .int .u16 wd), (3, .ptr 0 0 0 0), (4, .ptr 1 0 0 0), (7, .int .i64 (obI (heF s L y L.length))), (8, .bool (heF s L y L.length).isSome), (10, .int .i64 (fiI (heF s L y q))), (46, .lst 4 (emsS L) f), (47, .int .i64 L.length), (48, .int .i64 q)],
            ⟨[.box (snA s L f), .box (emC y)], [], 0⟩)) (fun _ => True) L.length (by simp only [go_sem, Int.cast_ofNat_Int, Int.reduceToNat, Bool.true_xor, Bool.false_xor, Bool.xor_true, Bool.xor_false, Nat.reduceAdd, Nat.reduceBEq, Nat.reduceLeDiff, Nat.reduceLT, Nat.reduceMul, Nat.reduceSub, Int.reduceEq, Int.reduceLT, Int.reduceLE, Int.reduceNeg]; rfl) trivial ?_
          intro q hq _
          rcases Nat.lt_or_ge q L.length with hlt | hge
          · obtain ⟨x, hx⟩ := getS hlt
            have hw := w64_suc hlt hL
            have hck : ckE s L q y.n = 0 := by
              simp only [ckE, h0, cond_true, decide_eq_false (show ¬ ((q : Int) < 0) by omega), decide_eq_false (show ¬ ((L.length : Int) ≤ (q : Int)) by omega), decide_eq_false k1'.1, decide_eq_false k1'.2]
              rfl
            have h17 := fun H => s17 22 H s L false q y.n hL
            have hrc : rcV s L q y.n = .tup [.bool (recB s L q x y.n), .int .i64 0] := by simp only [rcV, hck, decide_true, cond_true, Int.toNat_natCast, hx]
            rw [hrc] at h17
            have no : cand s L y q x = false → heF s L y (q + 1) = heF s L y q := fun h => by
              have : (heC L y (heF s L y q) x && recB s L q x y.n) = false := by
                rw [Bool.eq_false_iff]; intro h2
                simp only [heC, not_lt_dec, Bool.and_eq_true] at h2
                simp only [cand, h2.2, h2.1.1.1.1, h2.1.1.1.2, h2.1.1.2, Bool.and_self] at h
                cases h
              simp only [heF, hx, this, cond_false]
            simp only [go_sem, Int.cast_ofNat_Int, Int.reduceToNat, Bool.true_xor, Bool.false_xor, Bool.xor_true, Bool.xor_false, Nat.reduceAdd, Nat.reduceBEq, Nat.reduceLeDiff, Nat.reduceLT, Nat.reduceMul, Nat.reduceSub, Int.reduceEq, Int.reduceLT, Int.reduceLE, Int.reduceNeg, hlt, hx, h12, h17]
            cases j0 : recB s L q x y.n with
            | false =>
              have e1 := no (by simp only [cand, j0, Bool.false_and])
              simp only [go_sem, Int.cast_ofNat_Int, Int.reduceToNat, Bool.true_xor, Bool.false_xor, Bool.xor_true, Bool.xor_false, Nat.reduceAdd, Nat.reduceBEq, Nat.reduceLeDiff, Nat.reduceLT, Nat.reduceMul, Nat.reduceSub, Int.reduceEq, Int.reduceLT, Int.reduceLE, Int.reduceNeg, hlt, hw, e1]
              exact ⟨trivial, by first | trivial | rfl, trivial⟩
            | true =>
            cases j1 : decide (x.c = y.c) with
            | false =>
              have e1 := no (by simp only [cand, j1, Bool.false_and, Bool.and_false])
              simp only [go_sem, Int.cast_ofNat_Int, Int.reduceToNat, Bool.true_xor, Bool.false_xor, Bool.xor_true, Bool.xor_false, Nat.reduceAdd, Nat.reduceBEq, Nat.reduceLeDiff, Nat.reduceLT, Nat.reduceMul, Nat.reduceSub, Int.reduceEq, Int.reduceLT, Int.reduceLE, Int.reduceNeg, hlt, j1, hw, e1]
              exact ⟨trivial, by first | trivial | rfl, trivial⟩
            | true =>
            cases j2 : decide (y.x ≤ x.x) with
            | false =>
              have e1 := no (by simp only [cand, j2, Bool.false_and, Bool.and_false])
              simp only [go_sem, Int.cast_ofNat_Int, Int.reduceToNat, Bool.true_xor, Bool.false_xor, Bool.xor_true, Bool.xor_false, Nat.reduceAdd, Nat.reduceBEq, Nat.reduceLeDiff, Nat.reduceLT, Nat.reduceMul, Nat.reduceSub, Int.reduceEq, Int.reduceLT, Int.reduceLE, Int.reduceNeg, hlt, j1, j2, hw, e1]
              exact ⟨trivial, by first | trivial | rfl, trivial⟩
            | true =>
            cases j3 : decide (x.x ≤ y.y) with
            | false =>
              have e1 := no (by simp only [cand, j3, Bool.false_and, Bool.and_false])
              simp only [go_sem, Int.cast_ofNat_Int, Int.reduceToNat, Bool.true_xor, Bool.false_xor, Bool.xor_true, Bool.xor_false, Nat.reduceAdd, Nat.reduceBEq, Nat.reduceLeDiff, Nat.reduceLT, Nat.reduceMul, Nat.reduceSub, Int.reduceEq, Int.reduceLT, Int.reduceLE, Int.reduceNeg, hlt, j1, j2, j3, hw, e1]
              exact ⟨trivial, by first | trivial | rfl, trivial⟩
            | true =>
              cases ho : heF s L y q with
              | none =>
                have e1 : heF s L y (q + 1) = some q := by
                  simp only [heF, hx, ho, heC, not_lt_dec, j0, j1, j2, j3, Bool.not_false, Bool.and_self, cond_true]
                simp only [go_sem, Int.cast_ofNat_Int, Int.reduceToNat, Bool.true_xor, Bool.false_xor, Bool.xor_true, Bool.xor_false, Nat.reduceAdd, Nat.reduceBEq, Nat.reduceLeDiff, Nat.reduceLT, Nat.reduceMul, Nat.reduceSub, Int.reduceEq, Int.reduceLT, Int.reduceLE, Int.reduceNeg, hlt, j1, j2, j3, ho, fiI, hw, e1]
                exact ⟨trivial, by first | trivial | rfl, trivial⟩
              | some b =>
                have hbl := (heF_lt s L y q b ho).2
                obtain ⟨z, hz⟩ := getS hbl
                have hbn : decide ((b : Int) < 0) = false := decide_eq_false (by omega)
                cases j4 : decide (x.x < z.x) with
                | true =>
                  have j5 : decide (z.x ≤ x.x) = false := decide_eq_false (by have := of_decide_eq_true j4; omega)
                  have e1 : heF s L y (q + 1) = some q := by
                    simp only [heF, hx, ho, heC, hz, not_lt_dec, j0, j1, j2, j3, j5, Bool.not_false, Bool.and_self, cond_true]
                  simp only [go_sem, Int.cast_ofNat_Int, Int.reduceToNat, Bool.true_xor, Bool.false_xor, Bool.xor_true, Bool.xor_false, Nat.reduceAdd, Nat.reduceBEq, Nat.reduceLeDiff, Nat.reduceLT, Nat.reduceMul, Nat.reduceSub, Int.reduceEq, Int.reduceLT, Int.reduceLE, Int.reduceNeg, hlt, j1, j2, j3, ho, fiI, hbn, hbl, hz, j4, hw, e1]
                  exact ⟨trivial, by first | trivial | rfl, trivial⟩
                | false =>
                  have j5 : decide (z.x ≤ x.x) = true := decide_eq_true (by have := of_decide_eq_false j4; omega)
                  have e1 : heF s L y (q + 1) = some b := by
                    simp only [heF, hx, ho, heC, hz, not_lt_dec, j0, j1, j2, j3, j5, Bool.not_true, Bool.and_false, Bool.false_and, cond_false]
                  simp only [go_sem, Int.cast_ofNat_Int, Int.reduceToNat, Bool.true_xor, Bool.false_xor, Bool.xor_true, Bool.xor_false, Nat.reduceAdd, Nat.reduceBEq, Nat.reduceLeDiff, Nat.reduceLT, Nat.reduceMul, Nat.reduceSub, Int.reduceEq, Int.reduceLT, Int.reduceLE, Int.reduceNeg, hlt, j1, j2, j3, ho, fiI, hbn, hbl, hz, j4, hw, e1]
                  exact ⟨trivial, by first | trivial | rfl, trivial⟩
          · obtain rfl : q = L.length := by omega
            have w1 : w64 (wd : Int) = wd := w64_id (by omega) (by omega)
            have w2 : w64 (y.x - wd) = y.x - wd := w64_id (by omega) (by omega)
            have w3 : w64 (y.y + wd) = y.y + wd := w64_id (by omega) (by omega)
            have h16z := fun H => s16' 22 H s L false y.n y.c (max (y.x - wd) 0) (min (y.y + wd) 1099511627776) hL
            have k3 : liB ⟨y.n, y.c, max (y.x - wd) 0, min (y.y + wd) 1099511627776⟩ = false := by
              simp only [liB, Bool.or_eq_false_iff, decide_eq_false_iff_not]; omega
            simp only [hrV, h0, k1, k3, cond_true, cond_false] at h16z
            cases ho : heF s L y L.length with
            | none =>
              simp only [go_sem, Int.cast_ofNat_Int, Int.reduceToNat, Bool.true_xor, Bool.false_xor, Bool.xor_true, Bool.xor_false, Nat.reduceAdd, Nat.reduceBEq, Nat.reduceLeDiff, Nat.reduceLT, Nat.reduceMul, Nat.reduceSub, Int.reduceEq, Int.reduceLT, Int.reduceLE, Int.reduceNeg, show decide ((L.length : Int) < (L.length : Int)) = false from decide_eq_false (by omega), ho, obI, fiI, Option.isSome_none, w1, w2, w3, h12, h16z]
            | some i =>
              obtain ⟨k, a, b, q1, q2, q3, q4⟩ := he_wider (s := s) (L := L) (y := y) (y' := ⟨y.n, y.c, max (y.x - wd) 0, min (y.y + wd) 1099511627776⟩) rfl rfl (by simp only; omega) (by simp only; omega) ho
              rw [q1] at h16z
              have hi := (List.getElem?_eq_some_iff.1 q3).1
              have hk := (List.getElem?_eq_some_iff.1 q2).1
              have q4' : decide (a.x ≤ b.x) = true := decide_eq_true q4
              have hin : decide ((0 : Int) ≤ (i : Int)) = true := decide_eq_true (by omega)
              simp only [go_sem, Int.cast_ofNat_Int, Int.reduceToNat, Bool.true_xor, Bool.false_xor, Bool.xor_true, Bool.xor_false, Nat.reduceAdd, Nat.reduceBEq, Nat.reduceLeDiff, Nat.reduceLT, Nat.reduceMul, Nat.reduceSub, Int.reduceEq, Int.reduceLT, Int.reduceLE, Int.reduceNeg, show decide ((L.length : Int) < (L.length : Int)) = false from decide_eq_false (by omega), ho, obI, fiI, Option.isSome_some, w1, w2, w3, h12, h16z, hi, hk, q2, q3, q4', hin]
end Go.Sh
namespace Go.Sh
set_option linter.unusedSectionVars false
set_option linter.unnecessarySimpa false
set_option linter.unusedVariables false
set_option linter.unusedSimpArgs false
set_option maxRecDepth 100000
set_option maxHeartbeats 4000000
theorem sn_of {x : SV} (h : FitsA scD x) : ∃ s L f, x = .agg (snA s L f) ∧ L.length ≤ maxLen := by
  obtain ⟨cs, rfl, k⟩ := fitsA_agg h
  obtain ⟨L1, f1, _, rfl, m1, a1, k⟩ := fitsL_l k
  obtain ⟨L2, f2, _, rfl, m2, a2, k⟩ := fitsL_l k
  obtain ⟨L3, f3, _, rfl, m3, a3, k⟩ := fitsL_l k
  obtain ⟨ex, _, rfl, _, k⟩ := fitsL_i k
  obtain ⟨no, _, rfl, _, k⟩ := fitsL_i k
  obtain ⟨th, _, rfl, _, k⟩ := fitsL_i k
  obtain ⟨L4, f4, _, rfl, m4, a4, k⟩ := fitsL_l k
  obtain ⟨L5, f5, _, rfl, m5, a5, k⟩ := fitsL_l k
  obtain ⟨L6, f6, _, rfl, m6, a6, k⟩ := fitsL_l k
  cases fitsL_nil' k
  obtain ⟨N, rfl⟩ := pts_of a1
  obtain ⟨P, rfl⟩ := intsG_of a2
  obtain ⟨W, rfl⟩ := wls_of a3
  obtain ⟨S, rfl, hS⟩ := srs_of a4
  obtain ⟨F, rfl⟩ := fds_of a5
  obtain ⟨L, rfl⟩ := ems_of a6
  exact ⟨⟨N, P, W, f1, f2, f3, ex, no, th, S, f4, F, f5, by simpa [G.ptsS] using m1, by simpa [G.intsS] using m2, by simpa [G.wlsS] using m3, ⟨by simpa [U.srsS] using m4, hS⟩, by simpa [U.fdsS] using m5⟩, L, f6, rfl, by simpa [emsS] using m6⟩
theorem law4 (xs : List SV) (h : FitsAll [scD, emD, (false, [.int .u16])] xs) : ∃ m, call1 T m (.fn 4) xs heap0 = some (.bool true, heap0) := by
  obtain ⟨x1, r1, rfl, h1, h⟩ := fitsAll_cons h
  obtain ⟨x2, r2, rfl, h2, h⟩ := fitsAll_cons h
  obtain ⟨x3, r3, rfl, h3, h⟩ := fitsAll_cons h
  cases fitsAll_nil h
  obtain ⟨s, L, f, rfl, hL⟩ := sn_of h1
  obtain ⟨y, rfl⟩ := em_of h2
  obtain ⟨x, rfl, w⟩ := fits_int (fitsA_one h3)
  simp only [Lit.wf, Bool.and_eq_true, decide_eq_true_eq] at w
  have w1 : IntKind.u16.min = 0 := rfl
  have w2 : IntKind.u16.max = 65535 := rfl
  obtain ⟨wd, rfl⟩ : ∃ wd : Nat, x = wd := ⟨x.toNat, by omega⟩
  exact ⟨41, s4 s L f y wd (by omega) hL⟩
end Go.Sh
namespace Go.Sh
set_option linter.unusedSectionVars false
set_option linter.unnecessarySimpa false
set_option linter.unusedVariables false
set_option linter.unusedSimpArgs false
set_option maxRecDepth 100000
set_option maxHeartbeats 4000000
def othP (a : Em) (i : Nat) (k : Int) (L : List Em) (q : Nat) : Bool := match L[q]? with
  | some x => othB a i k q x
  | none => false
theorem othF_list (a : Em) (i : Nat) (k : Int) (L : List Em) : ∀ q, othF (fun (v : List Nat) j _ => v ++ [j]) a i k L [] q = upto (othP a i k L) q
  | 0 => rfl
  | q + 1 => by
    have ih := othF_list a i k L q
    simp only [othF]
    cases hx : L[q]? with
    | none => rw [upto_no (by simp only [othP, hx])]; exact ih
    | some x =>
      cases hb : othB a i k q x with
      | true => rw [upto_yes (by simp only [othP, hx, hb])]; simp only [hb, cond_true, ih]
      | false => rw [upto_no (by simp only [othP, hx, hb])]; simp only [hb, cond_false, ih]
def dbB (s : Sn) (L : List Em) (i : Nat) (a : Em) (k : Int) : Bool := freeB L a k && hearB s (sig s a k) (ext s a k) && !recB s L i a k
def dbV (s : Sn) (L : List Em) (i k : Int) : SV := bif decide (ckE s L i k = 0) then
    (match L[i.toNat]? with | some a => bif dbB s L i.toNat a k then .tup [.lst 1 (bS (upto (othP a i.toNat k L) L.length)) false, .int .i64 0] else .tup [.lst 0 [] true, .int .i64 0] | none => .tup [.lst 0 [] true, .int .i64 0])
  else .tup [.lst 0 [] true, .int .i64 (ckE s L i k)]
theorem s18 (n : Nat) (H : Heap) (s : Sn) (L : List Em) (f : Bool) (i k : Int) (hL : L.length ≤ maxLen) : call1 T (n + 19) (.fn 18) [.agg (stC s), .agg (spC s), .lst 4 (emsS L) f, .int .i64 i, .int .i64 k] H = some (dbV s L i k, H) := by
  refine call_pure e18 (by rfl) ?_
  have h40 := fun x y es => s40k (n + 8) [x, y] es 0 s L f i k hL (by simp)
  unfold dbV
  cases h0 : decide (ckE s L i k = 0) with
  | false => simp only [c18, heap0, go_sem, Int.cast_ofNat_Int, Int.reduceToNat, Bool.true_xor, Bool.false_xor, Bool.xor_true, Bool.xor_false, Nat.reduceAdd, Nat.reduceBEq, Nat.reduceLeDiff, Nat.reduceLT, Nat.reduceMul, Nat.reduceSub, Int.reduceEq, Int.reduceLT, Int.reduceLE, Int.reduceNeg, h40, h0]
  | true =>
    have h0' := of_decide_eq_true h0
    obtain ⟨hac, ⟨hi0, hi1⟩, hk0, hk1⟩ := ck_yes h0'
    obtain ⟨hok, hL48, _⟩ := sn_ok hac
    obtain ⟨q, rfl⟩ : ∃ q : Nat, i = q := ⟨i.toNat, by omega⟩
    obtain ⟨a, ha⟩ := getS (l := L) (i := q) (by omega)
    have hq : q < L.length := by omega
    have h39 := fun x0 x1 x2 x3 x4 x6 x7 x8 x9 es ro => s39 (n + 1) ⟨[x0, x1, x2, x3, x4, .box (stC s), x6, x7, x8, x9], es, ro⟩ s L f 5 q a k hL ha rfl
    have h41 := fun x0 x1 x2 x3 x4 x5 x6 x7 x8 x9 es ro => s41 (n + 16) ⟨[x0, x1, x2, x3, x4, x5, x6, x7, x8, x9], es, ro⟩ s L f 5 q a k hL ha (by simp)
    have h42 := fun x0 x1 x2 x3 x4 x5 x6 x7 x8 x9 es ro => s42 (n + 5) ⟨[x0, x1, x2, x3, x4, x5, x6, x7, x8, x9], es, ro⟩ s L f 5 a k (by simp)
    have h43 := fun x0 x1 x2 x3 x4 x5 x6 x7 x8 x9 es ro => s43 (n + 5) ⟨[x0, x1, x2, x3, x4, x5, x6, x7, x8, x9], es, ro⟩ s L f 5 q a k ha (by simp)
    have h69 := fun p r x0 x1 x2 x3 x4 x6 x7 x8 x9 es ro => s69 (n + 15) ⟨[x0, x1, x2, x3, x4, .box (stC s), x6, x7, x8, x9], es, ro⟩ s 5 p r rfl
    simp only [c18, heap0, go_sem, Int.cast_ofNat_Int, Int.reduceToNat, Bool.true_xor, Bool.false_xor, Bool.xor_true, Bool.xor_false, Nat.reduceAdd, Nat.reduceBEq, Nat.reduceLeDiff, Nat.reduceLT, Nat.reduceMul, Nat.reduceSub, Int.reduceEq, Int.reduceLT, Int.reduceLE, Int.reduceNeg, h40, h0, h0', ha, Int.toNat_natCast, h41, dbB]
    cases b1 : freeB L a k with
    | false => simp only [go_sem, Int.cast_ofNat_Int, Int.reduceToNat, Bool.true_xor, Bool.false_xor, Bool.xor_true, Bool.xor_false, Nat.reduceAdd, Nat.reduceBEq, Nat.reduceLeDiff, Nat.reduceLT, Nat.reduceMul, Nat.reduceSub, Int.reduceEq, Int.reduceLT, Int.reduceLE, Int.reduceNeg]
    | true =>
      simp only [go_sem, Int.cast_ofNat_Int, Int.reduceToNat, Bool.true_xor, Bool.false_xor, Bool.xor_true, Bool.xor_false, Nat.reduceAdd, Nat.reduceBEq, Nat.reduceLeDiff, Nat.reduceLT, Nat.reduceMul, Nat.reduceSub, Int.reduceEq, Int.reduceLT, Int.reduceLE, Int.reduceNeg, hq, ha, h42, h43, h69]
      cases b2 : hearB s (sig s a k) (ext s a k) with
      | false => simp only [go_sem, Int.cast_ofNat_Int, Int.reduceToNat, Bool.true_xor, Bool.false_xor, Bool.xor_true, Bool.xor_false, Nat.reduceAdd, Nat.reduceBEq, Nat.reduceLeDiff, Nat.reduceLT, Nat.reduceMul, Nat.reduceSub, Int.reduceEq, Int.reduceLT, Int.reduceLE, Int.reduceNeg]
      | true =>
        simp only [go_sem, Int.cast_ofNat_Int, Int.reduceToNat, Bool.true_xor, Bool.false_xor, Bool.xor_true, Bool.xor_false, Nat.reduceAdd, Nat.reduceBEq, Nat.reduceLeDiff, Nat.reduceLT, Nat.reduceMul, Nat.reduceSub, Int.reduceEq, Int.reduceLT, Int.reduceLE, Int.reduceNeg, h39]
        cases b3 : recB s L q a k with
        | true => simp only [go_sem, Int.cast_ofNat_Int, Int.reduceToNat, Bool.true_xor, Bool.false_xor, Bool.xor_true, Bool.xor_false, Nat.reduceAdd, Nat.reduceBEq, Nat.reduceLeDiff, Nat.reduceLT, Nat.reduceMul, Nat.reduceSub, Int.reduceEq, Int.reduceLT, Int.reduceLE, Int.reduceNeg]
        | false =>
          have h44 := fun x0 x1 x2 x3 x4 x5 x6 x7 x8 x9 x10 x11 es => s44k (n + 17) [x0, x1, x2, x3, x4, x5, x6, x7, x8, x9, x10, x11] es 0 s L f 5 q k
          simp only [go_sem, Int.cast_ofNat_Int, Int.reduceToNat, Bool.true_xor, Bool.false_xor, Bool.xor_true, Bool.xor_false, Nat.reduceAdd, Nat.reduceBEq, Nat.reduceLeDiff, Nat.reduceLT, Nat.reduceMul, Nat.reduceSub, Int.reduceEq, Int.reduceLT, Int.reduceLE, Int.reduceNeg, h44]
          refine G.onSome_of _ (s73 (n + 16) _ _ [.box (stC s), .box (spC s), .box (stC s), .box (spC s), .box (snC s L f 5), .box (stC s), .box (spC s), .box (snC s L f 5), .box (snC s L f 5)] 0 _ (fun (v : List Nat) => .arr v.length 1 (bS v) false) (fun v => .box [.slc 10 v.length 0 v.length]) (fun v j _ => v ++ [j]) s L f 5 q a k hL ha (by simp) (by simp)
            (fun (j : Nat) (v : List Nat) => v.length ≤ j) (fun v j h => by omega) (fun v j x h => by simp; omega) ?_ [] (by simp)) ?_
          · intro v j x X hP hj hx
            have rb := room_le (n := v.length) (by omega) 8 (by omega)
            have gb := fun H => apB_grow 1 H 10 v.length v.length [[.int .i64 (j : Int)]] (bS v) (bS_len _)
            refine yld_in rfl rfl ?_
            simp only [go_sem, Int.cast_ofNat_Int, Int.reduceToNat, Bool.true_xor, Bool.false_xor, Bool.xor_true, Bool.xor_false, Nat.reduceAdd, Nat.reduceBEq, Nat.reduceLeDiff, Nat.reduceLT, Nat.reduceMul, Nat.reduceSub, Int.reduceEq, Int.reduceLT, Int.reduceLE, Int.reduceNeg, rb, gb, bS_snoc, List.length_append]
          · have ho := othF_list a q k L L.length
            simp only [go_sem, Int.cast_ofNat_Int, Int.reduceToNat, Bool.true_xor, Bool.false_xor, Bool.xor_true, Bool.xor_false, Nat.reduceAdd, Nat.reduceBEq, Nat.reduceLeDiff, Nat.reduceLT, Nat.reduceMul, Nat.reduceSub, Int.reduceEq, Int.reduceLT, Int.reduceLE, Int.reduceNeg, ho]
end Go.Sh
namespace Go.Sh
set_option linter.unusedSectionVars false
set_option linter.unnecessarySimpa false
set_option linter.unusedVariables false
set_option linter.unusedSimpArgs false
set_option maxRecDepth 100000
set_option maxHeartbeats 4000000
/-! ### Bounds; interference as a sum -/
theorem sg_eq {B f : Int} (hB : G.powI B = true) (h0 : 0 ≤ f) (h1 : f ≤ 1000) : U.sgV B f = B * f / 1000 := by
  rw [G.pow_iff] at hB
  have hm : B * f ≤ B * 1000 := Int.mul_le_mul_of_nonneg_left h1 hB.1
  have hn : 0 ≤ B * f := Int.mul_nonneg hB.1 h0
  have e1 : w64 (B * f) = B * f := w64_id (by omega) (by omega)
  have e2 : (B * f).tdiv 1000 = B * f / 1000 := Int.tdiv_eq_ediv_of_nonneg hn
  unfold U.sgV
  rw [e1, e2]
  exact w64_id (by omega) (by omega)
theorem sg_rng {B f : Int} (hB : G.powI B = true) (h0 : 0 ≤ f) (h1 : f ≤ 1000) : 0 ≤ U.sgV B f ∧ U.sgV B f ≤ 68719476736 := by
  rw [sg_eq hB h0 h1]
  rw [G.pow_iff] at hB
  have hm : B * f ≤ B * 1000 := Int.mul_le_mul_of_nonneg_left h1 hB.1
  have hn : 0 ≤ B * f := Int.mul_nonneg hB.1 h0
  omega
theorem sig_rng {s : Sn} (h : okSn s = true) (a : Em) (k : Int) : 0 ≤ sig s a k ∧ sig s a k ≤ 68719476736 := by
  simp only [okSn, Bool.and_eq_true] at h
  unfold sig U.V3
  cases hc : okSn s && G.inI s.N a.n k && (U.chanB a.c && U.tmB a.x) with
  | false => simp only [cond_false]; omega
  | true =>
    simp only [Bool.and_eq_true] at hc
    simp only [cond_true]
    have hp := (G.btw_eq (W := s.W) (ex := s.ex) h.1 hc.1.2).2
    have hl := U.le_rng (U.apF a.n k a.c a.x) (U.ckB_f0 h.2)
    exact sg_rng hp hl.1 hl.2
theorem exR_rng {N : List (Int × Int)} {P : List Int} {W : List G.Wl} {ex no th : Int} (hok : G.okI N P W ex no th = true) (k : Nat) (s : U.Src) : 0 ≤ U.exR N P W ex no th k s ∧ U.exR N P W ex no th k s ≤ 68719476736 := by
  unfold U.exR
  cases ha : G.argI s.a s.b s.p (G.nd N k).1 (G.nd N k).2 with
  | false => simp only [G.AtV, hok, Bool.and_false, cond_false]; omega
  | true =>
    have := G.pow_iff.1 (G.at_eq hok ha).2
    simp only [G.AtV, hok, Bool.and_self, cond_true]; exact this
theorem fold_rng {f : U.Src → Int} (h : ∀ s, 0 ≤ f s ∧ f s ≤ 68719476736) (c x y : Int) : ∀ (S : List U.Src) (v : Int), 0 ≤ v → v + S.length * 68719476736 ≤ 4611686018427387904 →
    0 ≤ S.foldl (U.hitF (fun v s => w64 (v + f s)) c x y) v ∧ S.foldl (U.hitF (fun v s => w64 (v + f s)) c x y) v ≤ v + S.length * 68719476736
  | [], v, h0, _ => by simp only [List.foldl_nil, List.length_nil]; omega
  | s :: S, v, h0, hb => by
    have hs := h s
    simp only [List.length_cons] at hb ⊢
    simp only [List.foldl_cons, U.hitF]
    split
    · have e : w64 (v + f s) = v + f s := w64_id (by omega) (by omega)
      rw [e]
      have := fold_rng h c x y S (v + f s) (by omega) (by omega)
      omega
    · have := fold_rng h c x y S v h0 (by omega)
      omega
theorem ext_rng {s : Sn} (h : okSn s = true) (a : Em) (k : Int) : 0 ≤ ext s a k ∧ ext s a k ≤ 1099511627776 := by
  simp only [okSn, Bool.and_eq_true] at h
  unfold ext U.V3
  cases hc : okSn s && U.inB s.N.length k && (U.chanB a.c && U.ivB a.x a.y) with
  | false => simp only [cond_false]; omega
  | true =>
    simp only [cond_true]
    have hS : s.S.length ≤ 16 := by
      have := h.2
      simp only [U.ckB, Bool.and_eq_true, decide_eq_true_eq] at this
      omega
    have := fold_rng (f := U.exR s.N s.P s.W s.ex s.no s.th k.toNat) (fun t => exR_rng h.1 _ t) a.c a.x a.y s.S 0 (by omega) (by omega)
    unfold U.extV
    omega
def osum (g : Em → Int) (a : Em) (i : Nat) (k : Int) (L : List Em) : Nat → Int
  | 0 => 0
  | q + 1 => match L[q]? with
    | some x => osum g a i k L q + bif othB a i k q x then g x else 0
    | none => osum g a i k L q
theorem osum_rng {g : Em → Int} (h : ∀ x, 0 ≤ g x ∧ g x ≤ 68719476736) (a : Em) (i : Nat) (k : Int) (L : List Em) : ∀ q, 0 ≤ osum g a i k L q ∧ osum g a i k L q ≤ q * 68719476736
  | 0 => by simp [osum]
  | q + 1 => by
    have ih := osum_rng h a i k L q
    simp only [osum]
    cases L[q]? with
    | none => simp only; omega
    | some x =>
      have := h x
      simp only
      cases othB a i k q x <;> simp only [cond_true, cond_false] <;> omega
theorem othF_sum {g : Em → Int} (h : ∀ x, 0 ≤ g x ∧ g x ≤ 68719476736) (a : Em) (i : Nat) (k : Int) (L : List Em) (e : Int) (h0 : 0 ≤ e) (h1 : e ≤ 1099511627776) : ∀ q, q ≤ 1000 → othF (fun v _ x => w64 (v + g x)) a i k L e q = e + osum g a i k L q
  | 0, _ => by simp [othF, osum]
  | q + 1, hq => by
    have ih := othF_sum h a i k L e h0 h1 q (by omega)
    have hr := osum_rng h a i k L q
    simp only [othF, osum]
    cases L[q]? with
    | none => exact ih
    | some x =>
      have := h x
      simp only
      cases othB a i k q x with
      | false => simp only [cond_false]; rw [ih]; omega
      | true =>
        simp only [cond_true]
        rw [ih, w64_id (by omega) (by omega)]
        omega
theorem inter_sum {s : Sn} (h : okSn s = true) {L : List Em} (hL : L.length ≤ 1000) (i : Nat) (a : Em) (k : Int) : inter s L i a k = ext s a k + osum (fun x => sig s x k) a i k L L.length :=
  othF_sum (fun x => sig_rng h x k) a i k L _ (ext_rng h a k).1 (ext_rng h a k).2 _ hL
theorem osum_ge {g : Em → Int} (h : ∀ x, 0 ≤ g x ∧ g x ≤ 68719476736) {a : Em} {i : Nat} {k : Int} {L : List Em} {j : Nat} {x : Em} (hx : L[j]? = some x) (ho : othB a i k j x = true) : ∀ q, j < q → g x ≤ osum g a i k L q
  | 0, hq => by omega
  | q + 1, hq => by
    have hr := osum_rng h a i k L q
    simp only [osum]
    rcases Nat.lt_or_ge j q with h3 | h3
    · have ih := osum_ge h hx ho q h3
      cases L[q]? with
      | none => exact ih
      | some y =>
        have := h y
        simp only
        cases othB a i k q y <;> simp only [cond_true, cond_false] <;> omega
    · obtain rfl : j = q := by omega
      simp only [hx, ho, cond_true]
      omega
/-- What is heard is greater than the interference. -/
theorem hear_lt {s : Sn} (h : okSn s = true) {p q : Int} (hp : 0 ≤ p ∧ p ≤ 68719476736) (hq : 0 ≤ q) (hh : hearB s p q = true) : q < p := by
  have hr : 1000 ≤ s.th ∧ s.th ≤ 100000 ∧ 1 ≤ s.no ∧ s.no ≤ 68719476736 := by
    simp only [okSn, G.okI, G.okB, G.rightI, Bool.and_eq_true, decide_eq_true_eq] at h
    omega
  have hq' := of_decide_eq_true hh
  unfold mgI at hq'
  have hc : (G.powI p && (decide (1000 ≤ s.th) && decide (s.th ≤ 100000) && decide (1 ≤ s.no) && decide (s.no ≤ 68719476736))) = true := by
    rw [Bool.and_eq_true, G.pow_iff]
    simp only [Bool.and_eq_true, decide_eq_true_eq]
    omega
  rw [hc, cond_true] at hq'
  have e1 : w64 (1000 * p) = 1000 * p := w64_id (by omega) (by omega)
  have e2 : (1000 * p).tdiv s.th = 1000 * p / s.th := Int.tdiv_eq_ediv_of_nonneg (by omega)
  have e3 : 1000 * p / s.th ≤ p := by
    refine Int.ediv_le_of_le_mul (by omega) ?_
    have : p * 1000 ≤ p * s.th := Int.mul_le_mul_of_nonneg_left hr.1 hp.1
    omega
  have e4 : 0 ≤ 1000 * p / s.th := Int.ediv_nonneg (by omega) (by omega)
  rw [e1, e2, w64_id (n := 1000 * p / s.th) (by omega) (by omega), w64_id (by omega) (by omega)] at hq'
  omega
end Go.Sh
namespace Go.Sh
set_option linter.unusedSectionVars false
set_option linter.unnecessarySimpa false
set_option linter.unusedVariables false
set_option linter.unusedSimpArgs false
set_option maxRecDepth 100000
set_option maxHeartbeats 4000000
/-! ### Valid lists -/
def VL (n : Nat) (L : List Em) : Prop := (∀ x ∈ L, U.inB n x.n = true ∧ emB x = true) ∧ L.Pairwise (fun b a => clashB a b = false)
theorem emE_zero {n : Nat} {pre : List Em} {a : Em} : emE n pre a = 0 ↔ U.inB n a.n = true ∧ emB a = true ∧ pre.any (clashB a) = false := by
  cases h1 : U.inB n a.n with
  | false => rw [emE_7 h1]; simp
  | true =>
    cases h2 : emB a with
    | false => rw [emE_2 h1 h2]; simp
    | true =>
      cases h3 : pre.any (clashB a) with
      | false => rw [emE_0 h1 h2 h3]; simp
      | true => rw [emE_16 h1 h2 h3]; simp
theorem chE_all {n : Nat} {L : List Em} (h : chE n L = 0) : ∀ (j : Nat) b, L[j]? = some b → emE n (L.take j) b = 0 := by
  have key : ∀ m : Nat, ∀ (j : Nat) b, j < m → L[j]? = some b → emE n (L.take j) b = 0 := by
    intro m
    induction m with
    | zero => intro j b hj; omega
    | succ m ih =>
      intro j b hj hb
      rcases Nat.lt_or_ge j m with h3 | h3
      · exact ih j b h3 hb
      · obtain rfl : j = m := by omega
        refine Classical.byContradiction fun hne => ?_
        have := chF_at hb ih hne
        rw [h] at this
        exact hne this.symm
  exact fun j b hb => key (j + 1) j b (by omega) hb
theorem chE_iff {n : Nat} {L : List Em} : chE n L = 0 ↔ VL n L := by
  constructor
  · intro h
    have ha := chE_all h
    refine ⟨fun x hx => ?_, List.pairwise_iff_getElem.2 (fun i j hi hj hij => ?_)⟩
    · obtain ⟨j, hj⟩ := List.getElem?_of_mem hx
      have := emE_zero.1 (ha j x hj)
      exact ⟨this.1, this.2.1⟩
    · have := (emE_zero.1 (ha j L[j] (List.getElem?_eq_getElem hj))).2.2
      rw [List.any_eq_false] at this
      have hm : L[i] ∈ L.take j := List.mem_of_getElem? (i := i) (by rw [List.getElem?_take, if_pos hij]; exact List.getElem?_eq_getElem hi)
      simpa using this _ hm
  · rintro ⟨h1, h2⟩
    refine chF_ok (fun j b hb => emE_zero.2 ⟨(h1 b (List.mem_of_getElem? hb)).1, (h1 b (List.mem_of_getElem? hb)).2, ?_⟩)
    rw [List.any_eq_false]
    intro x hx
    obtain ⟨i, hi⟩ := List.getElem?_of_mem hx
    have hij : i < j := by have := (List.getElem?_eq_some_iff.1 hi).1; simp at this; omega
    rw [List.getElem?_take, if_pos hij] at hi
    obtain ⟨hil, hi'⟩ := List.getElem?_eq_some_iff.1 hi
    obtain ⟨hjl, hb'⟩ := List.getElem?_eq_some_iff.1 hb
    have := List.pairwise_iff_getElem.1 h2 i j hil hjl hij
    rw [hi', hb'] at this
    simp [this]
theorem VL.sub {n : Nat} {L M : List Em} (h : VL n M) (hs : List.Sublist L M) : VL n L := ⟨fun x hx => h.1 x (hs.subset hx), h.2.sublist hs⟩
theorem ac_sub {s : Sn} {L M : List Em} (h : acE (okSn s) s.N.length M = 0) (hs : List.Sublist L M) : acE (okSn s) s.N.length L = 0 := by
  obtain ⟨h1, h2, h3⟩ := sn_ok h
  have hl := hs.length_le
  unfold acE
  rw [h1, cond_true, decide_eq_false (by omega), cond_false]
  exact chE_iff.2 ((chE_iff.1 h3).sub hs)
theorem ck_of {s : Sn} {L : List Em} {i k : Int} (h : acE (okSn s) s.N.length L = 0) (h1 : 0 ≤ i ∧ i < L.length) (h2 : 0 ≤ k ∧ k < s.N.length) : ckE s L i k = 0 := by
  simp only [ckE, h, decide_true, cond_true, decide_eq_false (show ¬ i < 0 by omega), decide_eq_false (show ¬ (L.length : Int) ≤ i by omega), decide_eq_false (show ¬ k < 0 by omega), decide_eq_false (show ¬ (s.N.length : Int) ≤ k by omega)]
  rfl
/-- The emissions of a node, and the emission i. -/
def als (L : List Em) (i : Nat) (k : Int) : Nat → List Em
  | 0 => []
  | q + 1 => match L[q]? with
    | some x => bif decide ((q : Int) = (i : Int)) || decide (x.n = k) then als L i k q ++ [x] else als L i k q
    | none => als L i k q
theorem als_yes {L : List Em} {i : Nat} {k : Int} {q : Nat} {x : Em} (hx : L[q]? = some x) (h : (decide ((q : Int) = (i : Int)) || decide (x.n = k)) = true) : als L i k (q + 1) = als L i k q ++ [x] := by
  simp only [als, hx, h, cond_true]
theorem als_no {L : List Em} {i : Nat} {k : Int} {q : Nat} {x : Em} (hx : L[q]? = some x) (h : (decide ((q : Int) = (i : Int)) || decide (x.n = k)) = false) : als L i k (q + 1) = als L i k q := by
  simp only [als, hx, h, cond_false]
theorem als_out {L : List Em} {i : Nat} {k : Int} {q : Nat} (hx : L[q]? = none) : als L i k (q + 1) = als L i k q := by
  simp only [als, hx]
theorem als_sub (L : List Em) (i : Nat) (k : Int) : ∀ q, List.Sublist (als L i k q) (L.take q)
  | 0 => by simp [als]
  | q + 1 => by
    have ih := als_sub L i k q
    cases hx : L[q]? with
    | none => rw [als_out hx, List.take_add_one, hx]; simpa using ih
    | some x =>
      rw [take_snoc hx]
      cases hc : decide ((q : Int) = (i : Int)) || decide (x.n = k) with
      | true => rw [als_yes hx hc]; exact List.Sublist.append ih (List.Sublist.refl _)
      | false => rw [als_no hx hc]; exact ih.trans (List.sublist_append_left _ _)
theorem als_mem {L : List Em} {i : Nat} {k : Int} : ∀ q x, x ∈ als L i k q ↔ ∃ j, j < q ∧ L[j]? = some x ∧ (j = i ∨ x.n = k)
  | 0, x => by simp [als]
  | q + 1, x => by
    have ih := als_mem (L := L) (i := i) (k := k) q x
    cases hx : L[q]? with
    | none =>
      rw [als_out hx, ih]
      constructor
      · rintro ⟨j, h1, h2⟩; exact ⟨j, by omega, h2⟩
      · rintro ⟨j, h1, h2⟩
        refine ⟨j, ?_, h2⟩
        rcases Nat.lt_or_ge j q with h3 | h3
        · exact h3
        · obtain rfl : j = q := by omega
          rw [hx] at h2; cases h2.1
    | some y =>
      cases hc : decide ((q : Int) = (i : Int)) || decide (y.n = k) with
      | true =>
        rw [als_yes hx hc]
        simp only [Bool.or_eq_true, decide_eq_true_eq] at hc
        simp only [List.mem_append, List.mem_singleton, ih]
        constructor
        · rintro (⟨j, h1, h2⟩ | rfl)
          · exact ⟨j, by omega, h2⟩
          · exact ⟨q, by omega, hx, by omega⟩
        · rintro ⟨j, h1, h2, h4⟩
          rcases Nat.lt_or_ge j q with h3 | h3
          · exact .inl ⟨j, h3, h2, h4⟩
          · obtain rfl : j = q := by omega
            rw [hx] at h2; cases h2; exact .inr rfl
      | false =>
        rw [als_no hx hc]
        simp only [Bool.or_eq_false_iff, decide_eq_false_iff_not] at hc
        simp only [ih]
        constructor
        · rintro ⟨j, h1, h2⟩; exact ⟨j, by omega, h2⟩
        · rintro ⟨j, h1, h2, h4⟩
          rcases Nat.lt_or_ge j q with h3 | h3
          · exact ⟨j, h3, h2, h4⟩
          · obtain rfl : j = q := by omega
            rw [hx] at h2; cases h2
            rcases h4 with h4 | h4
            · exact absurd (by omega) hc.1
            · exact absurd h4 hc.2
theorem als_pre {L : List Em} {i : Nat} {k : Int} : ∀ (q d : Nat), ∃ R, als L i k (q + d) = als L i k q ++ R
  | q, 0 => ⟨[], by simp⟩
  | q, d + 1 => by
    obtain ⟨R, hR⟩ := als_pre (L := L) (i := i) (k := k) q d
    rw [← Nat.add_assoc]
    cases hx : L[q + d]? with
    | none => exact ⟨R, by rw [als_out hx]; exact hR⟩
    | some x =>
      cases hc : decide (((q + d : Nat) : Int) = (i : Int)) || decide (x.n = k) with
      | true => exact ⟨R ++ [x], by rw [als_yes hx hc, hR, List.append_assoc]⟩
      | false => exact ⟨R, by rw [als_no hx hc]; exact hR⟩
theorem als_at {L : List Em} {i : Nat} {k : Int} {a : Em} (ha : L[i]? = some a) {q : Nat} (hq : i < q) : (als L i k q)[(als L i k i).length]? = some a := by
  obtain ⟨R, hR⟩ := als_pre (L := L) (i := i) (k := k) (i + 1) (q - (i + 1))
  rw [show i + 1 + (q - (i + 1)) = q by omega] at hR
  have e : als L i k (i + 1) = als L i k i ++ [a] := by simp only [als, ha, decide_true, Bool.true_or, cond_true]
  rw [hR, e, List.append_assoc, List.getElem?_append_right (Nat.le_refl _), Nat.sub_self]
  rfl
theorem als_free {L : List Em} {i : Nat} {k : Int} {a : Em} (ha : L[i]? = some a) : freeB (als L i k L.length) a k = freeB L a k := by
  unfold freeB
  congr 1
  rw [Bool.eq_iff_iff, List.any_eq_true, List.any_eq_true]
  constructor
  · rintro ⟨x, hx, h⟩
    obtain ⟨j, _, hj, _⟩ := (als_mem _ _).1 hx
    exact ⟨x, List.mem_of_getElem? hj, h⟩
  · rintro ⟨x, hx, h⟩
    obtain ⟨j, hj⟩ := List.getElem?_of_mem hx
    simp only [Bool.and_eq_true, decide_eq_true_eq] at h
    exact ⟨x, (als_mem _ _).2 ⟨j, (List.getElem?_eq_some_iff.1 hj).1, hj, .inr h.1⟩, by simp [h]⟩
theorem osum_none {g : Em → Int} {a : Em} {i : Nat} {k : Int} {L : List Em} : ∀ q, (∀ (j : Nat) x, j < q → L[j]? = some x → othB a i k j x = false) → osum g a i k L q = 0
  | 0, _ => rfl
  | q + 1, h => by
    have ih := osum_none (g := g) (a := a) (i := i) (k := k) (L := L) q (fun j x hj => h j x (by omega))
    simp only [osum]
    cases hx : L[q]? with
    | none => exact ih
    | some x => simp only [h q x (by omega) hx, cond_false, ih]; omega
/-- Alone nothing interferes. -/
theorem clash_self {n : Nat} {L : List Em} (h : VL n L) {a : Em} {i j : Nat} (hi : L[i]? = some a) (hj : L[j]? = some a) : i = j := by
  have hv := (h.1 a (List.mem_of_getElem? hi)).2
  have hc : clashB a a = true := by
    simp only [emB, Bool.and_eq_true, decide_eq_true_eq] at hv
    simp only [clashB, ovB, decide_true, Bool.true_and, decide_eq_true_eq]
    omega
  obtain ⟨hil, hi'⟩ := List.getElem?_eq_some_iff.1 hi
  obtain ⟨hjl, hj'⟩ := List.getElem?_eq_some_iff.1 hj
  rcases Nat.lt_trichotomy i j with h1 | h1 | h1
  · have := List.pairwise_iff_getElem.1 h.2 i j hil hjl h1
    rw [hi', hj', hc] at this; cases this
  · exact h1
  · have := List.pairwise_iff_getElem.1 h.2 j i hjl hil h1
    rw [hi', hj', hc] at this; cases this
theorem als_inter {s : Sn} (h : okSn s = true) {L : List Em} (hv : VL s.N.length L) (hL : L.length ≤ 1000) {i : Nat} {k : Int} {a : Em} (ha : L[i]? = some a) :
    inter s (als L i k L.length) (als L i k i).length a k = ext s a k := by
  have hl : (als L i k L.length).length ≤ 1000 := Nat.le_trans (als_sub L i k _).length_le (by simp; omega)
  rw [inter_sum h hl, osum_none]
  · omega
  · intro j x hj hx
    obtain ⟨p, hp, hpx, hpk⟩ := (als_mem _ _).1 (List.mem_of_getElem? hx)
    have hi := (List.getElem?_eq_some_iff.1 ha).1
    rcases hpk with rfl | hpk
    · rw [ha] at hpx; cases hpx
      have hs : List.Sublist (als L p k L.length) L := by have := als_sub L p k L.length; rwa [List.take_length] at this
      have := clash_self (hv.sub hs) hx (als_at ha hi)
      simp [othB, this]
    · simp [othB, hpk]
end Go.Sh
namespace Go.Sh
set_option linter.unusedSectionVars false
set_option linter.unnecessarySimpa false
set_option linter.unusedVariables false
set_option linter.unusedSimpArgs false
set_option maxRecDepth 100000
set_option maxHeartbeats 4000000
theorem s74 (n : Nat) (H : Heap) (a : Int) : call1 T (n + 1) (.fn 74) [.int .i64 a] H = some (.bool false, H) := by
  refine call_pure e74 (by rfl) ?_
  simp only [c74, heap0, go_sem, Int.cast_ofNat_Int, Int.reduceToNat, Bool.true_xor, Bool.false_xor, Bool.xor_true, Bool.xor_false, Nat.reduceAdd, Nat.reduceBEq, Nat.reduceLeDiff, Nat.reduceLT, Nat.reduceMul, Nat.reduceSub, Int.reduceEq, Int.reduceLT, Int.reduceLE, Int.reduceNeg]
theorem s45 (n : Nat) (H : Heap) (a b : Int) : call1 T (n + 2) (.fn 45) [.int .i64 a, .int .i64 b] H = some (.bool (decide (a < b)), H) := by
  refine call_pure e45 (by rfl) ?_
  simp only [c45, heap0, go_sem, Int.cast_ofNat_Int, Int.reduceToNat, Bool.true_xor, Bool.false_xor, Bool.xor_true, Bool.xor_false, Nat.reduceAdd, Nat.reduceBEq, Nat.reduceLeDiff, Nat.reduceLT, Nat.reduceMul, Nat.reduceSub, Int.reduceEq, Int.reduceLT, Int.reduceLE, Int.reduceNeg, s74]
theorem s19 (n : Nat) (H : Heap) (L : List Nat) (f : Bool) (hL : L.length ≤ 1000) (hs : L.Pairwise (· < ·)) : call1 T (n + 3) (.fn 19) [.lst 1 (bS L) f] H = some (.bool true, H) := by
  refine call_pure e19 (by rfl) ?_
  simp only [c19, heap0, go_sem, Int.cast_ofNat_Int, Int.reduceToNat, Bool.true_xor, Bool.false_xor, Bool.xor_true, Bool.xor_false, Nat.reduceAdd, Nat.reduceBEq, Nat.reduceLeDiff, Nat.reduceLT, Nat.reduceMul, Nat.reduceSub, Int.reduceEq, Int.reduceLT, Int.reduceLE, Int.reduceNeg]
  refine loop_rule (fun i => ([(0, .lst 1 (bS L) f), (3, .int .i64 (w64 ((L.length : Int) - 1) - i))], ⟨[], [], 0⟩)) (fun _ => True) (L.length - 1) ?_ trivial ?_
  · simp only [go_sem, Int.cast_ofNat_Int, Int.reduceToNat, Bool.true_xor, Bool.false_xor, Bool.xor_true, Bool.xor_false, Nat.reduceAdd, Nat.reduceBEq, Nat.reduceLeDiff, Nat.reduceLT, Nat.reduceMul, Nat.reduceSub, Int.reduceEq, Int.reduceLT, Int.reduceLE, Int.reduceNeg, Int.sub_zero] <;> rfl
  · intro i hi _
    by_cases h0 : 2 ≤ L.length ∧ i < L.length - 1
    · have e1 : w64 ((L.length : Int) - 1) - i = ((L.length - 2 - i + 1 : Nat) : Int) := by rw [w64_id (by omega) (by omega)]; omega
      obtain ⟨x, hx⟩ := getS (l := L) (i := L.length - 2 - i) (by omega)
      obtain ⟨y, hy⟩ := getS (l := L) (i := L.length - 2 - i + 1) (by omega)
      have hxy : x < y := by
        obtain ⟨h1, rfl⟩ := List.getElem?_eq_some_iff.1 hx
        obtain ⟨h2, rfl⟩ := List.getElem?_eq_some_iff.1 hy
        exact List.pairwise_iff_getElem.1 hs _ _ h1 h2 (by omega)
      have q1 : decide ((0 : Int) < ((L.length - 2 - i + 1 : Nat) : Int)) = true := decide_eq_true (by omega)
      have q2 : L.length - 2 - i + 1 < L.length := by omega
      have q3 : w64 (((L.length - 2 - i + 1 : Nat) : Int) - 1) = ((L.length - 2 - i : Nat) : Int) := by rw [w64_id (by omega) (by omega)]; omega
      have q4 : L.length - 2 - i < L.length := by omega
      have q5 : decide ((y : Int) < (x : Int)) = false := decide_eq_false (by omega)
      have q6 : w64 ((L.length : Int) - 1) - ((i + 1 : Nat) : Int) = ((L.length - 2 - i : Nat) : Int) := by rw [w64_id (by omega) (by omega)]; omega
      simp only [go_sem, Int.cast_ofNat_Int, Int.reduceToNat, Bool.true_xor, Bool.false_xor, Bool.xor_true, Bool.xor_false, Nat.reduceAdd, Nat.reduceBEq, Nat.reduceLeDiff, Nat.reduceLT, Nat.reduceMul, Nat.reduceSub, Int.reduceEq, Int.reduceLT, Int.reduceLE, Int.reduceNeg, e1, q1, q2, hy, q3, q4, hx, s45, q5, q6]
      refine ⟨h0.2, by first | trivial | rfl, trivial⟩
    · have q1 : decide (0 < w64 ((L.length : Int) - 1) - i) = false := decide_eq_false (by rw [w64_id (by omega) (by omega)]; omega)
      simp only [go_sem, Int.cast_ofNat_Int, Int.reduceToNat, Bool.true_xor, Bool.false_xor, Bool.xor_true, Bool.xor_false, Nat.reduceAdd, Nat.reduceBEq, Nat.reduceLeDiff, Nat.reduceLT, Nat.reduceMul, Nat.reduceSub, Int.reduceEq, Int.reduceLT, Int.reduceLE, Int.reduceNeg, q1]
theorem s19z (H : Heap) : call1 T 40 (.fn 19) [.lst 0 [] true] H = some (.bool true, H) := pure_any e19 (by rfl) (callB_up (T := T) 100 40 (.fn 19) [.lst 0 [] true] heap0 (.bool true, heap0) (by kernel_rfl))
theorem s21 (n : Nat) (X : List SBlk) (es : List (Nat × Nat)) (ro : Nat) (s : Sn) (L : List Em) (f : Bool) (i j : Nat) (k : Int) (a x : Em) (ha : L[i]? = some a) (hx : L[j]? = some x) (ho : othB a i k j x = true) :
    call1 T (n + 2) (.fn 21) [.int .i64 j, .ptr 0 0 0 0, .ptr 1 0 0 0, .ptr 2 0 0 0] ⟨.box (snA s L f) :: .box [.int .i64 i] :: .box [.int .i64 k] :: X, es, ro⟩ =
      some (.bool false, ⟨.box (snA s L f) :: .box [.int .i64 i] :: .box [.int .i64 k] :: X, es, ro⟩) := by
  refine call_ro e21 rfl rfl (fun RR kk bl ro' hbl => ?_)
  have hbl : bl = .box (snA s L f) :: .box [.int .i64 i] :: .box [.int .i64 k] :: X := by
    rcases hbl with ⟨_, h2⟩ | h
    · simp [SV.refs.refsL, SV.refs] at h2
    · exact h
  subst hbl
  have hi := (List.getElem?_eq_some_iff.1 ha).1
  have hj := (List.getElem?_eq_some_iff.1 hx).1
  simp only [othB, Bool.and_eq_true, Bool.not_eq_true'] at ho
  obtain ⟨⟨⟨o1, o2⟩, o3⟩, o4⟩ := ho
  have h14 := fun H => s14 n H x a
  rw [ov_comm] at o4
  have n1 : decide ((j : Int) < 0) = false := decide_eq_false (by omega)
  have n2 : decide ((L.length : Int) ≤ (j : Int)) = false := decide_eq_false (by omega)
  simp only [c21, go_sem, Int.cast_ofNat_Int, Int.reduceToNat, Bool.true_xor, Bool.false_xor, Bool.xor_true, Bool.xor_false, Nat.reduceAdd, Nat.reduceBEq, Nat.reduceLeDiff, Nat.reduceLT, Nat.reduceMul, Nat.reduceSub, Int.reduceEq, Int.reduceLT, Int.reduceLE, Int.reduceNeg, n1, n2, hi, hj, ha, hx, o1, o2, o3, h14, o4]
theorem emsS_snoc (L : List Em) (x : Em) : emsS L ++ [emC x] = emsS (L ++ [x]) := by simp [emsS]
theorem ems_refs (L : List Em) : SV.refs.refsL (emsS L).flatten = 0 := (ems_still L).zero
theorem db_len {s : Sn} (h : okSn s = true) {L : List Em} (hL : L.length ≤ 1000) {i : Nat} {a : Em} {k : Int} (hd : dbB s L i a k = true) : 0 < (upto (othP a i k L) L.length).length := by
  refine Nat.pos_of_ne_zero fun h0 => ?_
  have h0 := List.eq_nil_of_length_eq_zero h0
  simp only [dbB, Bool.and_eq_true, Bool.not_eq_true', recB] at hd
  obtain ⟨⟨d1, d2⟩, d3⟩ := hd
  have : inter s L i a k = ext s a k := by
    rw [inter_sum h hL, osum_none]
    · omega
    · intro j x hj hx
      refine Bool.eq_false_iff.2 fun ho => ?_
      have : j ∈ upto (othP a i k L) L.length := upto_mem.2 ⟨hj, by simp only [othP, hx, ho]⟩
      rw [h0] at this; cases this
  rw [d1, this, d2] at d3
  cases d3
end Go.Sh
namespace Go.Sh
set_option linter.unusedSectionVars false
set_option linter.unnecessarySimpa false
set_option linter.unusedVariables false
set_option linter.unusedSimpArgs false
set_option maxRecDepth 100000
set_option maxHeartbeats 4000000
def blR (s : Sn) (L : List Em) (q : Nat) (a : Em) (k : Int) : SV := bif dbB s L q a k then .lst 1 (bS (upto (othP a q k L) L.length)) false else .lst 0 [] true
theorem bl_len (s L q a k) : ∃ n : Nat, (∀ H, cur H (blR s L q a k) = true) ∧ lenL (blR s L q a k) = some n ∧ (n = if dbB s L q a k = true then (upto (othP a q k L) L.length).length else 0) ∧ (blR s L q a k).refs = 0 := by
  unfold blR
  cases dbB s L q a k with
  | true => exact ⟨_, fun H => by simp [cur], by simp only [cond_true, ln_lst, bS_len]; rfl, rfl, by simp [SV.refs]⟩
  | false => exact ⟨0, fun H => by simp [cur], by simp [lenL], rfl, by simp [SV.refs]⟩
theorem s5 (s : Sn) (L : List Em) (f : Bool) (i k : Int) (hL : L.length ≤ maxLen) : call1 T 41 (.fn 5) [.agg (snA s L f), .int .i64 i, .int .i64 k] heap0 = some (.bool true, heap0) := by
  refine call_pure e5 (by rfl) ?_
  have h9 := s9
  have h10 := fun H => s10 36 H s.N s.P s.W s.g1 s.g2 s.g3 s.ex s.no s.th s.S s.f1 s.F s.f2 L f s.hS.1
  cases hf : fwB s.N s.P s.W s.S s.F L with
  | false => simp only [c5, heap0, go_sem, Int.cast_ofNat_Int, Int.reduceToNat, Bool.true_xor, Bool.false_xor, Bool.xor_true, Bool.xor_false, Nat.reduceAdd, Nat.reduceBEq, Nat.reduceLeDiff, Nat.reduceLT, Nat.reduceMul, Nat.reduceSub, Int.reduceEq, Int.reduceLT, Int.reduceLE, Int.reduceNeg, h9, h10, hf]
  | true =>
    have h12 := fun H => s12 39 H L f (by have := fw_of hf; omega)
    have h18 := fun H => s18 21 H s L false i k hL
    unfold dbV at h18
    cases h0 : decide (ckE s L i k = 0) with
    | false =>
      simp only [h0, cond_false] at h18
      simp only [c5, heap0, go_sem, Int.cast_ofNat_Int, Int.reduceToNat, Bool.true_xor, Bool.false_xor, Bool.xor_true, Bool.xor_false, Nat.reduceAdd, Nat.reduceBEq, Nat.reduceLeDiff, Nat.reduceLT, Nat.reduceMul, Nat.reduceSub, Int.reduceEq, Int.reduceLT, Int.reduceLE, Int.reduceNeg, h9, h10, hf, h12, h18, h0]
    | true =>
      have h0' := of_decide_eq_true h0
      obtain ⟨hac, ⟨hi0, hi1⟩, hk0, hk1⟩ := ck_yes h0'
      obtain ⟨hok, hL48, hch⟩ := sn_ok hac
      obtain ⟨q, rfl⟩ : ∃ q : Nat, i = q := ⟨i.toNat, by omega⟩
      obtain ⟨a, ha⟩ := getS (l := L) (i := q) (by omega)
      have hq : q < L.length := by omega
      have h17 := fun H => s17 22 H s L false q k hL
      simp only [rcV, h0, cond_true, Int.toNat_natCast, ha] at h17
      have h18' : ∀ H, call1 T (21 + 19) (.fn 18) [.agg (stC s), .agg (spC s), .lst 4 (emsS L) false, .int .i64 q, .int .i64 k] H = some (.tup [blR s L q a k, .int .i64 0], H) := fun H => by
        rw [h18 H]
        simp only [h0, cond_true, Int.toNat_natCast, ha, blR]
        cases dbB s L q a k <;> rfl
      clear h18
      have n1 : decide ((q : Int) < 0) = false := decide_eq_false (by omega)
      have n2 : decide ((L.length : Int) ≤ (q : Int)) = false := decide_eq_false (by omega)
      have hol := upto_len (othP a q k L) L.length
      have h19 : ∀ H, call1 T 40 (.fn 19) [blR s L q a k] H = some (.bool true, H) := fun H => by
        unfold blR
        cases dbB s L q a k with
        | true => exact s19 37 H _ false (by omega) (upto_sorted _ _)
        | false => exact s19z H
      obtain ⟨len, l1, l2, l3, l4⟩ := bl_len s L q a k
      -- alone
      have hsub : List.Sublist (als L q k L.length) L := by have := als_sub L q k L.length; rwa [List.take_length] at this
      have haA := als_at (k := k) ha hq
      have hatl := (List.getElem?_eq_some_iff.1 haA).1
      have hacA := ac_sub hac hsub
      have hckA : ckE s (als L q k L.length) (((als L q k q).length : Nat) : Int) k = 0 := ck_of hacA (by omega) (by omega)
      have hmA : (als L q k L.length).length ≤ maxLen := Nat.le_trans hsub.length_le hL
      have h17A := fun H => s17 22 H s (als L q k L.length) false ((als L q k q).length : Nat) k hmA
      have hrA : recB s (als L q k L.length) (als L q k q).length a k = (freeB L a k && hearB s (sig s a k) (ext s a k)) := by
        simp only [recB, als_free ha, als_inter hok (chE_iff.1 hch) (by omega) ha]
      simp only [rcV, hckA, decide_true, cond_true, Int.toNat_natCast, haA, hrA] at h17A
      have hlen : decide ((0 : Int) < (len : Int)) = dbB s L q a k := by
        cases hd : dbB s L q a k with
        | true =>
          rw [hd, if_pos rfl] at l3
          have := db_len hok (by omega) hd
          exact decide_eq_true (by omega)
        | false =>
          rw [hd] at l3
          simp at l3
          exact decide_eq_false (by omega)
      have h20 : ∀ (X : List SBlk) (es : List (Nat × Nat)) (ro : Nat), call1 T 40 (.fn 20) [blR s L q a k, .fn 21 [.ptr 0 0 0 0, .ptr 1 0 0 0, .ptr 2 0 0 0]] ⟨.box (snA s L f) :: .box [.int .i64 q] :: .box [.int .i64 k] :: X, es, ro⟩ =
          some (.bool false, ⟨.box (snA s L f) :: .box [.int .i64 q] :: .box [.int .i64 k] :: X, es, ro⟩) := fun X es ro => by
        have key : ∀ (O : List Nat) (v : SV), LV (.box (snA s L f) :: .box [.int .i64 q] :: .box [.int .i64 k] :: X) 1 (bS O) v → O.length ≤ maxLen → (∀ j ∈ O, othP a q k L j = true) →
            call1 T 40 (.fn 20) [v, .fn 21 [.ptr 0 0 0 0, .ptr 1 0 0 0, .ptr 2 0 0 0]] ⟨.box (snA s L f) :: .box [.int .i64 q] :: .box [.int .i64 k] :: X, es, ro⟩ = some (.bool false, ⟨.box (snA s L f) :: .box [.int .i64 q] :: .box [.int .i64 k] :: X, es, ro⟩) := fun O v hv hO hall => by
          have := stdCF_ok (T := T) (f := 20) (g := 46) (n := 38) (H := ⟨.box (snA s L f) :: .box [.int .i64 q] :: .box [.int .i64 k] :: X, es, ro⟩) (ag := false) (z := 1) (id := 21) (caps := [.ptr 0 0 0 0, .ptr 1 0 0 0, .ptr 2 0 0 0]) (v := v) (L := bS O)
            (p := fun _ => false) e20 e46 hv (fun r hr => by simp only [bS, List.mem_map] at hr; obtain ⟨c, _, rfl⟩ := hr; rfl) (fun _ => rfl) (by rw [bS_len]; exact hO)
            (fun r hr bl ro' hbl => by
              have hbl : bl = .box (snA s L f) :: .box [.int .i64 q] :: .box [.int .i64 k] :: X := by
                rcases hbl with ⟨_, _, h2⟩ | h
                · simp [SV.refs.refsL, SV.refs] at h2
                · exact h
              subst hbl
              simp only [bS, List.mem_map] at hr
              obtain ⟨j, hj, rfl⟩ := hr
              have hoj := hall j hj
              unfold othP at hoj
              cases hx : L[j]? with
              | none => rw [hx] at hoj; cases hoj
              | some x => rw [hx] at hoj; exact s21 36 X [] ro' s L f q j k a x ha hx hoj)
            (by simp [SV.refs.refsL, SV.refs])
          rw [this]
          simp [List.any_eq_false]
        unfold blR
        cases dbB s L q a k with
        | true => exact key _ _ (.lst 1 false (.inl rfl)) (by omega) (fun j hj => (upto_mem.1 hj).2)
        | false => exact key [] _ (.lst 0 true (.inr rfl)) (by simp) (fun j hj => by cases hj)
      have hdb : dbB s L q a k = (freeB L a k && hearB s (sig s a k) (ext s a k) && !recB s L q a k) := rfl
      generalize blR s L q a k = d at *
      simp only [c5, heap0, go_sem, Int.cast_ofNat_Int, Int.reduceToNat, Bool.true_xor, Bool.false_xor, Bool.xor_true, Bool.xor_false, Nat.reduceAdd, Nat.reduceBEq, Nat.reduceLeDiff, Nat.reduceLT, Nat.reduceMul, Nat.reduceSub, Int.reduceEq, Int.reduceLT, Int.reduceLE, Int.reduceNeg, h9, h10, hf, h12, h18', h17, n1, n2, h19]
      refine loop_rule (fun p => ([(3, .ptr 0 0 0 0), (4, .ptr 1 0 0 0), (5, .ptr 2 0 0 0), (7, d), (9, .bool (recB s L q a k)), (11, .slc 3 (als L q k p).length 0 (als L q k p).length), (12, .int .i64 (if q < p then ((als L q k q).length : Int) else 0)), (72, .lst 4 (emsS L) f), (73, .int .i64 L.length), (74, .int .i64 p)],
        ⟨[.box (snA s L f), .box [.int .i64 q], .box [.int .i64 k], .arr (als L q k p).length 4 (emsS (als L q k p)) false], [], 0⟩)) (fun _ => True) L.length ?_ trivial ?_
      · simp only [go_sem, Int.cast_ofNat_Int, Int.reduceToNat, Bool.true_xor, Bool.false_xor, Bool.xor_true, Bool.xor_false, Nat.reduceAdd, Nat.reduceBEq, Nat.reduceLeDiff, Nat.reduceLT, Nat.reduceMul, Nat.reduceSub, Int.reduceEq, Int.reduceLT, Int.reduceLE, Int.reduceNeg, l4, als, emsS]
        rfl
      · intro p hp _
        rcases Nat.lt_or_ge p L.length with hlt | hge
        · obtain ⟨x, hx⟩ := getS hlt
          have hw := w64_suc hlt hL
          have hal : (als L q k p).length ≤ 1000 := Nat.le_trans (als_sub L q k p).length_le (by simp; omega)
          have rb := room_le hal 32 (by omega)
          have gb := fun H => apB_grow 4 H 3 (als L q k p).length (als L q k p).length [emC x] (emsS (als L q k p)) emsS_len
          cases j1 : decide ((p : Int) = (q : Int)) with
          | true =>
            have hpq : p = q := by have := of_decide_eq_true j1; omega
            have e1 := als_yes (k := k) hx (by rw [j1]; rfl)
            have e2 : (if q < p + 1 then ((als L q k q).length : Int) else 0) = ((als L q k p).length : Int) := by rw [if_pos (by omega), hpq]
            simp only [go_sem, Int.cast_ofNat_Int, Int.reduceToNat, Bool.true_xor, Bool.false_xor, Bool.xor_true, Bool.xor_false, Nat.reduceAdd, Nat.reduceBEq, Nat.reduceLeDiff, Nat.reduceLT, Nat.reduceMul, Nat.reduceSub, Int.reduceEq, Int.reduceLT, Int.reduceLE, Int.reduceNeg, hlt, hx, j1, rb, gb, emsS_snoc, e1, e2, hw, l4, List.length_append]
            exact ⟨by first | trivial | omega, by first | trivial | rfl, trivial⟩
          | false =>
            have hpq : p ≠ q := by have := of_decide_eq_false j1; omega
            have e2 : (if q < p + 1 then ((als L q k q).length : Int) else 0) = (if q < p then ((als L q k q).length : Int) else 0) := by
              by_cases h3 : q < p
              · rw [if_pos h3, if_pos (by omega)]
              · rw [if_neg h3, if_neg (by omega)]
            cases j2 : decide (x.n = k) with
            | true =>
              have e1 := als_yes (i := q) hx (by rw [j1, j2]; rfl)
              simp only [go_sem, Int.cast_ofNat_Int, Int.reduceToNat, Bool.true_xor, Bool.false_xor, Bool.xor_true, Bool.xor_false, Nat.reduceAdd, Nat.reduceBEq, Nat.reduceLeDiff, Nat.reduceLT, Nat.reduceMul, Nat.reduceSub, Int.reduceEq, Int.reduceLT, Int.reduceLE, Int.reduceNeg, hlt, hx, j1, j2, rb, gb, emsS_snoc, e1, e2, hw, l4, List.length_append]
              exact ⟨by first | trivial | omega, by first | trivial | rfl, trivial⟩
            | false =>
              have e1 := als_no (i := q) hx (by rw [j1, j2]; rfl)
              simp only [go_sem, Int.cast_ofNat_Int, Int.reduceToNat, Bool.true_xor, Bool.false_xor, Bool.xor_true, Bool.xor_false, Nat.reduceAdd, Nat.reduceBEq, Nat.reduceLeDiff, Nat.reduceLT, Nat.reduceMul, Nat.reduceSub, Int.reduceEq, Int.reduceLT, Int.reduceLE, Int.reduceNeg, hlt, hx, j1, j2, e1, e2, hw, l4]
              exact ⟨by first | trivial | omega, by first | trivial | rfl, trivial⟩
        · obtain rfl : p = L.length := by omega
          have hfz := fun H => fTB_whole H 3 (als L q k L.length).length (als L q k L.length).length 4 (emsS (als L q k L.length)) false emsS_len (ems_refs _)
          simp only [go_sem, Int.cast_ofNat_Int, Int.reduceToNat, Bool.true_xor, Bool.false_xor, Bool.xor_true, Bool.xor_false, Nat.reduceAdd, Nat.reduceBEq, Nat.reduceLeDiff, Nat.reduceLT, Nat.reduceMul, Nat.reduceSub, Int.reduceEq, Int.reduceLT, Int.reduceLE, Int.reduceNeg, show decide ((L.length : Int) < (L.length : Int)) = false from decide_eq_false (by omega), hfz, if_pos hq, h17A, l1, l2, hlen, hdb]
          cases freeB L a k && hearB s (sig s a k) (ext s a k) with
          | false => simp only [go_sem, Int.cast_ofNat_Int, Int.reduceToNat, Bool.true_xor, Bool.false_xor, Bool.xor_true, Bool.xor_false, Nat.reduceAdd, Nat.reduceBEq, Nat.reduceLeDiff, Nat.reduceLT, Nat.reduceMul, Nat.reduceSub, Int.reduceEq, Int.reduceLT, Int.reduceLE, Int.reduceNeg, l1, l2, hlen, hdb, h20]
          | true =>
            cases recB s L q a k with
            | false => simp only [go_sem, Int.cast_ofNat_Int, Int.reduceToNat, Bool.true_xor, Bool.false_xor, Bool.xor_true, Bool.xor_false, Nat.reduceAdd, Nat.reduceBEq, Nat.reduceLeDiff, Nat.reduceLT, Nat.reduceMul, Nat.reduceSub, Int.reduceEq, Int.reduceLT, Int.reduceLE, Int.reduceNeg, l1, l2, hlen, hdb, h20]
            | true => simp only [go_sem, Int.cast_ofNat_Int, Int.reduceToNat, Bool.true_xor, Bool.false_xor, Bool.xor_true, Bool.xor_false, Nat.reduceAdd, Nat.reduceBEq, Nat.reduceLeDiff, Nat.reduceLT, Nat.reduceMul, Nat.reduceSub, Int.reduceEq, Int.reduceLT, Int.reduceLE, Int.reduceNeg, l1, l2, hlen, hdb, h20]
theorem law5 (xs : List SV) (h : FitsAll [scD, (false, [.int .i64]), (false, [.int .i64])] xs) : ∃ m, call1 T m (.fn 5) xs heap0 = some (.bool true, heap0) := by
  obtain ⟨x1, r1, rfl, h1, h⟩ := fitsAll_cons h
  obtain ⟨x2, r2, rfl, h2, h⟩ := fitsAll_cons h
  obtain ⟨x3, r3, rfl, h3, h⟩ := fitsAll_cons h
  cases fitsAll_nil h
  obtain ⟨s, L, f, rfl, hL⟩ := sn_of h1
  obtain ⟨i, rfl, _⟩ := fits_int (fitsA_one h2)
  obtain ⟨k, rfl, _⟩ := fits_int (fitsA_one h3)
  exact ⟨41, s5 s L f i k hL⟩
end Go.Sh
namespace Go.Sh
set_option linter.unusedSectionVars false
set_option linter.unnecessarySimpa false
set_option linter.unusedVariables false
set_option linter.unusedSimpArgs false
set_option maxRecDepth 100000
set_option maxHeartbeats 4000000
theorem s23 (n : Nat) (H : Heap) (L : List Nat) (x : Int) (hL : L.length ≤ maxLen) : call1 T (n + 2) (.fn 23) [.lst 1 (bS L) false, .int .i64 x] H = some (.bool (decide (x ∈ L.map fun (n : Nat) => (n : Int))), H) :=
  stdCon_ok (T := T) (f := 23) (g := 47) (n := n) (H := H) (x := x) (M := L.map fun (n : Nat) => (n : Int)) (v := .lst 1 (bS L) false) e23 e47 (by rw [bS_iS]; exact .lst 1 false (.inl rfl)) (by simpa using hL)
theorem free_not {L : List Em} {a x : Em} {k : Int} (h : freeB L a k = true) (hx : x ∈ L) (ho : ovB x a = true) : x.n ≠ k := by
  intro hn
  simp only [freeB, Bool.not_eq_true'] at h
  have := List.any_eq_false.1 h x hx
  simp [hn, ho] at this
theorem em_ov {a : Em} (h : emB a = true) : ovB a a = true := by
  simp only [emB, Bool.and_eq_true, decide_eq_true_eq] at h
  simp only [ovB, decide_eq_true_eq]
  omega
theorem rcs_mem {s : Sn} {L : List Em} {i : Nat} {a : Em} {m : Nat} : m ∈ rcs s L i a ↔ m < s.N.length ∧ recB s L i a m = true := upto_mem
theorem rec_lt {s : Sn} (h : okSn s = true) {L : List Em} (hL : L.length ≤ 1000) {i j : Nat} {a b : Em} (hb : L[j]? = some b) (hij : i ≠ j) (hc : b.c = a.c) (ho : ovB a b = true) {k : Int} (hr : recB s L i a k = true) : sig s b k < sig s a k := by
  simp only [recB, Bool.and_eq_true] at hr
  have hn : b.n ≠ k := free_not hr.1 (List.mem_of_getElem? hb) (by rw [ov_comm]; exact ho)
  have hoth : othB a i k j b = true := by
    simp only [othB, hc, decide_true, ho, Bool.and_true, Bool.and_eq_true, Bool.not_eq_true', decide_eq_false_iff_not]
    exact ⟨by omega, hn⟩
  have h1 := osum_ge (g := fun x => sig s x k) (fun x => sig_rng h x k) hb hoth L.length (List.getElem?_eq_some_iff.1 hb).1
  have h2 := ext_rng h a k
  have h3 := inter_sum h hL i a k
  have h4 := osum_rng (g := fun x => sig s x k) (fun x => sig_rng h x k) a i k L L.length
  have := hear_lt h (sig_rng h a k) (by omega) hr.2
  omega
/-- Of two that overlap on one channel at most one is received. -/
theorem cap_two {s : Sn} (h : okSn s = true) {L : List Em} (hL : L.length ≤ 1000) {i j : Nat} {a b : Em} (ha : L[i]? = some a) (hb : L[j]? = some b) (hij : i ≠ j) (hc : a.c = b.c) (ho : ovB a b = true) {k : Int} (h1 : recB s L i a k = true) (h2 : recB s L j b k = true) : False := by
  have e1 := rec_lt h hL hb hij hc.symm ho h1
  have e2 := rec_lt h hL ha (Ne.symm hij) hc (by rw [ov_comm]; exact ho) h2
  omega
def rcA (s : Sn) (L : List Em) (i : Nat) : List Nat := match L[i]? with
  | some a => rcs s L i a
  | none => []
def gotR (s : Sn) (L : List Em) (i : Nat) : List (List SV) := (List.range i).map fun j => [.lst 1 (bS (rcA s L j)) false]
@[go_sem] theorem gotR_len (s L i) : (gotR s L i).length = i := by simp [gotR]
theorem gotR_suc (s L i) : gotR s L i ++ [[.lst 1 (bS (rcA s L i)) false]] = gotR s L (i + 1) := by simp [gotR, List.range_succ]
theorem gotR_get (s L) {i j : Nat} (h : j < i) : (gotR s L i)[j]? = some [.lst 1 (bS (rcA s L j)) false] := by simp [gotR, h]
theorem rcA_len (s : Sn) (L : List Em) (i : Nat) (h : s.N.length ≤ 32) : (rcA s L i).length ≤ 32 := by
  unfold rcA
  cases L[i]? with
  | none => simp
  | some a => exact Nat.le_trans (upto_len _ _) h
theorem rcA_sorted (s : Sn) (L : List Em) (i : Nat) : (rcA s L i).Pairwise (· < ·) := by
  unfold rcA
  cases L[i]? with
  | none => exact List.Pairwise.nil
  | some a => exact upto_sorted _ _
theorem s24 (n : Nat) (x0 x4 x3 x5 : SBlk) (es : List (Nat × Nat)) (ro : Nat) (s : Sn) (L : List Em) (j m : Nat) (hj : j < L.length) (hN : s.N.length ≤ 32) :
    call1 T (n + 3) (.fn 24) [.int .i64 m, .ptr 2 0 0 0, .ptr 4 0 0 0] ⟨[x0, .arr L.length 1 (gotR s L L.length) false, .box [.slc 1 L.length 0 L.length], x3, .box [.int .i64 j], x5], es, ro⟩ =
      some (.bool (decide (m ∈ rcA s L j)), ⟨[x0, .arr L.length 1 (gotR s L L.length) false, .box [.slc 1 L.length 0 L.length], x3, .box [.int .i64 j], x5], es, ro⟩) := by
  refine call_ro e24 rfl rfl (fun RR kk bl ro' hbl => ?_)
  have hbl : bl = [x0, .arr L.length 1 (gotR s L L.length) false, .box [.slc 1 L.length 0 L.length], x3, .box [.int .i64 j], x5] := by
    rcases hbl with ⟨_, h2⟩ | h
    · simp [SV.refs.refsL, SV.refs] at h2
    · exact h
  subst hbl
  have h23 := fun H => s23 n H (rcA s L j) m (Nat.le_trans (rcA_len s L j hN) (by decide))
  have e : decide ((m : Int) ∈ (rcA s L j).map fun (n : Nat) => (n : Int)) = decide (m ∈ rcA s L j) := by
    rw [Bool.eq_iff_iff, decide_eq_true_eq, decide_eq_true_eq, List.mem_map]
    constructor
    · rintro ⟨a, h1, h2⟩
      obtain rfl : a = m := by omega
      exact h1
    · intro h; exact ⟨m, h, rfl⟩
  rw [e] at h23
  simp only [c24, go_sem, Int.cast_ofNat_Int, Int.reduceToNat, Bool.true_xor, Bool.false_xor, Bool.xor_true, Bool.xor_false, Nat.reduceAdd, Nat.reduceBEq, Nat.reduceLeDiff, Nat.reduceLT, Nat.reduceMul, Nat.reduceSub, Int.reduceEq, Int.reduceLT, Int.reduceLE, Int.reduceNeg, hj, gotR_get s L hj, h23]
end Go.Sh
namespace Go.Sh
set_option linter.unusedSectionVars false
set_option linter.unnecessarySimpa false
set_option linter.unusedVariables false
set_option linter.unusedSimpArgs false
set_option maxRecDepth 100000
set_option maxHeartbeats 4000000
theorem x20 : T 20 = some (stdCF 46) := e20
theorem s20d (x0 x3 x5 : SBlk) (es : List (Nat × Nat)) (ro : Nat) (s : Sn) (L : List Em) (i j : Nat) (hj : j < L.length) (hN : s.N.length ≤ 32) (hd : ∀ m, m ∈ rcA s L i → m ∈ rcA s L j → False) :
    call1 T 40 (.fn 20) [.lst 1 (bS (rcA s L i)) false, .fn 24 [.ptr 2 0 0 0, .ptr 4 0 0 0]] ⟨[x0, .arr L.length 1 (gotR s L L.length) false, .box [.slc 1 L.length 0 L.length], x3, .box [.int .i64 j], x5], es, ro⟩ =
      some (.bool false, ⟨[x0, .arr L.length 1 (gotR s L L.length) false, .box [.slc 1 L.length 0 L.length], x3, .box [.int .i64 j], x5], es, ro⟩) := by
  have := stdCF_ok (T := T) (f := 20) (g := 46) (n := 38) (H := ⟨[x0, .arr L.length 1 (gotR s L L.length) false, .box [.slc 1 L.length 0 L.length], x3, .box [.int .i64 j], x5], es, ro⟩) (ag := false) (z := 1) (id := 24) (caps := [.ptr 2 0 0 0, .ptr 4 0 0 0])
    (v := .lst 1 (bS (rcA s L i)) false) (L := bS (rcA s L i)) (p := fun _ => false) e20 e46 (.lst 1 false (.inl rfl)) (fun r hr => by simp only [bS, List.mem_map] at hr; obtain ⟨c, _, rfl⟩ := hr; rfl) (fun _ => rfl)
    (by rw [bS_len]; exact Nat.le_trans (rcA_len s L i hN) (by decide))
    (fun r hr bl ro' hbl => by
      have hbl : bl = [x0, .arr L.length 1 (gotR s L L.length) false, .box [.slc 1 L.length 0 L.length], x3, .box [.int .i64 j], x5] := by
        rcases hbl with ⟨_, _, h2⟩ | h
        · simp [SV.refs.refsL, SV.refs] at h2
        · exact h
      subst hbl
      simp only [bS, List.mem_map] at hr
      obtain ⟨m, hm, rfl⟩ := hr
      have := s24 35 x0 (.box [.int .i64 j]) x3 x5 [] ro' s L j m hj hN
      rw [decide_eq_false (fun h => hd m hm h)] at this
      exact this)
    (by simp [SV.refs.refsL, SV.refs])
  rw [this]
  simp [List.any_eq_false]
theorem s6 (s : Sn) (L : List Em) (f : Bool) (hL : L.length ≤ maxLen) : call1 T 41 (.fn 6) [.agg (snA s L f)] heap0 = some (.bool true, heap0) := by
  refine call_pure e6 (by rfl) ?_
  have h9 := s9
  have h10 := fun H => s10 36 H s.N s.P s.W s.g1 s.g2 s.g3 s.ex s.no s.th s.S s.f1 s.F s.f2 L f s.hS.1
  cases hf : fwB s.N s.P s.W s.S s.F L with
  | false => simp only [c6, heap0, go_sem, Int.cast_ofNat_Int, Int.reduceToNat, Bool.true_xor, Bool.false_xor, Bool.xor_true, Bool.xor_false, Nat.reduceAdd, Nat.reduceBEq, Nat.reduceLeDiff, Nat.reduceLT, Nat.reduceMul, Nat.reduceSub, Int.reduceEq, Int.reduceLT, Int.reduceLE, Int.reduceNeg, h9, h10, hf]
  | true =>
    have h12 := fun H => s12 39 H L f (by have := fw_of hf; omega)
    have h11 := fun H => s11 32 H s.N s.P s.W s.g1 s.g2 s.g3 s.ex s.no s.th 7 s.S s.f1 6 s.F s.f2 L false s.hN s.hP s.hW (.inl rfl) (.inl rfl) s.hS s.hF hL
    have hac' : acE (G.okI s.N s.P s.W s.ex s.no s.th && U.ckB s.S s.F) s.N.length L = acE (okSn s) s.N.length L := rfl
    rw [hac'] at h11
    cases h0 : decide (acE (okSn s) s.N.length L = 0) with
    | false => simp only [c6, heap0, go_sem, Int.cast_ofNat_Int, Int.reduceToNat, Bool.true_xor, Bool.false_xor, Bool.xor_true, Bool.xor_false, Nat.reduceAdd, Nat.reduceBEq, Nat.reduceLeDiff, Nat.reduceLT, Nat.reduceMul, Nat.reduceSub, Int.reduceEq, Int.reduceLT, Int.reduceLE, Int.reduceNeg, h9, h10, hf, h12, h11, h0]
    | true =>
      have h0' := of_decide_eq_true h0
      obtain ⟨hok, hL48, hch⟩ := sn_ok h0'
      have hVL := chE_iff.1 hch
      have hN := sn_N hok
      have hN0 : 0 < s.N.length := by
        simp only [okSn, G.okI, G.okB, Bool.and_eq_true, decide_eq_true_eq] at hok
        omega
      simp only [c6, heap0, go_sem, Int.cast_ofNat_Int, Int.reduceToNat, Bool.true_xor, Bool.false_xor, Bool.xor_true, Bool.xor_false, Nat.reduceAdd, Nat.reduceBEq, Nat.reduceLeDiff, Nat.reduceLT, Nat.reduceMul, Nat.reduceSub, Int.reduceEq, Int.reduceLT, Int.reduceLE, Int.reduceNeg, h9, h10, hf, h12, h11, h0]
      refine loop_rule (fun i => ([(1, .ptr 0 0 0 0), (3, .ptr 2 0 0 0), (29, .lst 4 (emsS L) f), (30, .int .i64 L.length), (31, .int .i64 i)],
        ⟨[.box (snA s L f), .arr i 1 (gotR s L i) false, .box [.slc 1 i 0 i]], [], 0⟩)) (fun _ => True) L.length (by simp only [go_sem, Int.cast_ofNat_Int, Int.reduceToNat, Bool.true_xor, Bool.false_xor, Bool.xor_true, Bool.xor_false, Nat.reduceAdd, Nat.reduceBEq, Nat.reduceLeDiff, Nat.reduceLT, Nat.reduceMul, Nat.reduceSub, Int.reduceEq, Int.reduceLT, Int.reduceLE, Int.reduceNeg]; rfl) trivial ?_
      intro i hi _
      rcases Nat.lt_or_ge i L.length with hlt | hge
      · obtain ⟨a, ha⟩ := getS hlt
        have hw := w64_suc hlt hL
        have h22 := fun H => s22 22 H s L false i hL
        have hck := ck_of (k := 0) h0' (show (0 : Int) ≤ i ∧ (i : Int) < L.length by omega) (by omega)
        have hrA : rcA s L i = rcs s L i a := by simp only [rcA, ha]
        simp only [rsV, hck, decide_true, cond_true, Int.toNat_natCast, ha, ← hrA] at h22
        have hrl := rcA_len s L i hN
        have h19 := fun H => s19 37 H (rcA s L i) false (by omega) (rcA_sorted s L i)
        have h23 := fun H => s23 38 H (rcA s L i) a.n (Nat.le_trans hrl (by decide))
        have hno : decide (a.n ∈ (rcA s L i).map fun (n : Nat) => (n : Int)) = false := decide_eq_false (fun hm => by
          rw [List.mem_map] at hm
          obtain ⟨m, hm, hma⟩ := hm
          rw [hrA, rcs_mem] at hm
          have := hm.2
          simp only [recB, Bool.and_eq_true] at this
          exact free_not this.1 (List.mem_of_getElem? ha) (em_ov (hVL.1 a (List.mem_of_getElem? ha)).2) hma.symm)
        rw [hno] at h23
        have rb := room_le (n := i) (by omega) 24 (by omega)
        have gb := fun H => apB_grow 1 H 1 i i [[.lst 1 (bS (rcA s L i)) false]] (gotR s L i) (gotR_len s L i)
        simp only [go_sem, Int.cast_ofNat_Int, Int.reduceToNat, Bool.true_xor, Bool.false_xor, Bool.xor_true, Bool.xor_false, Nat.reduceAdd, Nat.reduceBEq, Nat.reduceLeDiff, Nat.reduceLT, Nat.reduceMul, Nat.reduceSub, Int.reduceEq, Int.reduceLT, Int.reduceLE, Int.reduceNeg, hlt, ha, h12, h22, h19, h23, rb, gb, gotR_suc, hw]
        exact ⟨by first | trivial | omega, by first | trivial | rfl, trivial⟩
      obtain rfl : i = L.length := by omega
      simp only [go_sem, Int.cast_ofNat_Int, Int.reduceToNat, Bool.true_xor, Bool.false_xor, Bool.xor_true, Bool.xor_false, Nat.reduceAdd, Nat.reduceBEq, Nat.reduceLeDiff, Nat.reduceLT, Nat.reduceMul, Nat.reduceSub, Int.reduceEq, Int.reduceLT, Int.reduceLE, Int.reduceNeg, show decide ((L.length : Int) < (L.length : Int)) = false from decide_eq_false (by omega)]
      refine loop_rule (fun i => ([(1, .ptr 0 0 0 0), (3, .ptr 2 0 0 0), (67, .lst 4 (emsS L) f), (68, .int .i64 L.length), (69, .int .i64 i)],
        ⟨[.box (snA s L f), .arr L.length 1 (gotR s L L.length) false, .box [.slc 1 L.length 0 L.length]], [], 0⟩)) (fun _ => True) L.length (by simp only [go_sem, Int.cast_ofNat_Int, Int.reduceToNat, Bool.true_xor, Bool.false_xor, Bool.xor_true, Bool.xor_false, Nat.reduceAdd, Nat.reduceBEq, Nat.reduceLeDiff, Nat.reduceLT, Nat.reduceMul, Nat.reduceSub, Int.reduceEq, Int.reduceLT, Int.reduceLE, Int.reduceNeg]; rfl) trivial ?_
      intro i hi _
      rcases Nat.lt_or_ge i L.length with hlt | hge
      · obtain ⟨a, ha⟩ := getS hlt
        have hw := w64_suc hlt hL
        simp only [go_sem, Int.cast_ofNat_Int, Int.reduceToNat, Bool.true_xor, Bool.false_xor, Bool.xor_true, Bool.xor_false, Nat.reduceAdd, Nat.reduceBEq, Nat.reduceLeDiff, Nat.reduceLT, Nat.reduceMul, Nat.reduceSub, Int.reduceEq, Int.reduceLT, Int.reduceLE, Int.reduceNeg, hlt, ha]
        refine loop_post (fun j => ([(1, .ptr 0 0 0 0), (3, .ptr 2 0 0 0), (8, .int .i64 i), (9, .ptr 3 0 0 0), (67, .lst 4 (emsS L) f), (68, .int .i64 L.length), (69, .int .i64 i), (75, .lst 4 (emsS L) f), (76, .int .i64 L.length), (77, .int .i64 j)],
          ⟨[.box (snA s L f), .arr L.length 1 (gotR s L L.length) false, .box [.slc 1 L.length 0 L.length], .box (emC a)], [], 0⟩)) (fun _ => True) L.length (by simp only [go_sem, Int.cast_ofNat_Int, Int.reduceToNat, Bool.true_xor, Bool.false_xor, Bool.xor_true, Bool.xor_false, Nat.reduceAdd, Nat.reduceBEq, Nat.reduceLeDiff, Nat.reduceLT, Nat.reduceMul, Nat.reduceSub, Int.reduceEq, Int.reduceLT, Int.reduceLE, Int.reduceNeg]; rfl) trivial ?_
        intro j hj _
        rcases Nat.lt_or_ge j L.length with hlt2 | hge2
        · obtain ⟨b, hb⟩ := getS hlt2
          have hw2 := w64_suc hlt2 hL
          have h14 := fun H => s14 39 H a b
          cases j1 : decide ((i : Int) = (j : Int)) with
          | true =>
            simp only [go_sem, Int.cast_ofNat_Int, Int.reduceToNat, Bool.true_xor, Bool.false_xor, Bool.xor_true, Bool.xor_false, Nat.reduceAdd, Nat.reduceBEq, Nat.reduceLeDiff, Nat.reduceLT, Nat.reduceMul, Nat.reduceSub, Int.reduceEq, Int.reduceLT, Int.reduceLE, Int.reduceNeg, hlt2, hb, j1, hw2]
            exact ⟨by first | trivial | omega, by first | trivial | rfl, trivial⟩
          | false =>
            have hij : i ≠ j := by have := of_decide_eq_false j1; omega
            cases j2 : ovB a b with
            | false =>
              simp only [go_sem, Int.cast_ofNat_Int, Int.reduceToNat, Bool.true_xor, Bool.false_xor, Bool.xor_true, Bool.xor_false, Nat.reduceAdd, Nat.reduceBEq, Nat.reduceLeDiff, Nat.reduceLT, Nat.reduceMul, Nat.reduceSub, Int.reduceEq, Int.reduceLT, Int.reduceLE, Int.reduceNeg, hlt2, hb, j1, h14, j2, hw2]
              exact ⟨by first | trivial | omega, by first | trivial | rfl, trivial⟩
            | true =>
              have hrA : rcA s L i = rcs s L i a := by simp only [rcA, ha]
              have hrB : rcA s L j = rcs s L j b := by simp only [rcA, hb]
              have h23 := fun H => s23 38 H (rcA s L i) b.n (Nat.le_trans (rcA_len s L i hN) (by decide))
              have hno : decide (b.n ∈ (rcA s L i).map fun (n : Nat) => (n : Int)) = false := decide_eq_false (fun hm => by
                rw [List.mem_map] at hm
                obtain ⟨m, hm, hma⟩ := hm
                rw [hrA, rcs_mem] at hm
                have := hm.2
                simp only [recB, Bool.and_eq_true] at this
                exact free_not this.1 (List.mem_of_getElem? hb) (by rw [ov_comm]; exact j2) hma.symm)
              rw [hno] at h23
              have gg := gotR_get s L hlt
              cases j3 : decide (a.c = b.c) with
              | false =>
                simp only [go_sem, Int.cast_ofNat_Int, Int.reduceToNat, Bool.true_xor, Bool.false_xor, Bool.xor_true, Bool.xor_false, Nat.reduceAdd, Nat.reduceBEq, Nat.reduceLeDiff, Nat.reduceLT, Nat.reduceMul, Nat.reduceSub, Int.reduceEq, Int.reduceLT, Int.reduceLE, Int.reduceNeg, hlt, hlt2, hb, j1, h14, j2, gg, h23, j3, hw2]
                exact ⟨by first | trivial | omega, by first | trivial | rfl, trivial⟩
              | true =>
                have h20 := fun x0 x3 x5 es ro => s20d x0 x3 x5 es ro s L i j hlt2 hN (fun m h1 h2 => by
                  rw [hrA, rcs_mem] at h1
                  rw [hrB, rcs_mem] at h2
                  exact cap_two hok (by omega) ha hb hij (of_decide_eq_true j3) j2 h1.2 h2.2)
                simp only [go_sem, Int.cast_ofNat_Int, Int.reduceToNat, Bool.true_xor, Bool.false_xor, Bool.xor_true, Bool.xor_false, Nat.reduceAdd, Nat.reduceBEq, Nat.reduceLeDiff, Nat.reduceLT, Nat.reduceMul, Nat.reduceSub, Int.reduceEq, Int.reduceLT, Int.reduceLE, Int.reduceNeg, hlt, hlt2, hb, j1, h14, j2, gg, h23, j3, h20, hw2]
                exact ⟨by first | trivial | omega, by first | trivial | rfl, trivial⟩
        · obtain rfl : j = L.length := by omega
          simp only [go_sem, Int.cast_ofNat_Int, Int.reduceToNat, Bool.true_xor, Bool.false_xor, Bool.xor_true, Bool.xor_false, Nat.reduceAdd, Nat.reduceBEq, Nat.reduceLeDiff, Nat.reduceLT, Nat.reduceMul, Nat.reduceSub, Int.reduceEq, Int.reduceLT, Int.reduceLE, Int.reduceNeg, show decide ((L.length : Int) < (L.length : Int)) = false from decide_eq_false (by omega), hw]
          exact ⟨by first | trivial | omega, by first | trivial | rfl, trivial⟩
      · obtain rfl : i = L.length := by omega
        simp only [go_sem, Int.cast_ofNat_Int, Int.reduceToNat, Bool.true_xor, Bool.false_xor, Bool.xor_true, Bool.xor_false, Nat.reduceAdd, Nat.reduceBEq, Nat.reduceLeDiff, Nat.reduceLT, Nat.reduceMul, Nat.reduceSub, Int.reduceEq, Int.reduceLT, Int.reduceLE, Int.reduceNeg, show decide ((L.length : Int) < (L.length : Int)) = false from decide_eq_false (by omega)]
theorem law6 (xs : List SV) (h : FitsAll [scD] xs) : ∃ m, call1 T m (.fn 6) xs heap0 = some (.bool true, heap0) := by
  obtain ⟨x1, r1, rfl, h1, h⟩ := fitsAll_cons h
  cases fitsAll_nil h
  obtain ⟨s, L, f, rfl, hL⟩ := sn_of h1
  exact ⟨41, s6 s L f hL⟩
end Go.Sh
namespace Go.Sh
set_option linter.unusedSectionVars false
set_option linter.unnecessarySimpa false
set_option linter.unusedVariables false
set_option linter.unusedSimpArgs false
set_option maxRecDepth 100000
set_option maxHeartbeats 4000000
theorem erase_len {L : List Em} {j : Nat} (hj : j < L.length) : (L.eraseIdx j).length = L.length - 1 := List.length_eraseIdx_of_lt hj
/-- slices.Delete of one emission. -/
theorem s25 (n : Nat) (x0 : SBlk) (es : List (Nat × Nat)) (L : List Em) (j : Nat) (hj : j < L.length) (hL : L.length ≤ 100) :
    call1 T (n + 1) (.fn 25) [.slc 1 0 0 L.length, .int .i64 j, .int .i64 (j + 1 : Nat)] ⟨[x0, .arr 0 4 (emsS L) false], es, 0⟩ =
      some (.slc 1 0 0 (L.length - 1), ⟨[x0, .arr 0 4 (emsS (L.eraseIdx j) ++ [[.int .i64 0, .int .i64 0, .int .i64 0, .int .i64 0]]) false], es, 0⟩) := by
  refine call_in e25 (by rfl) ?_
  have a1 : decide ((0 : Int) ≤ (j : Int)) = true := decide_eq_true (by omega)
  have a2 : decide ((j : Int) ≤ ((j + 1 : Nat) : Int)) = true := decide_eq_true (by omega)
  have a3 : decide (((j + 1 : Nat) : Int) ≤ (L.length : Int)) = true := decide_eq_true (by omega)
  have a4 : decide ((0 : Int) ≤ ((j + 1 : Nat) : Int)) = true := decide_eq_true (by omega)
  have a5 : decide ((j : Int) ≤ (L.length : Int)) = true := decide_eq_true (by omega)
  have a6 : decide ((j : Int) = ((j + 1 : Nat) : Int)) = false := decide_eq_false (by omega)
  have a7 : decide (j + 1 + (L.length - (j + 1)) ≤ L.length) = true := decide_eq_true (by omega)
  have a8 : decide ((0 : Int) ≤ ((L.length - 1 : Nat) : Int)) = true := decide_eq_true (by omega)
  have a9 : decide (((L.length - 1 : Nat) : Int) ≤ (L.length : Int)) = true := decide_eq_true (by omega)
  have b1 : decide ((0 : Int) ≤ (L.length : Int)) = true := decide_eq_true (by omega)
  have b3 : decide ((L.length : Int) ≤ (L.length : Int)) = true := decide_eq_true (by omega)
  have hr1 : ((emsS L).drop (j + 1)).take (L.length - (j + 1)) = emsS (L.drop (j + 1)) := by
    rw [List.take_of_length_le (by simp [emsS])]; simp [emsS]
  have hml := erase_len hj
  have hM : (emsS L).take j ++ emsS (L.drop (j + 1)) = emsS (L.eraseIdx j) := by
    rw [List.eraseIdx_eq_take_drop_succ]; simp [emsS]
  have hap : ∀ H, apB 4 H 1 0 0 j (emsS (L.drop (j + 1))) (some (.arr 0 4 (emsS L) false)) = (hset H 1 (.arr 0 4 (emsS (L.eraseIdx j) ++ (emsS L).drop (L.length - 1)) false) 0).map fun H => (.slc 1 0 0 (L.length - 1), H) := fun H => by
    have e1 : (j == L.length) = false := by simp; omega
    have e2 : j + (L.length - (j + 1)) = L.length - 1 := by omega
    simp only [apB, e1, beq_self_eq_true, Bool.true_and, Bool.and_false, emsS_len, List.length_drop, Nat.zero_add, ems_refs, hM, Bool.not_false, decide_eq_true (show j ≤ L.length by omega), cond_true, cond_false, e2, decide_eq_true (show L.length - 1 ≤ L.length by omega)]
  have b2 : decide ((j + (L.drop (j + 1)).length) * 32 ≤ mostLen) = true := by
    have := room_le (n := j + (L.drop (j + 1)).length) (by simp; omega) 32 (by omega)
    rw [decide_eq_true_eq] at this ⊢
    omega
  have hlast : (emsS L).drop (L.length - 1) ≠ [] := by
    intro h
    have := congrArg List.length h
    simp [emsS] at this
    omega
  have hcl : ∀ H, clB 4 [.int .i64 0, .int .i64 0, .int .i64 0, .int .i64 0] H 1 0 (L.length - 1) (L.length - (L.length - 1)) (some (.arr 0 4 (emsS (L.eraseIdx j) ++ (emsS L).drop (L.length - 1)) false)) =
      (hset H 1 (.arr 0 4 (emsS (L.eraseIdx j) ++ [[.int .i64 0, .int .i64 0, .int .i64 0, .int .i64 0]]) false) 0).map fun H => (.undef, H) := fun H => by
    have e1 : L.length - 1 + (L.length - (L.length - 1)) = L.length := by omega
    have e2 : (emsS (L.eraseIdx j) ++ (emsS L).drop (L.length - 1)).length = L.length := by
      rw [List.length_append, emsS_len, List.length_drop, emsS_len, hml]; omega
    have e3 : (emsS (L.eraseIdx j) ++ (emsS L).drop (L.length - 1)).take (L.length - 1) = emsS (L.eraseIdx j) := by
      rw [List.take_append_of_le_length (by rw [emsS_len]; omega), List.take_of_length_le (by rw [emsS_len]; omega)]
    have e4 : (emsS (L.eraseIdx j) ++ (emsS L).drop (L.length - 1)).drop L.length = [] := List.drop_of_length_le (by omega)
    have e5 : L.length - (L.length - 1) = 1 := by omega
    rw [clB_arr, e1, e2, e3, e4]
    simp only [Nat.le_refl, decide_true, cond_true, List.append_nil, e5, List.replicate_succ, List.replicate_zero]
  have c1 : decide ((L.length : Int) ≤ ((L.length - 1 : Nat) : Int)) = false := decide_eq_false (by omega)
  have c2 : (emsS (L.eraseIdx j) ++ (emsS L).drop (L.length - 1)).length = L.length := by
    rw [List.length_append, emsS_len, List.length_drop, emsS_len, hml]; omega
  simp only [c25, go_sem, Int.cast_ofNat_Int, Int.reduceToNat, Bool.true_xor, Bool.false_xor, Bool.xor_true, Bool.xor_false, Nat.reduceAdd, Nat.reduceBEq, Nat.reduceLeDiff, Nat.reduceLT, Nat.reduceMul, Nat.reduceSub, Int.reduceEq, Int.reduceLT, Int.reduceLE, Int.reduceNeg, a1, a2, a3, a4, a5, a6, a7, a8, a9, b1, b3, hr1, b2, hap, c1, c2, hcl]
/-! ### Without one emission -/
def atE (j i : Nat) : Nat := if j < i then i - 1 else i
theorem er_get {L : List Em} {j i : Nat} (hij : i ≠ j) : (L.eraseIdx j)[atE j i]? = L[i]? := by
  unfold atE
  rw [List.getElem?_eraseIdx]
  by_cases h : j < i
  · rw [if_pos h, if_neg (by omega), show i - 1 + 1 = i by omega]
  · rw [if_neg h, if_pos (by omega)]
theorem osum_suc {g : Em → Int} {a : Em} {i : Nat} {k : Int} {L : List Em} {q : Nat} {x : Em} (h : L[q]? = some x) : osum g a i k L (q + 1) = osum g a i k L q + bif othB a i k q x then g x else 0 := by simp only [osum, h]
theorem osum_out {g : Em → Int} {a : Em} {i : Nat} {k : Int} {L : List Em} {q : Nat} (h : L[q]? = none) : osum g a i k L (q + 1) = osum g a i k L q := by simp only [osum, h]
theorem osum_le {g : Em → Int} (h : ∀ x, 0 ≤ g x ∧ g x ≤ 68719476736) {a : Em} {i : Nat} {k : Int} {L : List Em} (q : Nat) : osum g a i k L q ≤ osum g a i k L (q + 1) := by
  cases hx : L[q]? with
  | none => rw [osum_out hx]; exact Int.le_refl _
  | some x =>
    have := h x
    rw [osum_suc hx]
    cases othB a i k q x <;> simp only [cond_true, cond_false] <;> omega
theorem osum_er {g : Em → Int} (h : ∀ x, 0 ≤ g x ∧ g x ≤ 68719476736) {a : Em} {i j : Nat} {k : Int} {L : List Em} (hij : i ≠ j) : ∀ q, (q ≤ j → osum g a (atE j i) k (L.eraseIdx j) q = osum g a i k L q) ∧ (j ≤ q → osum g a (atE j i) k (L.eraseIdx j) q ≤ osum g a i k L (q + 1))
  | 0 => by
    have h1 := osum_rng h a i k L 1
    simp only [osum] at h1 ⊢
    exact ⟨fun _ => trivial, fun _ => h1.1⟩
  | q + 1 => by
    have ih := osum_er h (a := a) (k := k) (L := L) hij q
    have step1 : q < j → osum g a (atE j i) k (L.eraseIdx j) (q + 1) = osum g a i k L (q + 1) := fun hq => by
      have e := ih.1 (by omega)
      have eg : (L.eraseIdx j)[q]? = L[q]? := by rw [List.getElem?_eraseIdx, if_pos hq]
      cases hx : L[q]? with
      | none => rw [osum_out hx, osum_out (by rw [eg, hx])]; exact e
      | some x =>
        have : othB a (atE j i) k q x = othB a i k q x := by
          have : decide ((q : Int) = (atE j i : Int)) = decide ((q : Int) = (i : Int)) := by
            rw [decide_eq_decide]; unfold atE; split <;> omega
          simp only [othB, this]
        rw [osum_suc hx, osum_suc (by rw [eg, hx]), this, e]
    refine ⟨fun hq => step1 (by omega), fun hq => ?_⟩
    rcases Nat.lt_or_ge q j with hlt | hge
    · rw [step1 hlt]; exact osum_le h _
    · have e := ih.2 hge
      have eg : (L.eraseIdx j)[q]? = L[q + 1]? := by rw [List.getElem?_eraseIdx, if_neg (by omega)]
      cases hx : L[q + 1]? with
      | none => rw [osum_out hx, osum_out (by rw [eg, hx])]; exact e
      | some x =>
        have : othB a (atE j i) k q x = othB a i k (q + 1) x := by
          have : decide ((q : Int) = (atE j i : Int)) = decide (((q + 1 : Nat) : Int) = (i : Int)) := by
            rw [decide_eq_decide]; unfold atE; split <;> omega
          simp only [othB, this]
        rw [osum_suc hx, osum_suc (by rw [eg, hx]), this]
        omega
theorem free_sub {L M : List Em} (hs : List.Sublist L M) {a : Em} {k : Int} (h : freeB M a k = true) : freeB L a k = true := by
  simp only [freeB, Bool.not_eq_true'] at h ⊢
  rw [List.any_eq_false] at h ⊢
  exact fun x hx => h x (hs.subset hx)
theorem hear_mono {s : Sn} {p q r : Int} (h : hearB s p r = true) (hq : q ≤ r) : hearB s p q = true := by
  simp only [hearB, decide_eq_true_eq] at h ⊢
  omega
/-- Without another emission what was received is received. -/
theorem rec_er {s : Sn} (h : okSn s = true) {L : List Em} (hL : L.length ≤ 1000) {i j : Nat} {a : Em} (hij : i ≠ j) (hj : j < L.length) {k : Int} (hr : recB s L i a k = true) : recB s (L.eraseIdx j) (atE j i) a k = true := by
  have hs := List.eraseIdx_sublist L j
  simp only [recB, Bool.and_eq_true] at hr ⊢
  refine ⟨free_sub hs hr.1, hear_mono hr.2 ?_⟩
  have hl := hs.length_le
  rw [inter_sum h hL, inter_sum h (by omega)]
  have := (osum_er (g := fun x => sig s x k) (fun x => sig_rng h x k) (a := a) (k := k) (L := L) hij (L.length - 1)).2 (by omega)
  rw [show L.length - 1 + 1 = L.length by omega] at this
  rw [erase_len hj]
  omega
end Go.Sh
namespace Go.Sh
set_option linter.unusedSectionVars false
set_option linter.unnecessarySimpa false
set_option linter.unusedVariables false
set_option linter.unusedSimpArgs false
set_option maxRecDepth 100000
set_option maxHeartbeats 4000000
theorem s26 (n : Nat) (x0 x1 : SBlk) (es : List (Nat × Nat)) (ro : Nat) (A : List Nat) (m : Nat) (hA : A.length ≤ maxLen) :
    call1 T (n + 3) (.fn 26) [.int .i64 m, .ptr 2 0 0 0] ⟨[x0, x1, .box [.lst 1 (bS A) false]], es, ro⟩ = some (.bool (!decide (m ∈ A)), ⟨[x0, x1, .box [.lst 1 (bS A) false]], es, ro⟩) := by
  refine call_ro e26 rfl rfl (fun RR kk bl ro' hbl => ?_)
  have hbl : bl = [x0, x1, .box [.lst 1 (bS A) false]] := by
    rcases hbl with ⟨_, h2⟩ | h
    · simp [SV.refs.refsL, SV.refs] at h2
    · exact h
  subst hbl
  have h23 := fun H => s23 n H A m hA
  have e : decide ((m : Int) ∈ A.map fun (n : Nat) => (n : Int)) = decide (m ∈ A) := by
    rw [Bool.eq_iff_iff, decide_eq_true_eq, decide_eq_true_eq, List.mem_map]
    constructor
    · rintro ⟨a, h1, h2⟩
      obtain rfl : a = m := by omega
      exact h1
    · intro h; exact ⟨m, h, rfl⟩
  rw [e] at h23
  simp only [c26, go_sem, Int.cast_ofNat_Int, Int.reduceToNat, Bool.true_xor, Bool.false_xor, Bool.xor_true, Bool.xor_false, Nat.reduceAdd, Nat.reduceBEq, Nat.reduceLeDiff, Nat.reduceLT, Nat.reduceMul, Nat.reduceSub, Int.reduceEq, Int.reduceLT, Int.reduceLE, Int.reduceNeg, h23]
theorem s20e (x0 x1 : SBlk) (es : List (Nat × Nat)) (ro : Nat) (A B : List Nat) (hA : A.length ≤ maxLen) (hB : B.length ≤ maxLen) (hs : ∀ m ∈ B, m ∈ A) :
    call1 T 40 (.fn 20) [.lst 1 (bS B) false, .fn 26 [.ptr 2 0 0 0]] ⟨[x0, x1, .box [.lst 1 (bS A) false]], es, ro⟩ = some (.bool false, ⟨[x0, x1, .box [.lst 1 (bS A) false]], es, ro⟩) := by
  have := stdCF_ok (T := T) (f := 20) (g := 46) (n := 38) (H := ⟨[x0, x1, .box [.lst 1 (bS A) false]], es, ro⟩) (ag := false) (z := 1) (id := 26) (caps := [.ptr 2 0 0 0])
    (v := .lst 1 (bS B) false) (L := bS B) (p := fun _ => false) e20 e46 (.lst 1 false (.inl rfl)) (fun r hr => by simp only [bS, List.mem_map] at hr; obtain ⟨c, _, rfl⟩ := hr; rfl) (fun _ => rfl)
    (by rw [bS_len]; exact hB)
    (fun r hr bl ro' hbl => by
      have hbl : bl = [x0, x1, .box [.lst 1 (bS A) false]] := by
        rcases hbl with ⟨_, _, h2⟩ | h
        · simp [SV.refs.refsL, SV.refs] at h2
        · exact h
      subst hbl
      simp only [bS, List.mem_map] at hr
      obtain ⟨m, hm, rfl⟩ := hr
      have := s26 35 x0 x1 [] ro' A m hA
      rw [decide_eq_true (hs m hm)] at this
      exact this)
    (by simp [SV.refs.refsL, SV.refs])
  rw [this]
  simp [List.any_eq_false]
theorem s7 (s : Sn) (L : List Em) (f : Bool) (wo : Nat) (hwo : wo < 256) (hL : L.length ≤ maxLen) : call1 T 41 (.fn 7) [.agg (snA s L f), .int .u8 wo] heap0 = some (.bool true, heap0) := by
  refine call_pure e7 (by rfl) ?_
  have h9 := s9
  have h10 := fun H => s10 36 H s.N s.P s.W s.g1 s.g2 s.g3 s.ex s.no s.th s.S s.f1 s.F s.f2 L f s.hS.1
  cases hf : fwB s.N s.P s.W s.S s.F L with
  | false => simp only [c7, heap0, go_sem, Int.cast_ofNat_Int, Int.reduceToNat, Bool.true_xor, Bool.false_xor, Bool.xor_true, Bool.xor_false, Nat.reduceAdd, Nat.reduceBEq, Nat.reduceLeDiff, Nat.reduceLT, Nat.reduceMul, Nat.reduceSub, Int.reduceEq, Int.reduceLT, Int.reduceLE, Int.reduceNeg, h9, h10, hf]
  | true =>
    have hL50 := (fw_of hf).2.2.2
    cases hz : decide ((L.length : Int) = 0) with
    | true => simp only [c7, heap0, go_sem, Int.cast_ofNat_Int, Int.reduceToNat, Bool.true_xor, Bool.false_xor, Bool.xor_true, Bool.xor_false, Nat.reduceAdd, Nat.reduceBEq, Nat.reduceLeDiff, Nat.reduceLT, Nat.reduceMul, Nat.reduceSub, Int.reduceEq, Int.reduceLT, Int.reduceLE, Int.reduceNeg, h9, h10, hf, hz]
    | false =>
      have hz' := of_decide_eq_false hz
      generalize hj : wo % L.length = j
      have hjl : j < L.length := by rw [← hj]; exact Nat.mod_lt _ (by omega)
      have w1 : w64 (wo : Int) = wo := w64_id (by omega) (by omega)
      have w2 : ((wo : Int)).tmod (L.length : Int) = (j : Int) := by
        rw [Int.tmod_eq_emod_of_nonneg (by omega), ← hj]; omega
      have w3 : w64 ((j : Int) + 1) = ((j + 1 : Nat) : Int) := w64_suc hjl hL
      have h12 := fun H => s12 39 H L f (by omega)
      have h12k := fun x es => stdCloneK_ok (T := T) (f := 12) (n := 39) (z := 4) (z' := 4) (by_ := 32) (L := emsS L) (fl := f) x12 (.inl rfl) (by rw [emsS_len]; exact Nat.le_trans (show L.length * 32 ≤ 100000 by omega) (by decide)) [x] es 0
      have h25 := fun x0 es => s25 39 x0 es L j hjl (by omega)
      have hml := erase_len hjl
      have hfz : ∀ H, fTB H 1 0 0 (L.length - 1) (some (.arr 0 4 (emsS (L.eraseIdx j) ++ [[.int .i64 0, .int .i64 0, .int .i64 0, .int .i64 0]]) false)) = (hset H 1 .dead 0).map fun H => (.lst 4 (emsS (L.eraseIdx j)) false, H) := fun H => by
        have e1 : (emsS (L.eraseIdx j) ++ [[SV.int .i64 0, SV.int .i64 0, SV.int .i64 0, SV.int .i64 0]]).take (L.length - 1) = emsS (L.eraseIdx j) := by
          rw [List.take_append_of_le_length (by rw [emsS_len]; omega), List.take_of_length_le (by rw [emsS_len]; omega)]
        have e2 : decide (0 + (L.length - 1) ≤ (emsS (L.eraseIdx j) ++ [[SV.int .i64 0, SV.int .i64 0, SV.int .i64 0, SV.int .i64 0]]).length) = true := decide_eq_true (by rw [List.length_append, emsS_len, hml]; omega)
        simp only [fTB, e2, List.drop_zero, e1, ems_refs, beq_self_eq_true, Bool.and_self, cond_true]
      have h11 := fun H => s11 32 H s.N s.P s.W s.g1 s.g2 s.g3 s.ex s.no s.th 7 s.S s.f1 6 s.F s.f2 L false s.hN s.hP s.hW (.inl rfl) (.inl rfl) s.hS s.hF hL
      have hac' : acE (G.okI s.N s.P s.W s.ex s.no s.th && U.ckB s.S s.F) s.N.length L = acE (okSn s) s.N.length L := rfl
      rw [hac'] at h11
      cases h0 : decide (acE (okSn s) s.N.length L = 0) with
      | false => simp only [c7, heap0, go_sem, Int.cast_ofNat_Int, Int.reduceToNat, Bool.true_xor, Bool.false_xor, Bool.xor_true, Bool.xor_false, Nat.reduceAdd, Nat.reduceBEq, Nat.reduceLeDiff, Nat.reduceLT, Nat.reduceMul, Nat.reduceSub, Int.reduceEq, Int.reduceLT, Int.reduceLE, Int.reduceNeg, h9, h10, hf, hz, w1, w2, w3, h12, h12k, h25, hfz, h11, h0]
      | true =>
        have h0' := of_decide_eq_true h0
        obtain ⟨hok, hL48, hch⟩ := sn_ok h0'
        have hN := sn_N hok
        have hN0 : 0 < s.N.length := by
          simp only [okSn, G.okI, G.okB, Bool.and_eq_true, decide_eq_true_eq] at hok
          omega
        have hacE := ac_sub h0' (List.eraseIdx_sublist L j)
        have h12e := fun H => s12 39 H (L.eraseIdx j) false (by omega)
        simp only [c7, heap0, go_sem, Int.cast_ofNat_Int, Int.reduceToNat, Bool.true_xor, Bool.false_xor, Bool.xor_true, Bool.xor_false, Nat.reduceAdd, Nat.reduceBEq, Nat.reduceLeDiff, Nat.reduceLT, Nat.reduceMul, Nat.reduceSub, Int.reduceEq, Int.reduceLT, Int.reduceLE, Int.reduceNeg, h9, h10, hf, hz, w1, w2, w3, h12, h12k, h25, hfz, h11, h0]
        refine loop_rule (fun i => ([(2, .ptr 0 0 0 0), (5, .int .i64 j), (6, .lst 4 (emsS (L.eraseIdx j)) false), (48, .int .i64 L.length), (49, .int .i64 i)],
          ⟨[.box (snA s L f), .dead], [], 0⟩)) (fun _ => True) L.length (by simp only [go_sem, Int.cast_ofNat_Int, Int.reduceToNat, Bool.true_xor, Bool.false_xor, Bool.xor_true, Bool.xor_false, Nat.reduceAdd, Nat.reduceBEq, Nat.reduceLeDiff, Nat.reduceLT, Nat.reduceMul, Nat.reduceSub, Int.reduceEq, Int.reduceLT, Int.reduceLE, Int.reduceNeg]; rfl) trivial ?_
        intro i hi _
        rcases Nat.lt_or_ge i L.length with hlt | hge
        · obtain ⟨a, ha⟩ := getS hlt
          have hw := w64_suc hlt hL
          cases j1 : decide ((i : Int) = (j : Int)) with
          | true =>
            simp only [go_sem, Int.cast_ofNat_Int, Int.reduceToNat, Bool.true_xor, Bool.false_xor, Bool.xor_true, Bool.xor_false, Nat.reduceAdd, Nat.reduceBEq, Nat.reduceLeDiff, Nat.reduceLT, Nat.reduceMul, Nat.reduceSub, Int.reduceEq, Int.reduceLT, Int.reduceLE, Int.reduceNeg, hlt, j1, hw]
            exact ⟨by first | trivial | omega, by first | trivial | rfl, trivial⟩
          | false =>
            have hij : i ≠ j := by have := of_decide_eq_false j1; omega
            have h22 := fun H => s22 22 H s L false i hL
            have hck := ck_of (k := 0) h0' (show (0 : Int) ≤ i ∧ (i : Int) < L.length by omega) (by omega)
            simp only [rsV, hck, decide_true, cond_true, Int.toNat_natCast, ha] at h22
            have hae : (L.eraseIdx j)[atE j i]? = some a := by rw [er_get hij]; exact ha
            have hael := (List.getElem?_eq_some_iff.1 hae).1
            have h22e := fun H => s22 22 H s (L.eraseIdx j) false (atE j i : Nat) (by omega)
            have hcke := ck_of (k := 0) hacE (show (0 : Int) ≤ (atE j i : Nat) ∧ ((atE j i : Nat) : Int) < (L.eraseIdx j).length by omega) (by omega)
            simp only [rsV, hcke, decide_true, cond_true, Int.toNat_natCast, hae] at h22e
            have h20 := fun x0 x1 es ro => s20e x0 x1 es ro (rcs s (L.eraseIdx j) (atE j i) a) (rcs s L i a) (Nat.le_trans (upto_len _ _) s.hN) (Nat.le_trans (upto_len _ _) s.hN) (fun m hm => by
              rw [rcs_mem] at hm ⊢
              exact ⟨hm.1, rec_er hok (by omega) hij hjl hm.2⟩)
            cases j2 : decide ((j : Int) < (i : Int)) with
            | true =>
              have hat : w64 ((i : Int) - 1) = ((atE j i : Nat) : Int) := by
                have := of_decide_eq_true j2
                rw [w64_id (by omega) (by omega)]
                unfold atE
                rw [if_pos (by omega)]
                omega
              simp only [go_sem, Int.cast_ofNat_Int, Int.reduceToNat, Bool.true_xor, Bool.false_xor, Bool.xor_true, Bool.xor_false, Nat.reduceAdd, Nat.reduceBEq, Nat.reduceLeDiff, Nat.reduceLT, Nat.reduceMul, Nat.reduceSub, Int.reduceEq, Int.reduceLT, Int.reduceLE, Int.reduceNeg, hlt, j1, j2, hat, h12, h12e, h22, h22e, h20, hw]
              exact ⟨by first | trivial | omega, by first | trivial | rfl, trivial⟩
            | false =>
              have hat : ((atE j i : Nat) : Int) = (i : Int) := by
                have := of_decide_eq_false j2
                unfold atE
                rw [if_neg (by omega)]
              rw [hat] at h22e
              simp only [go_sem, Int.cast_ofNat_Int, Int.reduceToNat, Bool.true_xor, Bool.false_xor, Bool.xor_true, Bool.xor_false, Nat.reduceAdd, Nat.reduceBEq, Nat.reduceLeDiff, Nat.reduceLT, Nat.reduceMul, Nat.reduceSub, Int.reduceEq, Int.reduceLT, Int.reduceLE, Int.reduceNeg, hlt, j1, j2, h12, h12e, h22, h22e, h20, hw]
              exact ⟨by first | trivial | omega, by first | trivial | rfl, trivial⟩
        · obtain rfl : i = L.length := by omega
          simp only [go_sem, Int.cast_ofNat_Int, Int.reduceToNat, Bool.true_xor, Bool.false_xor, Bool.xor_true, Bool.xor_false, Nat.reduceAdd, Nat.reduceBEq, Nat.reduceLeDiff, Nat.reduceLT, Nat.reduceMul, Nat.reduceSub, Int.reduceEq, Int.reduceLT, Int.reduceLE, Int.reduceNeg, show decide ((L.length : Int) < (L.length : Int)) = false from decide_eq_false (by omega)]
theorem law7 (xs : List SV) (h : FitsAll [scD, (false, [.int .u8])] xs) : ∃ m, call1 T m (.fn 7) xs heap0 = some (.bool true, heap0) := by
  obtain ⟨x1, r1, rfl, h1, h⟩ := fitsAll_cons h
  obtain ⟨x2, r2, rfl, h2, h⟩ := fitsAll_cons h
  cases fitsAll_nil h
  obtain ⟨s, L, f, rfl, hL⟩ := sn_of h1
  obtain ⟨x, rfl, w⟩ := fits_int (fitsA_one h2)
  simp only [Lit.wf, Bool.and_eq_true, decide_eq_true_eq] at w
  have w1 : IntKind.u8.min = 0 := rfl
  have w2 : IntKind.u8.max = 255 := rfl
  obtain ⟨wo, rfl⟩ : ∃ wo : Nat, x = wo := ⟨x.toNat, by omega⟩
  exact ⟨41, s7 s L f wo (by omega) hL⟩
end Go.Sh
namespace Go.Sh
set_option linter.unusedSectionVars false
set_option linter.unnecessarySimpa false
set_option linter.unusedVariables false
set_option linter.unusedSimpArgs false
set_option maxRecDepth 100000
set_option maxHeartbeats 4000000
theorem stdDelv_ok {T : FuncId → Option Fun1} {f n : Nat} {es : List (Nat × Nat)} {v id g : Nat} {caps : List SV} {M : List Int} {p : Int → Bool} {bl : List SBlk} {ro b : Nat} {ex : Bool} (hT : T f = some (stdDel g)) (hTg : T g = some (stdIdxF false 1)) (hb : bl[b]? = some (.arr v 1 (iS M) ex)) (hro : ro ≤ b) (hm : M.length ≤ maxLen)
    (hc : ∀ y ∈ M, ∀ X ro m, m = n ∨ m = n + 1 → call1 T m (.fn id) (.int .i64 y :: caps) ⟨bl.set b X, [], ro⟩ = some (.bool (p y), ⟨bl.set b X, [], ro⟩)) (hcr : SV.refs.refsL caps ≤ bl.length) :
    ∃ W : List Int, W = M.filter (fun y => !p y) ∧ call1 T (n + 2) (.fn f) [.slc b v 0 M.length, .fn id caps] ⟨bl, es, ro⟩ = some (.slc b v 0 W.length, ⟨bl.set b (.arr v 1 (iS (W ++ List.replicate (M.length - W.length) 0)) ex), es, ro⟩) := by
  refine ⟨_, rfl, ?_⟩
  have hlt : b < bl.length := (List.getElem?_eq_some_iff.1 hb).1
  have hself : bl.set b (.arr v 1 (iS M) ex) = bl := by
    obtain ⟨h1, h2⟩ := List.getElem?_eq_some_iff.1 hb
    rw [← h2]; simp
  have hg : ∀ X, (bl.set b X)[b]? = some X := fun X => by simp [hlt]
  have hmin : min ro bl.length = ro := Nat.min_eq_left (by omega)
  refine call_in hT (by simp [stdDel, pure0, SV.refs, SV.refs.refsL]) ?_
  have hidx : ∀ ro, call1 T (n + 1) (.fn g) [.slc b v 0 M.length, .fn id caps] ⟨bl, [], ro⟩ = some (.int .i64 (idx1 p M), ⟨bl, [], ro⟩) := fun ro => by
    have := stdIdxF_ok (T := T) (f := g) (n := n) (H := ⟨bl, [], ro⟩) (ag := false) (z := 1) (id := id) (caps := caps) (L := iS M) (v := .slc b v 0 (iS M).length) (p := fun r => match r with | [.int _ y] => p y | _ => false) hTg
      (.slc b v 0 (iS M) ex hb (by simp) (by simp)) (iS_row M) (fun _ => rfl) (by rw [iS_len]; exact hm) (fun r hr bl2 ro2 h => by
        simp only [iS, List.mem_map] at hr
        obtain ⟨y, hy, rfl⟩ := hr
        rcases h with ⟨_, h, _⟩ | h
        · simp [SV.refs] at h
        · rw [show bl2 = bl from h]
          have := hc y hy (.arr v 1 (iS M) ex) ro2 n (.inl rfl)
          rw [hself] at this
          exact this) hcr
    rw [show idx1 (fun r => match r with | [SV.int _ y] => p y | _ => false) (iS M) = idx1 p M from idx1_map _ _ M] at this
    rwa [iS_len] at this
  have hge := idx1_ge p M
  have hlen : ∀ X, (bl.set b X).length = bl.length := fun X => by simp
  have htk : ∀ X, (bl.set b X).take bl.length = bl.set b X := fun X => List.take_of_length_le (by simp)
  have hbN : decide (b < bl.length) = true := decide_eq_true hlt
  have hroN : decide (ro ≤ b) = true := decide_eq_true hro
  have hcd : decide (max (b + 1) (SV.refs.refsL caps) ≤ bl.length) = true := decide_eq_true (by omega)
  rcases Int.lt_or_le (idx1 p M) 0 with hneg | hpos
  · have hm1 : idx1 p M = -1 := by omega
    have hany := idx1_neg p M hm1
    have hfil : M.filter (fun y => !p y) = M := by
      rw [List.filter_eq_self]
      intro y hy
      have := List.any_eq_false.1 hany y hy
      simpa using this
    simp only [stdDel, go_sem, Int.cast_ofNat_Int, Int.reduceToNat, Bool.true_xor, Bool.false_xor, Bool.xor_true, Bool.xor_false, Nat.reduceAdd, Nat.reduceBEq, Nat.reduceLeDiff, Nat.reduceLT, Nat.reduceMul, Nat.reduceSub, Int.reduceEq, Int.reduceLT, Int.reduceLE, Int.reduceNeg, hmin, hidx, hm1, hfil, Nat.sub_self, List.replicate_zero, List.append_nil, hself, hbN]
  · obtain ⟨i0, hi0⟩ := Int.eq_ofNat_of_zero_le hpos
    obtain ⟨⟨y0, hy0, hp0⟩, hbef⟩ := idx1_spec p M i0 hi0
    have hlt0 := (List.getElem?_eq_some_iff.1 hy0).1
    have hs0 := w64_suc hlt0 hm
    obtain ⟨d1, d2⟩ := dl_skip (q := fun y => !p y) (M := M) (k := i0) (by omega) (fun j y hj hy => by simp [hbef j y hj hy])
    have e1 : dlW (fun y => !p y) M (i0 + 1) = M := by rw [dlW_no hy0 (by simp [hp0]), d1]
    have e2 : dlN (fun y => !p y) M (i0 + 1) = i0 := by rw [dlN_no hy0 (by simp [hp0]), d2]
    have hne : decide ((i0 : Int) = -1) = false := by rw [decide_eq_false_iff_not]; omega
    simp only [stdDel, go_sem, Int.cast_ofNat_Int, Int.reduceToNat, Bool.true_xor, Bool.false_xor, Bool.xor_true, Bool.xor_false, Nat.reduceAdd, Nat.reduceBEq, Nat.reduceLeDiff, Nat.reduceLT, Nat.reduceMul, Nat.reduceSub, Int.reduceEq, Int.reduceLT, Int.reduceLE, Int.reduceNeg, hmin, hidx, hi0, hne, hs0]
    refine loop_rule (fun k => ([(0, .slc b v 0 M.length), (1, .fn id caps), (5, .int .i64 (dlN (fun y => !p y) M (i0 + 1 + k))), (6, .int .i64 ((i0 + 1 + k : Nat) : Int))], ⟨bl.set b (.arr v 1 (iS (dlW (fun y => !p y) M (i0 + 1 + k))) ex), [], ro⟩)) (fun _ => True) (M.length - (i0 + 1)) ?_ trivial ?_
    · simp only [go_sem, Int.cast_ofNat_Int, Int.reduceToNat, Bool.true_xor, Bool.false_xor, Bool.xor_true, Bool.xor_false, Nat.reduceAdd, Nat.reduceBEq, Nat.reduceLeDiff, Nat.reduceLT, Nat.reduceMul, Nat.reduceSub, Int.reduceEq, Int.reduceLT, Int.reduceLE, Int.reduceNeg, e1, e2, hself, Nat.max_zero, hcd]
    · intro k hk _
      rcases Nat.lt_or_ge (i0 + 1 + k) M.length with hltk | hgek
      · obtain ⟨y, hy⟩ := getS hltk
        have hw := w64_suc hltk hm
        have hrest := dlW_rest (fun y => !p y) M (i0 + 1 + k) (i0 + 1 + k) (Nat.le_refl _)
        have hcy := fun X ro => hc y (List.mem_of_getElem? hy) X ro (n + 1) (.inr rfl)
        have hkm : k < M.length - (i0 + 1) := by omega
        simp only [go_sem, Int.cast_ofNat_Int, Int.reduceToNat, Bool.true_xor, Bool.false_xor, Bool.xor_true, Bool.xor_false, Nat.reduceAdd, Nat.reduceBEq, Nat.reduceLeDiff, Nat.reduceLT, Nat.reduceMul, Nat.reduceSub, Int.reduceEq, Int.reduceLT, Int.reduceLE, Int.reduceNeg, hg, hltk, hrest, hy, hcy]
        cases hp : p y with
        | true =>
          have f1 := dlW_no (q := fun y => !p y) hy (by simp [hp])
          have f2 := dlN_no (q := fun y => !p y) hy (by simp [hp])
          simp only [go_sem, Int.cast_ofNat_Int, Int.reduceToNat, Bool.true_xor, Bool.false_xor, Bool.xor_true, Bool.xor_false, Nat.reduceAdd, Nat.reduceBEq, Nat.reduceLeDiff, Nat.reduceLT, Nat.reduceMul, Nat.reduceSub, Int.reduceEq, Int.reduceLT, Int.reduceLE, Int.reduceNeg, hw, hlen, htk, Nat.max_zero, hcd]
          refine ⟨hkm, ?_, trivial⟩
          rw [← f1, ← f2]
          rfl
        | false =>
          have f1 := dlW_yes (q := fun y => !p y) hy (by simp [hp])
          have f2 := dlN_yes (q := fun y => !p y) hy (by simp [hp])
          have hle := dlN_le (fun y => !p y) M (i0 + 1 + k)
          have hltn : dlN (fun y => !p y) M (i0 + 1 + k) < M.length := by omega
          have hwn := w64_suc hltn hm
          obtain ⟨z, hz⟩ := getS (l := dlW (fun y => !p y) M (i0 + 1 + k)) (i := dlN (fun y => !p y) M (i0 + 1 + k)) (by rw [dlW_len]; exact hltn)
          have hset : (iS (dlW (fun y => !p y) M (i0 + 1 + k))).set (dlN (fun y => !p y) M (i0 + 1 + k)) [SV.int .i64 y] = iS ((dlW (fun y => !p y) M (i0 + 1 + k)).set (dlN (fun y => !p y) M (i0 + 1 + k)) y) := by
            simp [iS, List.map_set]
          simp only [go_sem, Int.cast_ofNat_Int, Int.reduceToNat, Bool.true_xor, Bool.false_xor, Bool.xor_true, Bool.xor_false, Nat.reduceAdd, Nat.reduceBEq, Nat.reduceLeDiff, Nat.reduceLT, Nat.reduceMul, Nat.reduceSub, Int.reduceEq, Int.reduceLT, Int.reduceLE, Int.reduceNeg, hg, hltn, hz, hw, hwn, put1, hroN, hbN, hlen, htk, List.set_set, hset, Nat.max_zero, hcd]
          refine ⟨hkm, ?_, trivial⟩
          rw [← f1, ← f2]
          rfl
      · have hltk : ¬ i0 + 1 + k < M.length := by omega
        have hkm : i0 + 1 + k = M.length := by omega
        have hj : dlN (fun y => !p y) M M.length = (M.filter (fun y => !p y)).length := by simp [dlN]
        have htw := dlW_take (fun y => !p y) M M.length
        rw [List.take_length, hj] at htw
        have hjle : (M.filter (fun y => !p y)).length ≤ M.length := List.length_filter_le _ _
        have b1 : decide (((M.filter (fun y => !p y)).length : Int) ≤ (M.length : Int)) = true := decide_eq_true (by omega)
        have b2 : decide ((M.filter (fun y => !p y)).length + (M.length - (M.filter (fun y => !p y)).length) ≤ M.length) = true := decide_eq_true (by omega)
        have b3 : (M.filter (fun y => !p y)).length + (M.length - (M.filter (fun y => !p y)).length) = M.length := by omega
        have hcl : (iS (dlW (fun y => !p y) M M.length)).take (M.filter (fun y => !p y)).length ++ List.replicate (M.length - (M.filter (fun y => !p y)).length) [SV.int .i64 0] ++ (iS (dlW (fun y => !p y) M M.length)).drop M.length =
            iS (M.filter (fun y => !p y) ++ List.replicate (M.length - (M.filter (fun y => !p y)).length) 0) := by
          rw [iS_take, htw, List.drop_of_length_le (by rw [iS_len, dlW_len]; exact Nat.le_refl _)]
          simp [iS]
        simp only [go_sem, Int.cast_ofNat_Int, Int.reduceToNat, Bool.true_xor, Bool.false_xor, Bool.xor_true, Bool.xor_false, Nat.reduceAdd, Nat.reduceBEq, Nat.reduceLeDiff, Nat.reduceLT, Nat.reduceMul, Nat.reduceSub, Int.reduceEq, Int.reduceLT, Int.reduceLE, Int.reduceNeg, hg, hltk, hkm, hj, Nat.lt_irrefl, b1, b2, b3, dlW_len, hroN, hbN, List.set_set, hcl, hlen, htk]
abbrev bx22 (s : Sn) (L : List Em) (f : Bool) (b : Nat) : List SBlk := [.box (stC s), .box (spC s), .box (stC s), .box (spC s), .box (snC s L f b), .box (stC s), .box (spC s), .box (snC s L f b), .box (snC s L f b), .box (snC s L f b)]
/-- Receivers, what it made kept. -/
theorem s22k (n : Nat) (x0 x1 x2 x3 : SBlk) (es : List (Nat × Nat)) (s : Sn) (L : List Em) (f : Bool) (q : Nat) (a : Em) (hL : L.length ≤ maxLen) (hck : ckE s L q 0 = 0) (ha : L[q]? = some a) :
    call1 T (n + 18) (.kfn 22) [.agg (stC s), .agg (spC s), .lst 4 (emsS L) f, .int .i64 q] ⟨[x0, x1, x2, x3], es, 0⟩ =
      some (.tup [.slc 14 (rcs s L q a).length 0 (rcs s L q a).length, .int .i64 0], ⟨[x0, x1, x2, x3] ++ bx22 s L f 9 ++ [.arr (rcs s L q a).length 1 (bS (rcs s L q a)) false], es ++ [(8, 10)], 0⟩) := by
  refine kcall_in e22 ?_
  have h40 := fun x0 x1 x2 x3 x y es => s40k (n + 7) [x0, x1, x2, x3, x, y] es 0 s L f q 0 hL (by simp)
  obtain ⟨hac, ⟨hi0, hi1⟩, hk0, hk1⟩ := ck_yes hck
  obtain ⟨hok, _, _⟩ := sn_ok hac
  have hN32 := sn_N hok
  have h39 := fun k x0 x1 x2 x3 x4 x5 x6 x7 x8 x10 x11 x12 x13 x14 es ro => s39 n ⟨[x0, x1, x2, x3, x4, x5, x6, x7, x8, .box (stC s), x10, x11, x12, x13, x14], es, ro⟩ s L f 9 q a k hL ha rfl
  simp only [c22, go_sem, Int.cast_ofNat_Int, Int.reduceToNat, Bool.true_xor, Bool.false_xor, Bool.xor_true, Bool.xor_false, Nat.reduceAdd, Nat.reduceBEq, Nat.reduceLeDiff, Nat.reduceLT, Nat.reduceMul, Nat.reduceSub, Int.reduceEq, Int.reduceLT, Int.reduceLE, Int.reduceNeg, h40, hck]
  refine loop_rule (fun k => ([(3, .int .i64 q), (10, .ptr 13 0 0 0), (12, .slc 14 (upto (fun k => recB s L q a k) k).length 0 (upto (fun k => recB s L q a k) k).length), (27, .int .i64 s.N.length), (28, .int .i64 k)],
    ⟨[x0, x1, x2, x3] ++ bx22 s L f 9 ++ [.arr (upto (fun k => recB s L q a k) k).length 1 (bS (upto (fun k => recB s L q a k) k)) false], [], 0⟩)) (fun _ => True) s.N.length ?_ trivial ?_
  · simp only [go_sem, Int.cast_ofNat_Int, Int.reduceToNat, Bool.true_xor, Bool.false_xor, Bool.xor_true, Bool.xor_false, Nat.reduceAdd, Nat.reduceBEq, Nat.reduceLeDiff, Nat.reduceLT, Nat.reduceMul, Nat.reduceSub, Int.reduceEq, Int.reduceLT, Int.reduceLE, Int.reduceNeg, G.ptsS_len']
    rfl
  · intro k hk _
    rcases Nat.lt_or_ge k s.N.length with hlt | hge
    · have hw := w64_suc hlt s.hN
      have rb := room_le (n := (upto (fun k => recB s L q a k) k).length) (Nat.le_trans (upto_len _ _) (by omega)) 8 (by omega)
      have gb := fun H => apB_grow 1 H 14 (upto (fun k => recB s L q a k) k).length (upto (fun k => recB s L q a k) k).length [[.int .i64 (k : Int)]] (bS (upto (fun k => recB s L q a k) k)) (bS_len _)
      have h39 := h39 k
      cases hr : recB s L q a k with
      | false =>
        have e1 := upto_no (p := fun k : Nat => recB s L q a k) (i := k) hr
        rw [hr] at h39
        simp only [go_sem, Int.cast_ofNat_Int, Int.reduceToNat, Bool.true_xor, Bool.false_xor, Bool.xor_true, Bool.xor_false, Nat.reduceAdd, Nat.reduceBEq, Nat.reduceLeDiff, Nat.reduceLT, Nat.reduceMul, Nat.reduceSub, Int.reduceEq, Int.reduceLT, Int.reduceLE, Int.reduceNeg, hlt, h39, hw, e1]
        exact ⟨by first | trivial | omega, by first | trivial | rfl, trivial⟩
      | true =>
        have e1 := upto_yes (p := fun k : Nat => recB s L q a k) (i := k) hr
        rw [hr] at h39
        simp only [go_sem, Int.cast_ofNat_Int, Int.reduceToNat, Bool.true_xor, Bool.false_xor, Bool.xor_true, Bool.xor_false, Nat.reduceAdd, Nat.reduceBEq, Nat.reduceLeDiff, Nat.reduceLT, Nat.reduceMul, Nat.reduceSub, Int.reduceEq, Int.reduceLT, Int.reduceLE, Int.reduceNeg, hlt, h39, rb, gb, bS_snoc, hw, e1, List.length_append]
        exact ⟨by first | trivial | omega, by first | trivial | rfl, trivial⟩
    · obtain rfl : k = s.N.length := by omega
      simp only [go_sem, Int.cast_ofNat_Int, Int.reduceToNat, Bool.true_xor, Bool.false_xor, Bool.xor_true, Bool.xor_false, Nat.reduceAdd, Nat.reduceBEq, Nat.reduceLeDiff, Nat.reduceLT, Nat.reduceMul, Nat.reduceSub, Int.reduceEq, Int.reduceLT, Int.reduceLE, Int.reduceNeg, show decide ((s.N.length : Int) < (s.N.length : Int)) = false from decide_eq_false (by omega)]
      rfl
/-! ### With one emission more -/
theorem osum_app {g : Em → Int} {a : Em} {i : Nat} {k : Int} {L : List Em} {m : Em} : ∀ q, q ≤ L.length → osum g a i k (L ++ [m]) q = osum g a i k L q
  | 0, _ => rfl
  | q + 1, hq => by
    have ih := osum_app (g := g) (a := a) (i := i) (k := k) (L := L) (m := m) q (by omega)
    have eg : (L ++ [m])[q]? = L[q]? := List.getElem?_append_left (by omega)
    cases hx : L[q]? with
    | none => rw [osum_out hx, osum_out (by rw [eg, hx]), ih]
    | some x => rw [osum_suc hx, osum_suc (by rw [eg, hx]), ih]
theorem rec_app {s : Sn} (h : okSn s = true) {L : List Em} (hL : L.length ≤ 900) {i : Nat} {a m : Em} (hc : ¬ (a.c = m.c ∧ ovB a m = true)) (k : Int) : recB s (L ++ [m]) i a k = (recB s L i a k && !(decide (m.n = k) && ovB a m)) := by
  have e1 : inter s (L ++ [m]) i a k = inter s L i a k := by
    rw [inter_sum h (by simp; omega), inter_sum h (by omega)]
    have em : (L ++ [m])[L.length]? = some m := by rw [List.getElem?_append_right (Nat.le_refl _), Nat.sub_self]; rfl
    have hl : (L ++ [m]).length = L.length + 1 := by simp
    have ho : othB a i k L.length m = false := by
      refine Bool.eq_false_iff.2 fun ho => ?_
      simp only [othB, Bool.and_eq_true, decide_eq_true_eq] at ho
      exact hc ⟨ho.1.1.2.symm, ho.2⟩
    rw [hl, osum_suc em, ho, osum_app _ (Nat.le_refl _)]
    simp only [cond_false]
    omega
  have e2 : freeB (L ++ [m]) a k = (freeB L a k && !(decide (m.n = k) && ovB a m)) := by
    rw [ov_comm a m]
    simp only [freeB, List.any_append, List.any_cons, List.any_nil, Bool.or_false, Bool.not_or]
  simp only [recB, e1, e2]
  cases freeB L a k <;> cases hearB s (sig s a k) (inter s L i a k) <;> simp
theorem rcs_app {s : Sn} (h : okSn s = true) {L : List Em} (hL : L.length ≤ 900) {i : Nat} {a m : Em} (hc : ¬ (a.c = m.c ∧ ovB a m = true)) : rcs s (L ++ [m]) i a = (rcs s L i a).filter (fun (k : Nat) => !(decide (m.n = (k : Int)) && ovB a m)) := by
  unfold rcs upto
  rw [List.filter_filter]
  refine List.filter_congr (fun k _ => ?_)
  rw [rec_app h hL hc, Bool.and_comm]
theorem s28 (n : Nat) (x0 : SBlk) (R : List SBlk) (es : List (Nat × Nat)) (ro : Nat) (m : Em) (y : Int) :
    call1 T (n + 1) (.fn 28) [.int .i64 y, .ptr 1 0 0 0] ⟨x0 :: .box (emC m) :: R, es, ro⟩ = some (.bool (decide (y = m.n)), ⟨x0 :: .box (emC m) :: R, es, ro⟩) := by
  refine call_ro e28 rfl rfl (fun RR kk bl ro' hbl => ?_)
  have hbl : bl = x0 :: .box (emC m) :: R := by
    rcases hbl with ⟨_, h2⟩ | h
    · simp [SV.refs.refsL, SV.refs] at h2
    · exact h
  subst hbl
  simp only [c28, go_sem, Int.cast_ofNat_Int, Int.reduceToNat, Bool.true_xor, Bool.false_xor, Bool.xor_true, Bool.xor_false, Nat.reduceAdd, Nat.reduceBEq, Nat.reduceLeDiff, Nat.reduceLT, Nat.reduceMul, Nat.reduceSub, Int.reduceEq, Int.reduceLT, Int.reduceLE, Int.reduceNeg]
end Go.Sh
namespace Go.Sh
set_option linter.unusedSectionVars false
set_option linter.unnecessarySimpa false
set_option linter.unusedVariables false
set_option linter.unusedSimpArgs false
set_option maxRecDepth 100000
set_option maxHeartbeats 4000000
theorem x27 : T 27 = some (stdDel 46) := e27
theorem s29s (n : Nat) (H : Heap) (b v : Nat) (ex : Bool) (W R M : List Int) (hb : H.bl[b]? = some (.arr v 1 (iS (W ++ R)) ex)) (hW : W.length ≤ maxLen) : call1 T (n + 1) (.fn 29) [.slc b v 0 W.length, .lst 1 (iS M) false] H = some (.bool (decide (W = M)), H) := by
  have hv : LV H.bl 1 (iS W) (.slc b v 0 (iS W).length) := .slc b v 0 (iS (W ++ R)) ex hb (by rw [iS_len, iS_len, List.length_append]; omega) (by
    rw [List.drop_zero, iS_len, iS_take, List.take_append_of_le_length (Nat.le_refl _), List.take_length])
  have := stdEq_ok (T := T) (f := 29) (n := n) (H := H) e29 hv (.lst (L := iS M) 1 false (.inl rfl)) hW
  rwa [iS_len] at this
def bI (L : List Nat) : List Int := L.map fun (n : Nat) => (n : Int)
theorem bI_len (L) : (bI L).length = L.length := by simp [bI]
theorem bI_bS (L) : bS L = iS (bI L) := bS_iS L
theorem s8 (s : Sn) (L : List Em) (f : Bool) (m : Em) (i : Int) (hL : L.length ≤ maxLen) : call1 T 41 (.fn 8) [.agg (snA s L f), .agg (emC m), .int .i64 i] heap0 = some (.bool true, heap0) := by
  refine call_pure e8 (by rfl) ?_
  have h9 := s9
  have h10 := fun H => s10 36 H s.N s.P s.W s.g1 s.g2 s.g3 s.ex s.no s.th s.S s.f1 s.F s.f2 L f s.hS.1
  cases hf : fwB s.N s.P s.W s.S s.F L with
  | false => simp only [c8, heap0, go_sem, Int.cast_ofNat_Int, Int.reduceToNat, Bool.true_xor, Bool.false_xor, Bool.xor_true, Bool.xor_false, Nat.reduceAdd, Nat.reduceBEq, Nat.reduceLeDiff, Nat.reduceLT, Nat.reduceMul, Nat.reduceSub, Int.reduceEq, Int.reduceLT, Int.reduceLE, Int.reduceNeg, h9, h10, hf]
  | true =>
  cases k1 : decide ((47 : Int) < (L.length : Int)) with
  | true => simp only [c8, heap0, go_sem, Int.cast_ofNat_Int, Int.reduceToNat, Bool.true_xor, Bool.false_xor, Bool.xor_true, Bool.xor_false, Nat.reduceAdd, Nat.reduceBEq, Nat.reduceLeDiff, Nat.reduceLT, Nat.reduceMul, Nat.reduceSub, Int.reduceEq, Int.reduceLT, Int.reduceLE, Int.reduceNeg, h9, h10, hf, k1]
  | false =>
  cases k2 : decide (i < 0) with
  | true => simp only [c8, heap0, go_sem, Int.cast_ofNat_Int, Int.reduceToNat, Bool.true_xor, Bool.false_xor, Bool.xor_true, Bool.xor_false, Nat.reduceAdd, Nat.reduceBEq, Nat.reduceLeDiff, Nat.reduceLT, Nat.reduceMul, Nat.reduceSub, Int.reduceEq, Int.reduceLT, Int.reduceLE, Int.reduceNeg, h9, h10, hf, k1, k2]
  | false =>
  cases k3 : decide ((L.length : Int) ≤ i) with
  | true => simp only [c8, heap0, go_sem, Int.cast_ofNat_Int, Int.reduceToNat, Bool.true_xor, Bool.false_xor, Bool.xor_true, Bool.xor_false, Nat.reduceAdd, Nat.reduceBEq, Nat.reduceLeDiff, Nat.reduceLT, Nat.reduceMul, Nat.reduceSub, Int.reduceEq, Int.reduceLT, Int.reduceLE, Int.reduceNeg, h9, h10, hf, k1, k2, k3]
  | false =>
    have k1' := of_decide_eq_false k1
    have k2' := of_decide_eq_false k2
    have k3' := of_decide_eq_false k3
    obtain ⟨q, rfl⟩ : ∃ q : Nat, i = q := ⟨i.toNat, by omega⟩
    obtain ⟨a, ha⟩ := getS (l := L) (i := q) (by omega)
    have hq : q < L.length := by omega
    have hL50 := (fw_of hf).2.2.2
    have h12 := fun H => s12 39 H L f (by omega)
    have h12k := fun bl es ro => stdCloneK_ok (T := T) (f := 12) (n := 39) (z := 4) (z' := 4) (by_ := 32) (L := emsS L) (fl := f) x12 (.inl rfl) (by rw [emsS_len]; exact Nat.le_trans (show L.length * 32 ≤ 100000 by omega) (by decide)) bl es ro
    have rb := room_le (n := L.length) (by omega) 32 (by omega)
    have gb := fun H => apB_grow 4 H 2 0 L.length [emC m] (emsS L) emsS_len
    have hl' : (L ++ [m]).length = L.length + 1 := by simp
    have hfz := fun H v => fTB_whole H 2 v (L.length + 1) 4 (emsS (L ++ [m])) false (by rw [emsS_len, hl']) (ems_refs _)
    have hL' : (L ++ [m]).length ≤ maxLen := by rw [hl']; exact Nat.le_trans (show L.length + 1 ≤ 100 by omega) (by decide)
    have h11 := fun H => s11 32 H s.N s.P s.W s.g1 s.g2 s.g3 s.ex s.no s.th 7 s.S s.f1 6 s.F s.f2 (L ++ [m]) false s.hN s.hP s.hW (.inl rfl) (.inl rfl) s.hS s.hF hL'
    have hac' : acE (G.okI s.N s.P s.W s.ex s.no s.th && U.ckB s.S s.F) s.N.length (L ++ [m]) = acE (okSn s) s.N.length (L ++ [m]) := rfl
    rw [hac'] at h11
    cases h0 : decide (acE (okSn s) s.N.length (L ++ [m]) = 0) with
    | false => simp only [c8, heap0, go_sem, Int.cast_ofNat_Int, Int.reduceToNat, Bool.true_xor, Bool.false_xor, Bool.xor_true, Bool.xor_false, Nat.reduceAdd, Nat.reduceBEq, Nat.reduceLeDiff, Nat.reduceLT, Nat.reduceMul, Nat.reduceSub, Int.reduceEq, Int.reduceLT, Int.reduceLE, Int.reduceNeg, h9, h10, hf, k1, k2, k3, h12k, rb, gb, emsS_snoc, hfz, h11, h0]
    | true =>
      have h0' := of_decide_eq_true h0
      obtain ⟨hok, hL48, hch⟩ := sn_ok h0'
      have hN := sn_N hok
      have hN0 : 0 < s.N.length := by
        simp only [okSn, G.okI, G.okB, Bool.and_eq_true, decide_eq_true_eq] at hok
        omega
      have h14 := fun H => s14 39 H a m
      have hck := ck_of (k := 0) (ac_sub h0' (List.sublist_append_left L [m])) (show (0 : Int) ≤ q ∧ (q : Int) < L.length by omega) (by omega)
      have hck' := ck_of (k := 0) h0' (show (0 : Int) ≤ q ∧ (q : Int) < (L ++ [m]).length by rw [hl']; omega) (by omega)
      have ha' : (L ++ [m])[q]? = some a := by rw [List.getElem?_append_left hq]; exact ha
      have h22k := fun x0 x1 x2 x3 es => s22k 22 x0 x1 x2 x3 es s L false q a hL hck ha
      have h22 := fun H => s22 22 H s (L ++ [m]) false q hL'
      simp only [rsV, hck', decide_true, cond_true, Int.toNat_natCast, ha'] at h22
      have fin : ¬ (a.c = m.c ∧ ovB a m = true) → runK (call1 T 40) (fin1 c8.res fun v H' => frz 0 H' depth1 v) c8.body [] (env0 [.agg (snA s L f), .agg (emC m), .int .i64 q]) heap0 () = some (.bool true) := fun hc => by
        have hr := rcs_app hok (show L.length ≤ 900 by omega) (i := q) hc
        have hj : (decide (a.c = m.c) && ovB a m) = false := by
          rw [Bool.eq_false_iff]; intro h
          simp only [Bool.and_eq_true, decide_eq_true_eq] at h
          exact hc h
        have hrl : (rcs s L q a).length ≤ maxLen := Nat.le_trans (upto_len _ _) s.hN
        cases hov : ovB a m with
        | false =>
          have hrr : rcs s (L ++ [m]) q a = rcs s L q a := by
            rw [hr]
            simp only [hov, Bool.and_false, Bool.not_false]
            exact List.filter_eq_self.2 (fun _ _ => rfl)
          rw [hrr, bI_bS] at h22
          rw [hov] at h14
          have h29 := fun x0 x1 x2 x3 x4 x5 x6 x7 x8 x9 x10 x11 x12 x13 es ro => s29s 39 ⟨[x0, x1, x2, x3, x4, x5, x6, x7, x8, x9, x10, x11, x12, x13, .arr (rcs s L q a).length 1 (iS (bI (rcs s L q a))) false], es, ro⟩ 14 (rcs s L q a).length false (bI (rcs s L q a)) [] (bI (rcs s L q a)) (by rw [List.append_nil]; rfl) (by rw [bI_len]; exact hrl)
          rw [bI_len] at h29
          simp only [decide_true] at h29
          simp only [bI_bS] at h22k
          cases j1 : decide (a.c = m.c) with
          | false => simp only [c8, heap0, go_sem, Int.cast_ofNat_Int, Int.reduceToNat, Bool.true_xor, Bool.false_xor, Bool.xor_true, Bool.xor_false, Nat.reduceAdd, Nat.reduceBEq, Nat.reduceLeDiff, Nat.reduceLT, Nat.reduceMul, Nat.reduceSub, Int.reduceEq, Int.reduceLT, Int.reduceLE, Int.reduceNeg, h9, h10, hf, k1, k2, k3, h12, h12k, rb, gb, emsS_snoc, hfz, h11, h0, hq, ha, j1, h14, h22k, h22, h29]
          | true => simp only [c8, heap0, go_sem, Int.cast_ofNat_Int, Int.reduceToNat, Bool.true_xor, Bool.false_xor, Bool.xor_true, Bool.xor_false, Nat.reduceAdd, Nat.reduceBEq, Nat.reduceLeDiff, Nat.reduceLT, Nat.reduceMul, Nat.reduceSub, Int.reduceEq, Int.reduceLT, Int.reduceLE, Int.reduceNeg, h9, h10, hf, k1, k2, k3, h12, h12k, rb, gb, emsS_snoc, hfz, h11, h0, hq, ha, j1, h14, h22k, h22, h29]
        | true =>
          have j1 : decide (a.c = m.c) = false := by rw [hov, Bool.and_true] at hj; exact hj
          rw [hov] at h14
          have hdel := fun x0 x2 x3 x4 x5 x6 x7 x8 x9 x10 x11 x12 x13 es => stdDelv_ok (T := T) (f := 27) (n := 38) (es := es) (v := (rcs s L q a).length) (id := 28) (g := 46) (caps := [.ptr 1 0 0 0]) (M := bI (rcs s L q a)) (p := fun y => decide (y = m.n))
            (bl := [x0, .box (emC m), x2, x3, x4, x5, x6, x7, x8, x9, x10, x11, x12, x13, .arr (rcs s L q a).length 1 (iS (bI (rcs s L q a))) false]) (ro := 0) (b := 14) (ex := false) x27 e46 rfl (by omega) (by rw [bI_len]; exact hrl)
            (fun y hy X ro mm hmm => by
              rcases hmm with rfl | rfl
              · exact s28 37 x0 _ [] ro m y
              · exact s28 38 x0 _ [] ro m y) (by simp [SV.refs.refsL, SV.refs])
          have hWe : (bI (rcs s L q a)).filter (fun y => !decide (y = m.n)) = bI (rcs s (L ++ [m]) q a) := by
            rw [hr]
            simp only [bI, List.filter_map, hov, Bool.and_true]
            congr 1
            refine List.filter_congr (fun k _ => ?_)
            simp only [Function.comp, eq_comm]
          have hdel' : ∀ x0 x2 x3 x4 x5 x6 x7 x8 x9 x10 x11 x12 x13 es, call1 T 40 (.fn 27) [.slc 14 (rcs s L q a).length 0 (rcs s L q a).length, .fn 28 [.ptr 1 0 0 0]] ⟨[x0, .box (emC m), x2, x3, x4, x5, x6, x7, x8, x9, x10, x11, x12, x13, .arr (rcs s L q a).length 1 (iS (bI (rcs s L q a))) false], es, 0⟩ =
              some (.slc 14 (rcs s L q a).length 0 (bI (rcs s (L ++ [m]) q a)).length, ⟨[x0, .box (emC m), x2, x3, x4, x5, x6, x7, x8, x9, x10, x11, x12, x13, .arr (rcs s L q a).length 1 (iS (bI (rcs s (L ++ [m]) q a) ++ List.replicate ((rcs s L q a).length - (bI (rcs s (L ++ [m]) q a)).length) 0)) false], es, 0⟩) := fun x0 x2 x3 x4 x5 x6 x7 x8 x9 x10 x11 x12 x13 es => by
            obtain ⟨W, hW, h⟩ := hdel x0 x2 x3 x4 x5 x6 x7 x8 x9 x10 x11 x12 x13 es
            rw [hWe] at hW
            subst hW
            rw [bI_len] at h
            exact h
          have hrl' : (bI (rcs s (L ++ [m]) q a)).length ≤ maxLen := by rw [bI_len]; exact Nat.le_trans (upto_len _ _) s.hN
          have h29 := fun x0 x1 x2 x3 x4 x5 x6 x7 x8 x9 x10 x11 x12 x13 es ro => s29s 39 ⟨[x0, x1, x2, x3, x4, x5, x6, x7, x8, x9, x10, x11, x12, x13, .arr (rcs s L q a).length 1 (iS (bI (rcs s (L ++ [m]) q a) ++ List.replicate ((rcs s L q a).length - (bI (rcs s (L ++ [m]) q a)).length) 0)) false], es, ro⟩ 14 (rcs s L q a).length false (bI (rcs s (L ++ [m]) q a)) _ (bI (rcs s (L ++ [m]) q a)) rfl hrl'
          simp only [decide_true] at h29
          rw [bI_bS] at h22
          simp only [bI_bS] at h22k
          simp only [c8, heap0, go_sem, Int.cast_ofNat_Int, Int.reduceToNat, Bool.true_xor, Bool.false_xor, Bool.xor_true, Bool.xor_false, Nat.reduceAdd, Nat.reduceBEq, Nat.reduceLeDiff, Nat.reduceLT, Nat.reduceMul, Nat.reduceSub, Int.reduceEq, Int.reduceLT, Int.reduceLE, Int.reduceNeg, h9, h10, hf, k1, k2, k3, h12, h12k, rb, gb, emsS_snoc, hfz, h11, h0, hq, ha, j1, h14, h22k, h22, hdel', h29]
      cases j1 : decide (a.c = m.c) with
      | false => exact fin (fun h => of_decide_eq_false j1 h.1)
      | true =>
        cases j2 : ovB a m with
        | false => exact fin (fun h => by rw [j2] at h; exact absurd h.2 (by decide))
        | true => simp only [c8, heap0, go_sem, Int.cast_ofNat_Int, Int.reduceToNat, Bool.true_xor, Bool.false_xor, Bool.xor_true, Bool.xor_false, Nat.reduceAdd, Nat.reduceBEq, Nat.reduceLeDiff, Nat.reduceLT, Nat.reduceMul, Nat.reduceSub, Int.reduceEq, Int.reduceLT, Int.reduceLE, Int.reduceNeg, h9, h10, hf, k1, k2, k3, h12k, rb, gb, emsS_snoc, hfz, h11, h0, hq, ha, j1, h14, j2]
theorem law8 (xs : List SV) (h : FitsAll [scD, emD, (false, [.int .i64])] xs) : ∃ m, call1 T m (.fn 8) xs heap0 = some (.bool true, heap0) := by
  obtain ⟨x1, r1, rfl, h1, h⟩ := fitsAll_cons h
  obtain ⟨x2, r2, rfl, h2, h⟩ := fitsAll_cons h
  obtain ⟨x3, r3, rfl, h3, h⟩ := fitsAll_cons h
  cases fitsAll_nil h
  obtain ⟨s, L, f, rfl, hL⟩ := sn_of h1
  obtain ⟨m, rfl⟩ := em_of h2
  obtain ⟨i, rfl, _⟩ := fits_int (fitsA_one h3)
  exact ⟨41, s8 s L f m i hL⟩
end Go.Sh
