

import Derived.Test.YtoilnldjfncniaaC2
namespace Go.Sh
set_option linter.unusedSectionVars false
set_option linter.unnecessarySimpa false
set_option linter.unusedVariables false
set_option linter.unusedSimpArgs false
set_option maxRecDepth 100000
set_option maxHeartbeats 4000000
/-- Whether an emission can be the one that is heard, the best one so far given. -/
def heC (L : List Em) (y : Em) (o : Option Nat) (x : Em) : Bool := decide (x.c = y.c) && !decide (x.x < y.x) && !decide (y.y < x.x) && !(match o with | some b => (match L[b]? with | some z => decide (z.x ≤ x.x) | none => false) | none => false)
def heF (s : Sn) (L : List Em) (y : Em) : Nat → Option Nat
  | 0 => none
  | q + 1 => match L[q]? with
    | some x => bif heC L y (heF s L y q) x && recB s L q x y.n then some q else heF s L y q
    | none => heF s L y q
def obI : Option Nat → Int
  | some b => b
  | none => 0
theorem heF_lt (s : Sn) (L : List Em) (y : Em) : ∀ q b, heF s L y q = some b → b < q ∧ b < L.length
  | 0, b, h => by cases h
  | q + 1, b, h => by
    have ih := heF_lt s L y q
    simp only [heF] at h
    cases hx : L[q]? with
    | none => rw [hx] at h; have := ih b h; omega
    | some x =>
      rw [hx] at h
      cases hc : heC L y (heF s L y q) x && recB s L q x y.n with
      | true =>
        simp only [hc, cond_true, Option.some.injEq] at h
        have := (List.getElem?_eq_some_iff.1 hx).1
        omega
      | false => simp only [hc, cond_false] at h; have := ih b h; omega
def liB (y : Em) : Bool := decide (y.c < 0) || decide (16 ≤ y.c) || decide (y.x < 0) || decide (y.y < y.x) || decide (1099511627776 < y.y)
def hrV (s : Sn) (L : List Em) (y : Em) : SV := bif decide (acE (okSn s) s.N.length L = 0) then (bif decide (y.n < 0) || decide ((s.N.length : Int) ≤ y.n) then .tup [.int .i64 0, .bool false, .int .i64 7] else
  bif liB y then .tup [.int .i64 0, .bool false, .int .i64 2] else .tup [.int .i64 (obI (heF s L y L.length)), .bool (heF s L y L.length).isSome, .int .i64 0]) else .tup [.int .i64 0, .bool false, .int .i64 (acE (okSn s) s.N.length L)]
@[go_sem] theorem res_three (e H r s t) : results1 e H [r, s, t] = (resOf e H r).bind fun a => (resOf e H s).bind fun b => (resOf e H t).map fun c => .tup [a, b, c] := by
  unfold results1
  cases h : resOf e H r <;> cases h' : resOf e H s <;> cases h'' : resOf e H t <;> simp [allS, h, h', h'']
theorem s16 (n : Nat) (H : Heap) (s : Sn) (L : List Em) (f : Bool) (y : Em) (hL : L.length ≤ maxLen) : call1 T (n + 18) (.fn 16) [.agg (stC s), .agg (spC s), .lst 4 (emsS L) f, .agg (emC y)] H = some (hrV s L y, H) := by
  refine call_pure e16 (by rfl) ?_
  have h38 := fun x y z es => s38k (n + 8) [x, y, z] es 0 s L f hL (by simp)
  unfold hrV
  cases h0 : decide (acE (okSn s) s.N.length L = 0) with
  | false => simp only [c16, heap0, go_sem, Int.cast_ofNat_Int, Int.reduceToNat, Bool.true_xor, Bool.false_xor, Bool.xor_true, Bool.xor_false, Nat.reduceAdd, Nat.reduceBEq, Nat.reduceLeDiff, Nat.reduceLT, Nat.reduceMul, Nat.reduceSub, Int.reduceEq, Int.reduceLT, Int.reduceLE, Int.reduceNeg, h38, h0]
  | true =>
    have h0' := of_decide_eq_true h0
    cases k1 : decide (y.n < 0) with
    | true => simp only [c16, heap0, go_sem, Int.cast_ofNat_Int, Int.reduceToNat, Bool.true_xor, Bool.false_xor, Bool.xor_true, Bool.xor_false, Nat.reduceAdd, Nat.reduceBEq, Nat.reduceLeDiff, Nat.reduceLT, Nat.reduceMul, Nat.reduceSub, Int.reduceEq, Int.reduceLT, Int.reduceLE, Int.reduceNeg, h38, h0, k1]
    | false =>
    cases k2 : decide ((s.N.length : Int) ≤ y.n) with
    | true => simp only [c16, heap0, go_sem, Int.cast_ofNat_Int, Int.reduceToNat, Bool.true_xor, Bool.false_xor, Bool.xor_true, Bool.xor_false, Nat.reduceAdd, Nat.reduceBEq, Nat.reduceLeDiff, Nat.reduceLT, Nat.reduceMul, Nat.reduceSub, Int.reduceEq, Int.reduceLT, Int.reduceLE, Int.reduceNeg, h38, h0, k1, G.ptsS_len', k2]
    | false =>
    unfold liB
    cases k3 : decide (y.c < 0) with
    | true => simp only [c16, heap0, go_sem, Int.cast_ofNat_Int, Int.reduceToNat, Bool.true_xor, Bool.false_xor, Bool.xor_true, Bool.xor_false, Nat.reduceAdd, Nat.reduceBEq, Nat.reduceLeDiff, Nat.reduceLT, Nat.reduceMul, Nat.reduceSub, Int.reduceEq, Int.reduceLT, Int.reduceLE, Int.reduceNeg, h38, h0, k1, G.ptsS_len', k2, k3]
    | false =>
    cases k4 : decide (16 ≤ y.c) with
    | true => simp only [c16, heap0, go_sem, Int.cast_ofNat_Int, Int.reduceToNat, Bool.true_xor, Bool.false_xor, Bool.xor_true, Bool.xor_false, Nat.reduceAdd, Nat.reduceBEq, Nat.reduceLeDiff, Nat.reduceLT, Nat.reduceMul, Nat.reduceSub, Int.reduceEq, Int.reduceLT, Int.reduceLE, Int.reduceNeg, h38, h0, k1, G.ptsS_len', k2, k3, k4]
    | false =>
    cases k5 : decide (y.x < 0) with
    | true => simp only [c16, heap0, go_sem, Int.cast_ofNat_Int, Int.reduceToNat, Bool.true_xor, Bool.false_xor, Bool.xor_true, Bool.xor_false, Nat.reduceAdd, Nat.reduceBEq, Nat.reduceLeDiff, Nat.reduceLT, Nat.reduceMul, Nat.reduceSub, Int.reduceEq, Int.reduceLT, Int.reduceLE, Int.reduceNeg, h38, h0, k1, G.ptsS_len', k2, k3, k4, k5]
    | false =>
    cases k6 : decide (y.y < y.x) with
    | true => simp only [c16, heap0, go_sem, Int.cast_ofNat_Int, Int.reduceToNat, Bool.true_xor, Bool.false_xor, Bool.xor_true, Bool.xor_false, Nat.reduceAdd, Nat.reduceBEq, Nat.reduceLeDiff, Nat.reduceLT, Nat.reduceMul, Nat.reduceSub, Int.reduceEq, Int.reduceLT, Int.reduceLE, Int.reduceNeg, h38, h0, k1, G.ptsS_len', k2, k3, k4, k5, k6]
    | false =>
    cases k7 : decide (1099511627776 < y.y) with
    | true => simp only [c16, heap0, go_sem, Int.cast_ofNat_Int, Int.reduceToNat, Bool.true_xor, Bool.false_xor, Bool.xor_true, Bool.xor_false, Nat.reduceAdd, Nat.reduceBEq, Nat.reduceLeDiff, Nat.reduceLT, Nat.reduceMul, Nat.reduceSub, Int.reduceEq, Int.reduceLT, Int.reduceLE, Int.reduceNeg, h38, h0, k1, G.ptsS_len', k2, k3, k4, k5, k6, k7]
    | false =>
      simp only [c16, heap0, go_sem, Int.cast_ofNat_Int, Int.reduceToNat, Bool.true_xor, Bool.false_xor, Bool.xor_true, Bool.xor_false, Nat.reduceAdd, Nat.reduceBEq, Nat.reduceLeDiff, Nat.reduceLT, Nat.reduceMul, Nat.reduceSub, Int.reduceEq, Int.reduceLT, Int.reduceLE, Int.reduceNeg, h38, h0, h0', k1, G.ptsS_len', k2, k3, k4, k5, k6, k7]
      refine loop_rule (fun q => ([(2, .lst 4 (emsS L) f), (7, .ptr 2 0 0 0), (11, .ptr 6 0 0 0), (13, .int .i64 (obI (heF s L y q))), (14, .bool (heF s L y q).isSome), (66, .lst 4 (emsS L) f), (67, .int .i64 L.length), (68, .int .i64 q)],
        ⟨[.box (stC s), .box (spC s), .box (emC y), .box (stC s), .box (spC s), .box (snC s L f 3), .box (snC s L f 3)], [], 0⟩)) (fun _ => True) L.length (by simp only [go_sem, Int.cast_ofNat_Int, Int.reduceToNat, Bool.true_xor, Bool.false_xor, Bool.xor_true, Bool.xor_false, Nat.reduceAdd, Nat.reduceBEq, Nat.reduceLeDiff, Nat.reduceLT, Nat.reduceMul, Nat.reduceSub, Int.reduceEq, Int.reduceLT, Int.reduceLE, Int.reduceNeg]; rfl) trivial ?_
      intro q hq _
      rcases Nat.lt_or_ge q L.length with hlt | hge
      · obtain ⟨x, hx⟩ := getS hlt
        have hw := w64_suc hlt hL
        have h39 := fun x0 x1 x2 x4 x5 x6 x7 es ro => s39 n ⟨[x0, x1, x2, .box (stC s), x4, x5, x6, x7], es, ro⟩ s L f 3 q x y.n hL hx rfl
        have no : (heC L y (heF s L y q) x && recB s L q x y.n) = false → heF s L y (q + 1) = heF s L y q := fun h => by simp only [heF, hx, h, cond_false]
        cases j1 : decide (x.c = y.c) with
        | false =>
          have e1 := no (by simp only [heC, j1]; rfl)
          simp only [go_sem, Int.cast_ofNat_Int, Int.reduceToNat, Bool.true_xor, Bool.false_xor, Bool.xor_true, Bool.xor_false, Nat.reduceAdd, Nat.reduceBEq, Nat.reduceLeDiff, Nat.reduceLT, Nat.reduceMul, Nat.reduceSub, Int.reduceEq, Int.reduceLT, Int.reduceLE, Int.reduceNeg, hlt, hx, j1, hw, e1]
          exact ⟨trivial, by first | trivial | rfl, trivial⟩
        | true =>
        cases j2 : decide (x.x < y.x) with
        | true =>
          have e1 := no (by simp only [heC, j1, j2]; rfl)
          simp only [go_sem, Int.cast_ofNat_Int, Int.reduceToNat, Bool.true_xor, Bool.false_xor, Bool.xor_true, Bool.xor_false, Nat.reduceAdd, Nat.reduceBEq, Nat.reduceLeDiff, Nat.reduceLT, Nat.reduceMul, Nat.reduceSub, Int.reduceEq, Int.reduceLT, Int.reduceLE, Int.reduceNeg, hlt, hx, j1, j2, hw, e1]
          exact ⟨trivial, by first | trivial | rfl, trivial⟩
        | false =>
        cases j3 : decide (y.y < x.x) with
        | true =>
          have e1 := no (by simp only [heC, j1, j2, j3]; rfl)
          simp only [go_sem, Int.cast_ofNat_Int, Int.reduceToNat, Bool.true_xor, Bool.false_xor, Bool.xor_true, Bool.xor_false, Nat.reduceAdd, Nat.reduceBEq, Nat.reduceLeDiff, Nat.reduceLT, Nat.reduceMul, Nat.reduceSub, Int.reduceEq, Int.reduceLT, Int.reduceLE, Int.reduceNeg, hlt, hx, j1, j2, j3, hw, e1]
          exact ⟨trivial, by first | trivial | rfl, trivial⟩
        | false =>
        have hcase : heC L y (heF s L y q) x = !(match heF s L y q with | some b => (match L[b]? with | some z => decide (z.x ≤ x.x) | none => false) | none => false) := by simp only [heC, j1, j2, j3]; rfl
        cases ho : heF s L y q with
        | none =>
          rw [ho] at hcase no
          cases hr : recB s L q x y.n with
          | false =>
            have e1 := no (by rw [hr, Bool.and_false])
            rw [hr] at h39
            simp only [go_sem, Int.cast_ofNat_Int, Int.reduceToNat, Bool.true_xor, Bool.false_xor, Bool.xor_true, Bool.xor_false, Nat.reduceAdd, Nat.reduceBEq, Nat.reduceLeDiff, Nat.reduceLT, Nat.reduceMul, Nat.reduceSub, Int.reduceEq, Int.reduceLT, Int.reduceLE, Int.reduceNeg, hlt, hx, j1, j2, j3, ho, obI, Option.isSome_none, h39, hw, e1]
            exact ⟨trivial, by first | trivial | rfl, trivial⟩
          | true =>
            have e1 : heF s L y (q + 1) = some q := by simp only [heF, hx, ho, hcase, hr, Bool.not_false, Bool.and_self, cond_true]
            rw [hr] at h39
            simp only [go_sem, Int.cast_ofNat_Int, Int.reduceToNat, Bool.true_xor, Bool.false_xor, Bool.xor_true, Bool.xor_false, Nat.reduceAdd, Nat.reduceBEq, Nat.reduceLeDiff, Nat.reduceLT, Nat.reduceMul, Nat.reduceSub, Int.reduceEq, Int.reduceLT, Int.reduceLE, Int.reduceNeg, hlt, hx, j1, j2, j3, ho, obI, Option.isSome_none, h39, hw, e1, Option.isSome_some]
            exact ⟨trivial, by first | trivial | rfl, trivial⟩
        | some b =>
          have hbl := (heF_lt s L y q b ho).2
          obtain ⟨z, hz⟩ := getS hbl
          rw [ho] at hcase no
          simp only [hz] at hcase
          cases j4 : decide (z.x ≤ x.x) with
          | true =>
            have e1 := no (by rw [hcase, j4]; rfl)
            simp only [go_sem, Int.cast_ofNat_Int, Int.reduceToNat, Bool.true_xor, Bool.false_xor, Bool.xor_true, Bool.xor_false, Nat.reduceAdd, Nat.reduceBEq, Nat.reduceLeDiff, Nat.reduceLT, Nat.reduceMul, Nat.reduceSub, Int.reduceEq, Int.reduceLT, Int.reduceLE, Int.reduceNeg, hlt, hx, j1, j2, j3, ho, obI, Option.isSome_some, hbl, hz, j4, hw, e1]
            exact ⟨trivial, by first | trivial | rfl, trivial⟩
          | false =>
            cases hr : recB s L q x y.n with
            | false =>
              have e1 := no (by rw [hr, Bool.and_false])
              rw [hr] at h39
              simp only [go_sem, Int.cast_ofNat_Int, Int.reduceToNat, Bool.true_xor, Bool.false_xor, Bool.xor_true, Bool.xor_false, Nat.reduceAdd, Nat.reduceBEq, Nat.reduceLeDiff, Nat.reduceLT, Nat.reduceMul, Nat.reduceSub, Int.reduceEq, Int.reduceLT, Int.reduceLE, Int.reduceNeg, hlt, hx, j1, j2, j3, ho, obI, Option.isSome_some, hbl, hz, j4, h39, hw, e1]
              exact ⟨trivial, by first | trivial | rfl, trivial⟩
            | true =>
              have e1 : heF s L y (q + 1) = some q := by simp only [heF, hx, ho, hcase, hr, j4, Bool.not_false, Bool.and_self, cond_true]
              rw [hr] at h39
              simp only [go_sem, Int.cast_ofNat_Int, Int.reduceToNat, Bool.true_xor, Bool.false_xor, Bool.xor_true, Bool.xor_false, Nat.reduceAdd, Nat.reduceBEq, Nat.reduceLeDiff, Nat.reduceLT, Nat.reduceMul, Nat.reduceSub, Int.reduceEq, Int.reduceLT, Int.reduceLE, Int.reduceNeg, hlt, hx, j1, j2, j3, ho, obI, Option.isSome_some, hbl, hz, j4, h39, hw, e1]
              exact ⟨trivial, by first | trivial | rfl, trivial⟩
      · obtain rfl : q = L.length := by omega
        simp only [go_sem, Int.cast_ofNat_Int, Int.reduceToNat, Bool.true_xor, Bool.false_xor, Bool.xor_true, Bool.xor_false, Nat.reduceAdd, Nat.reduceBEq, Nat.reduceLeDiff, Nat.reduceLT, Nat.reduceMul, Nat.reduceSub, Int.reduceEq, Int.reduceLT, Int.reduceLE, Int.reduceNeg, show decide ((L.length : Int) < (L.length : Int)) = false from decide_eq_false (by omega)]
end Go.Sh
namespace Go.Sh
set_option linter.unusedSectionVars false
set_option linter.unnecessarySimpa false
set_option linter.unusedVariables false
set_option linter.unusedSimpArgs false
set_option maxRecDepth 100000
set_option maxHeartbeats 4000000
def cand (s : Sn) (L : List Em) (y : Em) (q : Nat) (x : Em) : Bool := recB s L q x y.n && decide (x.c = y.c) && decide (y.x ≤ x.x) && decide (x.x ≤ y.y)
def HeS (s : Sn) (L : List Em) (y : Em) (q : Nat) : Option Nat → Prop
  | none => ∀ (j : Nat) x, j < q → L[j]? = some x → cand s L y j x = false
  | some b => ∃ z, L[b]? = some z ∧ cand s L y b z = true ∧ ∀ (j : Nat) x, j < q → L[j]? = some x → cand s L y j x = true → z.x ≤ x.x
theorem not_lt_dec (a b : Int) : (!decide (a < b)) = decide (b ≤ a) := by rw [Bool.eq_iff_iff]; simp
theorem heF_spec (s : Sn) (L : List Em) (y : Em) : ∀ q, HeS s L y q (heF s L y q)
  | 0 => fun j x h => by omega
  | q + 1 => by
    have ih := heF_spec s L y q
    simp only [heF]
    cases hx : L[q]? with
    | none =>
      have hout : ∀ (j : Nat) x, j < q + 1 → L[j]? = some x → j < q := fun j x hj h => by
        rcases Nat.lt_or_ge j q with h3 | h3
        · exact h3
        · obtain rfl : j = q := by omega
          rw [hx] at h; cases h
      cases ho : heF s L y q with
      | none => rw [ho] at ih; exact fun j x hj h => ih j x (hout j x hj h) h
      | some b => rw [ho] at ih; obtain ⟨z, h1, h2, h3⟩ := ih; exact ⟨z, h1, h2, fun j x hj h hc => h3 j x (hout j x hj h) h hc⟩
    | some x =>
      simp only
      have hsp : ∀ (j : Nat) w, j < q + 1 → L[j]? = some w → j < q ∨ j = q ∧ w = x := fun j w hj h => by
        rcases Nat.lt_or_ge j q with h3 | h3
        · exact .inl h3
        · obtain rfl : j = q := by omega
          rw [hx] at h; cases h; exact .inr ⟨rfl, rfl⟩
      cases ho : heF s L y q with
      | none =>
        rw [ho] at ih
        have e : (heC L y none x && recB s L q x y.n) = cand s L y q x := by
          simp only [heC, cand, not_lt_dec, Bool.not_false, Bool.and_true]
          cases recB s L q x y.n <;> simp
        rw [e]
        cases hc : cand s L y q x with
        | true =>
          refine ⟨x, hx, hc, fun j w hj h hw => ?_⟩
          rcases hsp j w hj h with h3 | ⟨rfl, rfl⟩
          · rw [ih j w h3 h] at hw; cases hw
          · exact Int.le_refl _
        | false =>
          intro j w hj h
          rcases hsp j w hj h with h3 | ⟨rfl, rfl⟩
          · exact ih j w h3 h
          · exact hc
      | some b =>
        rw [ho] at ih
        obtain ⟨z, h1, h2, h3⟩ := ih
        have e : (heC L y (some b) x && recB s L q x y.n) = (cand s L y q x && !decide (z.x ≤ x.x)) := by
          simp only [heC, cand, not_lt_dec, h1]
          cases recB s L q x y.n <;> simp
        rw [e]
        cases hc : cand s L y q x with
        | true =>
          cases hz : decide (z.x ≤ x.x) with
          | true =>
            refine ⟨z, h1, h2, fun j w hj h hw => ?_⟩
            rcases hsp j w hj h with h4 | ⟨rfl, rfl⟩
            · exact h3 j w h4 h hw
            · exact of_decide_eq_true hz
          | false =>
            have hz' := of_decide_eq_false hz
            refine ⟨x, hx, hc, fun j w hj h hw => ?_⟩
            rcases hsp j w hj h with h4 | ⟨rfl, rfl⟩
            · have := h3 j w h4 h hw; omega
            · exact Int.le_refl _
        | false =>
          refine ⟨z, h1, h2, fun j w hj h hw => ?_⟩
          rcases hsp j w hj h with h4 | ⟨rfl, rfl⟩
          · exact h3 j w h4 h hw
          · rw [hc] at hw; cases hw
theorem he_wider {s : Sn} {L : List Em} {y y' : Em} (hn : y'.n = y.n) (hc : y'.c = y.c) (h1 : y'.x ≤ y.x) (h2 : y.y ≤ y'.y) {i : Nat} (h : heF s L y L.length = some i) : ∃ k a b, heF s L y' L.length = some k ∧ L[k]? = some a ∧ L[i]? = some b ∧ a.x ≤ b.x := by
  have s1 := heF_spec s L y L.length
  have s2 := heF_spec s L y' L.length
  rw [h] at s1
  obtain ⟨z, z1, z2, _⟩ := s1
  have hz : cand s L y' i z = true := by
    simp only [cand, Bool.and_eq_true, decide_eq_true_eq] at z2 ⊢
    rw [hn, hc]
    exact ⟨⟨z2.1.1, by omega⟩, by omega⟩
  have hi := (List.getElem?_eq_some_iff.1 z1).1
  cases ho : heF s L y' L.length with
  | none => rw [ho] at s2; rw [s2 i z hi z1] at hz; cases hz
  | some k =>
    rw [ho] at s2
    obtain ⟨w, w1, _, w3⟩ := s2
    exact ⟨k, w, z, rfl, w1, z1, w3 i z hi z1 hz⟩
abbrev snA (s : Sn) (L : List Em) (f : Bool) : List SV := [.lst 2 (G.ptsS s.N) s.g1, .lst 1 (G.intsS s.P) s.g2, .lst 5 (G.wlsS s.W) s.g3, .int .i64 s.ex, .int .i64 s.no, .int .i64 s.th, .lst 7 (U.srsS s.S) s.f1, .lst 6 (U.fdsS s.F) s.f2, .lst 4 (emsS L) f]
def fiI : Option Nat → Int
  | some b => b
  | none => -1
theorem s16' (n : Nat) (H : Heap) (s : Sn) (L : List Em) (f : Bool) (a c x y : Int) (hL : L.length ≤ maxLen) : call1 T (n + 18) (.fn 16) [.agg (stC s), .agg (spC s), .lst 4 (emsS L) f, .agg [.int .i64 a, .int .i64 c, .int .i64 x, .int .i64 y]] H = some (hrV s L ⟨a, c, x, y⟩, H) := s16 n H s L f ⟨a, c, x, y⟩ hL
theorem s4 (s : Sn) (L : List Em) (f : Bool) (y : Em) (wd : Nat) (hwd : wd < 65536) (hL : L.length ≤ maxLen) : call1 T 41 (.fn 4) [.agg (snA s L f), .agg (emC y), .int .u16 wd] heap0 = some (.bool true, heap0) := by
  refine call_pure e4 (by rfl) ?_
  have h9 := s9
  have h10 := fun H => s10 36 H s.N s.P s.W s.g1 s.g2 s.g3 s.ex s.no s.th s.S s.f1 s.F s.f2 L f s.hS.1
  cases hf : fwB s.N s.P s.W s.S s.F L with
  | false => simp only [c4, heap0, go_sem, Int.cast_ofNat_Int, Int.reduceToNat, Bool.true_xor, Bool.false_xor, Bool.xor_true, Bool.xor_false, Nat.reduceAdd, Nat.reduceBEq, Nat.reduceLeDiff, Nat.reduceLT, Nat.reduceMul, Nat.reduceSub, Int.reduceEq, Int.reduceLT, Int.reduceLE, Int.reduceNeg, h9, h10, hf]
  | true =>
    have h12 := fun H => s12 39 H L f (by have := fw_of hf; omega)
    have h16 := fun H => s16 22 H s L false y hL
    unfold hrV at h16
    cases h0 : decide (acE (okSn s) s.N.length L = 0) with
    | false =>
      simp only [h0, cond_false] at h16
      simp only [c4, heap0, go_sem, Int.cast_ofNat_Int, Int.reduceToNat, Bool.true_xor, Bool.false_xor, Bool.xor_true, Bool.xor_false, Nat.reduceAdd, Nat.reduceBEq, Nat.reduceLeDiff, Nat.reduceLT, Nat.reduceMul, Nat.reduceSub, Int.reduceEq, Int.reduceLT, Int.reduceLE, Int.reduceNeg, h9, h10, hf, h12, h16, h0]
    | true =>
      have h0' := of_decide_eq_true h0
      cases k1 : decide (y.n < 0) || decide ((s.N.length : Int) ≤ y.n) with
      | true =>
        simp only [h0, k1, cond_true] at h16
        simp only [c4, heap0, go_sem, Int.cast_ofNat_Int, Int.reduceToNat, Bool.true_xor, Bool.false_xor, Bool.xor_true, Bool.xor_false, Nat.reduceAdd, Nat.reduceBEq, Nat.reduceLeDiff, Nat.reduceLT, Nat.reduceMul, Nat.reduceSub, Int.reduceEq, Int.reduceLT, Int.reduceLE, Int.reduceNeg, h9, h10, hf, h12, h16]
      | false =>
        cases k2 : liB y with
        | true =>
          simp only [h0, k1, k2, cond_true, cond_false] at h16
          simp only [c4, heap0, go_sem, Int.cast_ofNat_Int, Int.reduceToNat, Bool.true_xor, Bool.false_xor, Bool.xor_true, Bool.xor_false, Nat.reduceAdd, Nat.reduceBEq, Nat.reduceLeDiff, Nat.reduceLT, Nat.reduceMul, Nat.reduceSub, Int.reduceEq, Int.reduceLT, Int.reduceLE, Int.reduceNeg, h9, h10, hf, h12, h16]
        | false =>
          simp only [h0, k1, k2, cond_true, cond_false] at h16
          have k1' := k1
          simp only [Bool.or_eq_false_iff, decide_eq_false_iff_not] at k1'
          simp only [liB, Bool.or_eq_false_iff, decide_eq_false_iff_not] at k2
          simp only [c4, heap0, go_sem, Int.cast_ofNat_Int, Int.reduceToNat, Bool.true_xor, Bool.false_xor, Bool.xor_true, Bool.xor_false, Nat.reduceAdd, Nat.reduceBEq, Nat.reduceLeDiff, Nat.reduceLT, Nat.reduceMul, Nat.reduceSub, Int.reduceEq, Int.reduceLT, Int.reduceLE, Int.reduceNeg, h9, h10, hf, h12, h16]
          refine loop_rule (fun q => ([(2, .int .u16 wd), (3, .ptr 0 0 0 0), (4, .ptr 1 0 0 0), (7, .int .i64 (obI (heF s L y L.length))), (8, .bool (heF s L y L.length).isSome), (10, .int .i64 (fiI (heF s L y q))), (46, .lst 4 (emsS L) f), (47, .int .i64 L.length), (48, .int .i64 q)],
            ⟨[.box (snA s L f), .box (emC y)], [], 0⟩)) (fun _ => True) L.length (by simp only [go_sem, Int.cast_ofNat_Int, Int.reduceToNat, Bool.true_xor, Bool.false_xor, Bool.xor_true, Bool.xor_false, Nat.reduceAdd, Nat.reduceBEq, Nat.reduceLeDiff, Nat.reduceLT, Nat.reduceMul, Nat.reduceSub, Int.reduceEq, Int.reduceLT, Int.reduceLE, Int.reduceNeg]; rfl) trivial ?_
          intro q hq _
          rcases Nat.lt_or_ge q L.length with hlt | hge
          · obtain ⟨x, hx⟩ := getS hlt
            have hw := w64_suc hlt hL
            have hck : ckE s L q y.n = 0 := by
              simp only [ckE, h0, cond_true, decide_eq_false (show ¬ ((q : Int) < 0) by omega), decide_eq_false (show ¬ ((L.length : Int) ≤ (q : Int)) by omega), decide_eq_false k1'.1, decide_eq_false k1'.2]
              rfl
            have h17 := fun H => s17 22 H s L false q y.n hL
            have hrc : rcV s L q y.n = .tup [.bool (recB s L q x y.n), .int .i64 0] := by simp only [rcV, hck, decide_true, cond_true, Int.toNat_natCast, hx]
            rw [hrc] at h17
            have no : cand s L y q x = false → heF s L y (q + 1) = heF s L y q := fun h => by
              have : (heC L y (heF s L y q) x && recB s L q x y.n) = false := by
                rw [Bool.eq_false_iff]; intro h2
                simp only [heC, not_lt_dec, Bool.and_eq_true] at h2
                simp only [cand, h2.2, h2.1.1.1.1, h2.1.1.1.2, h2.1.1.2, Bool.and_self] at h
                cases h
              simp only [heF, hx, this, cond_false]
            simp only [go_sem, Int.cast_ofNat_Int, Int.reduceToNat, Bool.true_xor, Bool.false_xor, Bool.xor_true, Bool.xor_false, Nat.reduceAdd, Nat.reduceBEq, Nat.reduceLeDiff, Nat.reduceLT, Nat.reduceMul, Nat.reduceSub, Int.reduceEq, Int.reduceLT, Int.reduceLE, Int.reduceNeg, hlt, hx, h12, h17]
            cases j0 : recB s L q x y.n with
            | false =>
              have e1 := no (by simp only [cand, j0, Bool.false_and])
              simp only [go_sem, Int.cast_ofNat_Int, Int.reduceToNat, Bool.true_xor, Bool.false_xor, Bool.xor_true, Bool.xor_false, Nat.reduceAdd, Nat.reduceBEq, Nat.reduceLeDiff, Nat.reduceLT, Nat.reduceMul, Nat.reduceSub, Int.reduceEq, Int.reduceLT, Int.reduceLE, Int.reduceNeg, hlt, hw, e1]
              exact ⟨trivial, by first | trivial | rfl, trivial⟩
            | true =>
            cases j1 : decide (x.c = y.c) with
            | false =>
              have e1 := no (by simp only [cand, j1, Bool.false_and, Bool.and_false])
              simp only [go_sem, Int.cast_ofNat_Int, Int.reduceToNat, Bool.true_xor, Bool.false_xor, Bool.xor_true, Bool.xor_false, Nat.reduceAdd, Nat.reduceBEq, Nat.reduceLeDiff, Nat.reduceLT, Nat.reduceMul, Nat.reduceSub, Int.reduceEq, Int.reduceLT, Int.reduceLE, Int.reduceNeg, hlt, j1, hw, e1]
              exact ⟨trivial, by first | trivial | rfl, trivial⟩
            | true =>
            cases j2 : decide (y.x ≤ x.x) with
            | false =>
              have e1 := no (by simp only [cand, j2, Bool.false_and, Bool.and_false])
              simp only [go_sem, Int.cast_ofNat_Int, Int.reduceToNat, Bool.true_xor, Bool.false_xor, Bool.xor_true, Bool.xor_false, Nat.reduceAdd, Nat.reduceBEq, Nat.reduceLeDiff, Nat.reduceLT, Nat.reduceMul, Nat.reduceSub, Int.reduceEq, Int.reduceLT, Int.reduceLE, Int.reduceNeg, hlt, j1, j2, hw, e1]
              exact ⟨trivial, by first | trivial | rfl, trivial⟩
            | true =>
            cases j3 : decide (x.x ≤ y.y) with
            | false =>
              have e1 := no (by simp only [cand, j3, Bool.false_and, Bool.and_false])
              simp only [go_sem, Int.cast_ofNat_Int, Int.reduceToNat, Bool.true_xor, Bool.false_xor, Bool.xor_true, Bool.xor_false, Nat.reduceAdd, Nat.reduceBEq, Nat.reduceLeDiff, Nat.reduceLT, Nat.reduceMul, Nat.reduceSub, Int.reduceEq, Int.reduceLT, Int.reduceLE, Int.reduceNeg, hlt, j1, j2, j3, hw, e1]
              exact ⟨trivial, by first | trivial | rfl, trivial⟩
            | true =>
              cases ho : heF s L y q with
              | none =>
                have e1 : heF s L y (q + 1) = some q := by
                  simp only [heF, hx, ho, heC, not_lt_dec, j0, j1, j2, j3, Bool.not_false, Bool.and_self, cond_true]
                simp only [go_sem, Int.cast_ofNat_Int, Int.reduceToNat, Bool.true_xor, Bool.false_xor, Bool.xor_true, Bool.xor_false, Nat.reduceAdd, Nat.reduceBEq, Nat.reduceLeDiff, Nat.reduceLT, Nat.reduceMul, Nat.reduceSub, Int.reduceEq, Int.reduceLT, Int.reduceLE, Int.reduceNeg, hlt, j1, j2, j3, ho, fiI, hw, e1]
                exact ⟨trivial, by first | trivial | rfl, trivial⟩
              | some b =>
                have hbl := (heF_lt s L y q b ho).2
                obtain ⟨z, hz⟩ := getS hbl
                have hbn : decide ((b : Int) < 0) = false := decide_eq_false (by omega)
                cases j4 : decide (x.x < z.x) with
                | true =>
                  have j5 : decide (z.x ≤ x.x) = false := decide_eq_false (by have := of_decide_eq_true j4; omega)
                  have e1 : heF s L y (q + 1) = some q := by
                    simp only [heF, hx, ho, heC, hz, not_lt_dec, j0, j1, j2, j3, j5, Bool.not_false, Bool.and_self, cond_true]
                  simp only [go_sem, Int.cast_ofNat_Int, Int.reduceToNat, Bool.true_xor, Bool.false_xor, Bool.xor_true, Bool.xor_false, Nat.reduceAdd, Nat.reduceBEq, Nat.reduceLeDiff, Nat.reduceLT, Nat.reduceMul, Nat.reduceSub, Int.reduceEq, Int.reduceLT, Int.reduceLE, Int.reduceNeg, hlt, j1, j2, j3, ho, fiI, hbn, hbl, hz, j4, hw, e1]
                  exact ⟨trivial, by first | trivial | rfl, trivial⟩
                | false =>
                  have j5 : decide (z.x ≤ x.x) = true := decide_eq_true (by have := of_decide_eq_false j4; omega)
                  have e1 : heF s L y (q + 1) = some b := by
                    simp only [heF, hx, ho, heC, hz, not_lt_dec, j0, j1, j2, j3, j5, Bool.not_true, Bool.and_false, Bool.false_and, cond_false]
                  simp only [go_sem, Int.cast_ofNat_Int, Int.reduceToNat, Bool.true_xor, Bool.false_xor, Bool.xor_true, Bool.xor_false, Nat.reduceAdd, Nat.reduceBEq, Nat.reduceLeDiff, Nat.reduceLT, Nat.reduceMul, Nat.reduceSub, Int.reduceEq, Int.reduceLT, Int.reduceLE, Int.reduceNeg, hlt, j1, j2, j3, ho, fiI, hbn, hbl, hz, j4, hw, e1]
                  exact ⟨trivial, by first | trivial | rfl, trivial⟩
          · obtain rfl : q = L.length := by omega
            have w1 : w64 (wd : Int) = wd := w64_id (by omega) (by omega)
            have w2 : w64 (y.x - wd) = y.x - wd := w64_id (by omega) (by omega)
            have w3 : w64 (y.y + wd) = y.y + wd := w64_id (by omega) (by omega)
            have h16z := fun H => s16' 22 H s L false y.n y.c (max (y.x - wd) 0) (min (y.y + wd) 1099511627776) hL
            have k3 : liB ⟨y.n, y.c, max (y.x - wd) 0, min (y.y + wd) 1099511627776⟩ = false := by
              simp only [liB, Bool.or_eq_false_iff, decide_eq_false_iff_not]; omega
            simp only [hrV, h0, k1, k3, cond_true, cond_false] at h16z
            cases ho : heF s L y L.length with
            | none =>
              simp only [go_sem, Int.cast_ofNat_Int, Int.reduceToNat, Bool.true_xor, Bool.false_xor, Bool.xor_true, Bool.xor_false, Nat.reduceAdd, Nat.reduceBEq, Nat.reduceLeDiff, Nat.reduceLT, Nat.reduceMul, Nat.reduceSub, Int.reduceEq, Int.reduceLT, Int.reduceLE, Int.reduceNeg, show decide ((L.length : Int) < (L.length : Int)) = false from decide_eq_false (by omega), ho, obI, fiI, Option.isSome_none, w1, w2, w3, h12, h16z]
            | some i =>
              obtain ⟨k, a, b, q1, q2, q3, q4⟩ := he_wider (s := s) (L := L) (y := y) (y' := ⟨y.n, y.c, max (y.x - wd) 0, min (y.y + wd) 1099511627776⟩) rfl rfl (by simp only; omega) (by simp only; omega) ho
              rw [q1] at h16z
              have hi := (List.getElem?_eq_some_iff.1 q3).1
              have hk := (List.getElem?_eq_some_iff.1 q2).1
              have q4' : decide (a.x ≤ b.x) = true := decide_eq_true q4
              have hin : decide ((0 : Int) ≤ (i : Int)) = true := decide_eq_true (by omega)
              simp only [go_sem, Int.cast_ofNat_Int, Int.reduceToNat, Bool.true_xor, Bool.false_xor, Bool.xor_true, Bool.xor_false, Nat.reduceAdd, Nat.reduceBEq, Nat.reduceLeDiff, Nat.reduceLT, Nat.reduceMul, Nat.reduceSub, Int.reduceEq, Int.reduceLT, Int.reduceLE, Int.reduceNeg, show decide ((L.length : Int) < (L.length : Int)) = false from decide_eq_false (by omega), ho, obI, fiI, Option.isSome_some, w1, w2, w3, h12, h16z, hi, hk, q2, q3, q4', hin]
end Go.Sh
namespace Go.Sh
set_option linter.unusedSectionVars false
set_option linter.unnecessarySimpa false
set_option linter.unusedVariables false
set_option linter.unusedSimpArgs false
set_option maxRecDepth 100000
set_option maxHeartbeats 4000000
theorem sn_of {x : SV} (h : FitsA scD x) : ∃ s L f, x = .agg (snA s L f) ∧ L.length ≤ maxLen := by
  obtain ⟨cs, rfl, k⟩ := fitsA_agg h
  obtain ⟨L1, f1, _, rfl, m1, a1, k⟩ := fitsL_l k
  obtain ⟨L2, f2, _, rfl, m2, a2, k⟩ := fitsL_l k
  obtain ⟨L3, f3, _, rfl, m3, a3, k⟩ := fitsL_l k
  obtain ⟨ex, _, rfl, _, k⟩ := fitsL_i k
  obtain ⟨no, _, rfl, _, k⟩ := fitsL_i k
  obtain ⟨th, _, rfl, _, k⟩ := fitsL_i k
  obtain ⟨L4, f4, _, rfl, m4, a4, k⟩ := fitsL_l k
  obtain ⟨L5, f5, _, rfl, m5, a5, k⟩ := fitsL_l k
  obtain ⟨L6, f6, _, rfl, m6, a6, k⟩ := fitsL_l k
  cases fitsL_nil' k
  obtain ⟨N, rfl⟩ := pts_of a1
  obtain ⟨P, rfl⟩ := intsG_of a2
  obtain ⟨W, rfl⟩ := wls_of a3
  obtain ⟨S, rfl, hS⟩ := srs_of a4
  obtain ⟨F, rfl⟩ := fds_of a5
  obtain ⟨L, rfl⟩ := ems_of a6
  exact ⟨⟨N, P, W, f1, f2, f3, ex, no, th, S, f4, F, f5, by simpa [G.ptsS] using m1, by simpa [G.intsS] using m2, by simpa [G.wlsS] using m3, ⟨by simpa [U.srsS] using m4, hS⟩, by simpa [U.fdsS] using m5⟩, L, f6, rfl, by simpa [emsS] using m6⟩
theorem law4 (xs : List SV) (h : FitsAll [scD, emD, (false, [.int .u16])] xs) : ∃ m, call1 T m (.fn 4) xs heap0 = some (.bool true, heap0) := by
  obtain ⟨x1, r1, rfl, h1, h⟩ := fitsAll_cons h
  obtain ⟨x2, r2, rfl, h2, h⟩ := fitsAll_cons h
  obtain ⟨x3, r3, rfl, h3, h⟩ := fitsAll_cons h
  cases fitsAll_nil h
  obtain ⟨s, L, f, rfl, hL⟩ := sn_of h1
  obtain ⟨y, rfl⟩ := em_of h2
  obtain ⟨x, rfl, w⟩ := fits_int (fitsA_one h3)
  simp only [Lit.wf, Bool.and_eq_true, decide_eq_true_eq] at w
  have w1 : IntKind.u16.min = 0 := rfl
  have w2 : IntKind.u16.max = 65535 := rfl
  obtain ⟨wd, rfl⟩ : ∃ wd : Nat, x = wd := ⟨x.toNat, by omega⟩
  exact ⟨41, s4 s L f y wd (by omega) hL⟩
end Go.Sh
