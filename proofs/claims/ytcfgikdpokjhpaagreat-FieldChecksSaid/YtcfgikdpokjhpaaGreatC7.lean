

import Derived.Test.YtcfgikdpokjhpaaGreatC6
import Derived.Test.YtcfgikdpokjhpaaGreatC4
namespace Go.Sh
set_option linter.unusedSectionVars false
set_option linter.unnecessarySimpa false
set_option linter.unusedVariables false
set_option linter.unusedSimpArgs false
set_option maxRecDepth 100000
set_option maxHeartbeats 4000000
theorem s10 (H : Heap) : call1 T 60 (.fn 10) [] H = some (.bool true, H) := by
  have h1 := s11x1
  have h2 := s11x2
  have h3 := s37x1
  have h4 := s37x2
  simp only [exF, exA, exR1, exR2, List.cons_append, List.nil_append] at h1 h2 h3 h4
  refine call_pure e10 (by rfl) ?_
  simp only [c10, heap0, go_sem, Int.reduceToNat, Nat.reduceAdd, Nat.reduceBEq, Nat.reduceLeDiff, Nat.reduceLT, Nat.reduceMul, Nat.reduceSub, Int.reduceEq, Int.reduceLT, Int.reduceLE, Int.reduceNeg, h1, h2, h3, h4]
end Go.Sh
namespace Go.Sh
set_option linter.unusedSectionVars false
set_option linter.unnecessarySimpa false
set_option linter.unusedVariables false
set_option linter.unusedSimpArgs false
set_option maxRecDepth 100000
set_option maxHeartbeats 4000000
theorem fitsL_s {es : List DT} {cs : List SV} (h : FitsL (.str :: es) cs) : ∃ b r, cs = .str b :: r ∧ b.size ≤ maxLen ∧ FitsL es r := by
  obtain ⟨c, r, rfl, h1, h2⟩ := fitsL_cons h
  obtain ⟨b, rfl, hb⟩ := fits_str h1
  exact ⟨b, r, rfl, hb, h2⟩
abbrev scC (f : Fi) (s : Int) (A : List Ac) (fl : Bool) : List SV := [.lst 2 (G.ptsS f.N) f.f1, .lst 1 (G.intsS f.P) f.f2, .lst 5 (G.wlsS f.W) f.f3, .int .i64 f.ex, .int .i64 f.no, .int .i64 f.th,
  .lst 7 (U.srsS f.S) f.g1, .lst 6 (U.fdsS f.F) f.g2, .lst 2 (G.ptsS f.K) f.h1, .int .i64 f.v, .int .i64 f.a, .int .i64 f.b, .lst 1 (iS f.C) f.h2, .int .i64 s, .lst 14 (acS A) fl]
abbrev acT : List DT := [.int .i64, .int .i64, .int .i64, .int .i64, .int .i64, .int .i64, .int .i64, .int .i64, .int .i64, .int .i64, .int .i64, .int .i64, .int .i64, .str]
abbrev scT : List DT := [.lst [.int .i64, .int .i64], .lst [.int .i64], .lst [.int .i64, .int .i64, .int .i64, .int .i64, .int .i64], .int .i64, .int .i64, .int .i64,
  .lst [.int .i64, .int .i64, .int .i64, .lst [.int .i64], .int .i64, .int .i64, .int .i64], .lst [.int .i64, .int .i64, .int .i64, .int .i64, .int .i64, .int .i64],
  .lst [.int .i64, .int .i64], .int .i64, .int .i64, .int .i64, .lst [.int .i64], .int .i64, .lst acT]
abbrev scD : Bool × List DT := (true, scT)
theorem pts_of : ∀ {L : List (List SV)}, (∀ q ∈ L, FitsL [.int .i64, .int .i64] q) → ∃ N, L = G.ptsS N
  | [], _ => ⟨[], rfl⟩
  | r :: L, h => by
    obtain ⟨N, rfl⟩ := pts_of (L := L) (fun q hq => h q (by simp [hq]))
    have h0 := h r (by simp)
    obtain ⟨a, _, rfl, _, h0⟩ := fitsL_i h0
    obtain ⟨b, _, rfl, _, h0⟩ := fitsL_i h0
    cases fitsL_nil' h0
    exact ⟨(a, b) :: N, rfl⟩
theorem intsG_of : ∀ {L : List (List SV)}, (∀ q ∈ L, FitsL [.int .i64] q) → ∃ N, L = G.intsS N
  | [], _ => ⟨[], rfl⟩
  | r :: L, h => by
    obtain ⟨N, rfl⟩ := intsG_of (L := L) (fun q hq => h q (by simp [hq]))
    have h0 := h r (by simp)
    obtain ⟨a, _, rfl, _, h0⟩ := fitsL_i h0
    cases fitsL_nil' h0
    exact ⟨a :: N, rfl⟩
theorem ints_of : ∀ {L : List (List SV)}, (∀ q ∈ L, FitsL [.int .i64] q) → ∃ N, L = iS N
  | [], _ => ⟨[], rfl⟩
  | r :: L, h => by
    obtain ⟨N, rfl⟩ := ints_of (L := L) (fun q hq => h q (by simp [hq]))
    have h0 := h r (by simp)
    obtain ⟨a, _, rfl, _, h0⟩ := fitsL_i h0
    cases fitsL_nil' h0
    exact ⟨a :: N, rfl⟩
theorem wls_of : ∀ {L : List (List SV)}, (∀ q ∈ L, FitsL [.int .i64, .int .i64, .int .i64, .int .i64, .int .i64] q) → ∃ N, L = G.wlsS N
  | [], _ => ⟨[], rfl⟩
  | r :: L, h => by
    obtain ⟨N, rfl⟩ := wls_of (L := L) (fun q hq => h q (by simp [hq]))
    have h0 := h r (by simp)
    obtain ⟨a, _, rfl, _, h0⟩ := fitsL_i h0
    obtain ⟨b, _, rfl, _, h0⟩ := fitsL_i h0
    obtain ⟨c, _, rfl, _, h0⟩ := fitsL_i h0
    obtain ⟨d, _, rfl, _, h0⟩ := fitsL_i h0
    obtain ⟨f, _, rfl, _, h0⟩ := fitsL_i h0
    cases fitsL_nil' h0
    exact ⟨⟨a, b, c, d, f⟩ :: N, rfl⟩
theorem srs_of : ∀ {L : List (List SV)}, (∀ q ∈ L, FitsL [.int .i64, .int .i64, .int .i64, .lst [.int .i64], .int .i64, .int .i64, .int .i64] q) → ∃ S, L = U.srsS S ∧ ∀ s ∈ S, s.C.length ≤ maxLen
  | [], _ => ⟨[], rfl, fun s h => by cases h⟩
  | r :: L, h => by
    obtain ⟨N, rfl, hN⟩ := srs_of (L := L) (fun q hq => h q (by simp [hq]))
    have k := h r (by simp)
    obtain ⟨a, _, rfl, _, k⟩ := fitsL_i k
    obtain ⟨b, _, rfl, _, k⟩ := fitsL_i k
    obtain ⟨p, _, rfl, _, k⟩ := fitsL_i k
    obtain ⟨L1, f1, _, rfl, m1, a1, k⟩ := fitsL_l k
    obtain ⟨per, _, rfl, _, k⟩ := fitsL_i k
    obtain ⟨fr, _, rfl, _, k⟩ := fitsL_i k
    obtain ⟨to, _, rfl, _, k⟩ := fitsL_i k
    cases fitsL_nil' k
    obtain ⟨C, rfl⟩ := ints_of a1
    exact ⟨⟨a, b, p, C, f1, per, fr, to⟩ :: N, rfl, fun t ht => by
      rcases List.mem_cons.1 ht with rfl | ht
      · simpa [iS] using m1
      · exact hN t ht⟩
theorem fds_of : ∀ {L : List (List SV)}, (∀ q ∈ L, FitsL [.int .i64, .int .i64, .int .i64, .int .i64, .int .i64, .int .i64] q) → ∃ S, L = U.fdsS S
  | [], _ => ⟨[], rfl⟩
  | r :: L, h => by
    obtain ⟨N, rfl⟩ := fds_of (L := L) (fun q hq => h q (by simp [hq]))
    have k := h r (by simp)
    obtain ⟨a, _, rfl, _, k⟩ := fitsL_i k
    obtain ⟨b, _, rfl, _, k⟩ := fitsL_i k
    obtain ⟨c, _, rfl, _, k⟩ := fitsL_i k
    obtain ⟨x, _, rfl, _, k⟩ := fitsL_i k
    obtain ⟨y, _, rfl, _, k⟩ := fitsL_i k
    obtain ⟨f, _, rfl, _, k⟩ := fitsL_i k
    cases fitsL_nil' k
    exact ⟨⟨a, b, c, x, y, f⟩ :: N, rfl⟩
theorem acs_of : ∀ {L : List (List SV)}, (∀ q ∈ L, FitsL acT q) → ∃ A, L = acS A
  | [], _ => ⟨[], rfl⟩
  | r :: L, h => by
    obtain ⟨N, rfl⟩ := acs_of (L := L) (fun q hq => h q (by simp [hq]))
    have k := h r (by simp)
    obtain ⟨a1, _, rfl, _, k⟩ := fitsL_i k
    obtain ⟨a2, _, rfl, _, k⟩ := fitsL_i k
    obtain ⟨a3, _, rfl, _, k⟩ := fitsL_i k
    obtain ⟨a4, _, rfl, _, k⟩ := fitsL_i k
    obtain ⟨a5, _, rfl, _, k⟩ := fitsL_i k
    obtain ⟨a6, _, rfl, _, k⟩ := fitsL_i k
    obtain ⟨a7, _, rfl, _, k⟩ := fitsL_i k
    obtain ⟨a8, _, rfl, _, k⟩ := fitsL_i k
    obtain ⟨a9, _, rfl, _, k⟩ := fitsL_i k
    obtain ⟨a10, _, rfl, _, k⟩ := fitsL_i k
    obtain ⟨a11, _, rfl, _, k⟩ := fitsL_i k
    obtain ⟨a12, _, rfl, _, k⟩ := fitsL_i k
    obtain ⟨a13, _, rfl, _, k⟩ := fitsL_i k
    obtain ⟨x, _, rfl, _, k⟩ := fitsL_s k
    cases fitsL_nil' k
    exact ⟨⟨a1, a2, a3, a4, a5, a6, a7, a8, a9, a10, a11, a12, a13, x⟩ :: N, rfl⟩
theorem sc_of {x : SV} (h : FitsA scD x) : ∃ f s A fl, x = .agg (scC f s A fl) ∧ f.S.length ≤ maxLen ∧ A.length ≤ maxLen ∧ (f.C.length ≤ 1000 → Bd f) := by
  obtain ⟨cs, rfl, k⟩ := fitsA_agg h
  obtain ⟨L1, f1, _, rfl, m1, a1, k⟩ := fitsL_l k
  obtain ⟨L2, f2, _, rfl, m2, a2, k⟩ := fitsL_l k
  obtain ⟨L3, f3, _, rfl, m3, a3, k⟩ := fitsL_l k
  obtain ⟨ex, _, rfl, _, k⟩ := fitsL_i k
  obtain ⟨no, _, rfl, _, k⟩ := fitsL_i k
  obtain ⟨th, _, rfl, _, k⟩ := fitsL_i k
  obtain ⟨L4, g1, _, rfl, m4, a4, k⟩ := fitsL_l k
  obtain ⟨L5, g2, _, rfl, m5, a5, k⟩ := fitsL_l k
  obtain ⟨L6, h1, _, rfl, m6, a6, k⟩ := fitsL_l k
  obtain ⟨v, _, rfl, _, k⟩ := fitsL_i k
  obtain ⟨a, _, rfl, _, k⟩ := fitsL_i k
  obtain ⟨b, _, rfl, _, k⟩ := fitsL_i k
  obtain ⟨L7, h2, _, rfl, m7, a7, k⟩ := fitsL_l k
  obtain ⟨s, _, rfl, _, k⟩ := fitsL_i k
  obtain ⟨L8, fl, _, rfl, m8, a8, k⟩ := fitsL_l k
  cases fitsL_nil' k
  obtain ⟨N, rfl⟩ := pts_of a1
  obtain ⟨P, rfl⟩ := intsG_of a2
  obtain ⟨W, rfl⟩ := wls_of a3
  obtain ⟨S, rfl, hS⟩ := srs_of a4
  obtain ⟨F, rfl⟩ := fds_of a5
  obtain ⟨K, rfl⟩ := pts_of a6
  obtain ⟨C, rfl⟩ := ints_of a7
  obtain ⟨A, rfl⟩ := acs_of a8
  have m4' : S.length ≤ maxLen := by simpa [U.srsS] using m4
  exact ⟨⟨N, P, W, f1, f2, f3, ex, no, th, S, g1, F, g2, K, h1, v, a, b, C, h2⟩, s, A, fl, rfl, m4', by simpa [acS] using m8, fun hc => ⟨by simpa [G.ptsS] using m1, by simpa [G.intsS] using m2, by simpa [G.wlsS] using m3, ⟨m4', hS⟩, by simpa [U.fdsS] using m5, by simpa [G.ptsS] using m6, hc⟩⟩
theorem s12 (n : Nat) (H : Heap) (f : Fi) (s : Int) (A : List Ac) (fl : Bool) (hS : f.S.length ≤ maxLen) (hA : A.length ≤ maxLen) : call1 T (n + 4) (.fn 12) [.agg (scC f s A fl)] H = some (.bool (fewF f && fewA A), H) := by
  have h1 := fun H => s48 n H f hS
  have h2 := fun H => s49 (n + 2) H A fl hA
  refine call_pure e12 (by rfl) ?_
  cases a1 : fewF f <;> rw [a1] at h1 <;> simp only [c12, heap0, go_sem, Int.reduceToNat, Nat.reduceAdd, Nat.reduceBEq, Nat.reduceLeDiff, Nat.reduceLT, Nat.reduceMul, Nat.reduceSub, Int.reduceEq, Int.reduceLT, Int.reduceLE, Int.reduceNeg, h1, h2, Bool.true_and, Bool.false_and]
theorem few_of {f : Fi} {A : List Ac} (h : (fewF f && fewA A) = true) : f.C.length ≤ 20 ∧ A.length ≤ 40 ∧ ∀ a ∈ A, a.x.size ≤ 200 := by
  simp only [Bool.and_eq_true, fewF, fewA, decide_eq_true_eq] at h
  obtain ⟨⟨_, hC⟩, hA⟩ := h
  cases hx : (A.take 40).any (fun a => decide (200 < a.x.size)) with
  | true => rw [hx] at hA; cases hA
  | false =>
    rw [hx] at hA
    simp only [cond_false, decide_eq_true_eq] at hA
    refine ⟨hC, hA, fun a ha => ?_⟩
    rw [List.take_of_length_le hA, List.any_eq_false] at hx
    have := hx a ha
    simp only [decide_eq_true_eq] at this
    omega
theorem y36 : T 36 = some stdEq := e36
theorem s36r (n : Nat) (H : Heap) (f : Fi) (s : Int) (A : List Ac) (hA : A.length ≤ 1000) : call1 T (n + 1) (.fn 36) [rsL f s A, rsL f s A] H = some (.bool true, H) := by
  unfold rsL
  cases decide (stE f s A = 0) with
  | true =>
    have := stdEq_ok (T := T) (f := 36) (n := n) (H := H) (L := chsA f s A) (M := chsA f s A) y36 (.lst 1 false (.inl rfl)) (.lst 1 false (.inl rfl)) (Nat.le_trans (show (chsA f s A).length ≤ 1000 by simpa [chsA] using hA) (by decide))
    simpa using this
  | false =>
    have := stdEq_ok (T := T) (f := 36) (n := n) (H := H) (L := []) (M := []) y36 (.lst 0 true (.inr rfl)) (.lst 0 true (.inr rfl)) (by simp)
    exact this
theorem s9 (f : Fi) (s : Int) (A : List Ac) (fl : Bool) (x y : Int) (hS : f.S.length ≤ maxLen) (hA : A.length ≤ maxLen) (hb : f.C.length ≤ 1000 → Bd f) : call1 T 61 (.fn 9) [.agg (scC f s A fl), .int .i64 x, .int .i64 y] heap0 = some (.bool true, heap0) := by
  have h10 := s10
  have h12 := fun H => s12 56 H f s A fl hS hA
  refine call_pure e9 (by rfl) ?_
  cases hf : fewF f && fewA A with
  | false => rw [hf] at h12; simp only [c9, heap0, go_sem, Int.reduceToNat, Nat.reduceAdd, Nat.reduceBEq, Nat.reduceLeDiff, Nat.reduceLT, Nat.reduceMul, Nat.reduceSub, Int.reduceEq, Int.reduceLT, Int.reduceLE, Int.reduceNeg, h10, h12]
  | true =>
    obtain ⟨hC, hA4, hx⟩ := few_of hf
    have hb := hb (by omega)
    rw [hf] at h12
    have h20 := fun H => s20 49 H f s A fl hb (by omega) (fun a ha => Nat.le_trans (hx a ha) (by decide))
    have h33 := fun H => s33 52 H f s A fl hb (by omega)
    have h23 := fun H => s23 51 H f s x y hb
    have h34 := fun H => s34 52 H f s x y hb
    have h22 := fun H => s22 52 H f hb
    have h35 := fun H => s35 53 H f hb
    have h36 := fun H => s36r 59 H f s A (by omega)
    generalize rsL f s A = R at h20 h33 h36
    generalize stE f s A = E at h20 h33
    generalize cnB f s x y = B at h23 h34
    generalize cnE f s x y = D at h23 h34
    generalize chF f = G at h22 h35
    simp only [c9, heap0, go_sem, Int.reduceToNat, Nat.reduceAdd, Nat.reduceBEq, Nat.reduceLeDiff, Nat.reduceLT, Nat.reduceMul, Nat.reduceSub, Int.reduceEq, Int.reduceLT, Int.reduceLE, Int.reduceNeg, h10, h12, h20, h33, h23, h34, h22, h35, h36]
theorem law9 (xs : List SV) (h : FitsAll [scD, (false, [.int .i64]), (false, [.int .i64])] xs) : ∃ m, call1 T m (.fn 9) xs heap0 = some (.bool true, heap0) := by
  obtain ⟨x1, r1, rfl, h1, h⟩ := fitsAll_cons h
  obtain ⟨x2, r2, rfl, h2, h⟩ := fitsAll_cons h
  obtain ⟨x3, r3, rfl, h3, h⟩ := fitsAll_cons h
  cases fitsAll_nil h
  obtain ⟨f, s, A, fl, rfl, hS, hA, hb⟩ := sc_of h1
  obtain ⟨x, rfl, _⟩ := fits_int (fitsA_one h2)
  obtain ⟨y, rfl, _⟩ := fits_int (fitsA_one h3)
  exact ⟨61, s9 f s A fl x y hS hA hb⟩
end Go.Sh
