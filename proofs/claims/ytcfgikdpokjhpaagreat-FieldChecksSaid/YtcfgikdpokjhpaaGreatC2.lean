

import Derived.Test.YtcfgikdpokjhpaaGreatC1
namespace Go.Sh
set_option linter.unusedSectionVars false
set_option linter.unnecessarySimpa false
set_option linter.unusedVariables false
set_option linter.unusedSimpArgs false
set_option maxRecDepth 100000
set_option maxHeartbeats 4000000
namespace C11
theorem x36 : T 192 = some stdIdx := e192
theorem x13 : T 165 = some (stdCon 192) := e165
theorem lvI {bl : List SBlk} {C : List Int} {f : Bool} : LV bl 1 (iS C) (.lst 1 (iS C) f) := .lst 1 f (.inl rfl)
def chanB (c : Int) : Bool := decide (0 ≤ c) && decide (c < 16)
theorem s164 (n : Nat) (H : Heap) (c : Int) : call1 T (n + 1) (.fn 164) [.int .i64 c] H = some (.bool (chanB c), H) := by
  refine call_pure e164 (by rfl) ?_
  simp only [c164, heap0, go_sem, Int.reduceToNat, Nat.reduceAdd, Nat.reduceBEq, Nat.reduceLeDiff, Nat.reduceLT, Nat.reduceMul, Nat.reduceSub, Int.reduceEq, Int.reduceLT, Int.reduceLE, Int.reduceNeg]
  repeat' (with_reducible refine fork_split (fun _ => ?_) (fun _ => ?_) <;> simp only [*, go_sem, Int.reduceToNat, Nat.reduceAdd, Nat.reduceBEq, Nat.reduceLeDiff, Nat.reduceLT, Nat.reduceMul, Nat.reduceSub, Int.reduceEq, Int.reduceLT, Int.reduceLE, Int.reduceNeg])
  all_goals (simp only [chanB]; refine congrArg some (congrArg SV.bool ?_); rw [Bool.eq_iff_iff]; grind)
theorem s172 (n : Nat) (H : Heap) (c : Int) : call1 T (n + 1) (.fn 172) [.int .i64 c] H = some (.bool (chanB c), H) := by
  refine call_pure e172 (by rfl) ?_
  simp only [c172, heap0, go_sem, Int.reduceToNat, Nat.reduceAdd, Nat.reduceBEq, Nat.reduceLeDiff, Nat.reduceLT, Nat.reduceMul, Nat.reduceSub, Int.reduceEq, Int.reduceLT, Int.reduceLE, Int.reduceNeg]
  repeat' (with_reducible refine fork_split (fun _ => ?_) (fun _ => ?_) <;> simp only [*, go_sem, Int.reduceToNat, Nat.reduceAdd, Nat.reduceBEq, Nat.reduceLeDiff, Nat.reduceLT, Nat.reduceMul, Nat.reduceSub, Int.reduceEq, Int.reduceLT, Int.reduceLE, Int.reduceNeg])
  all_goals (simp only [chanB]; refine congrArg some (congrArg SV.bool ?_); rw [Bool.eq_iff_iff]; grind)
def badAt (C : List Int) (i : Nat) : Bool := match C[i]? with
  | some c => !chanB c || decide (c ∈ C.take i)
  | none => false
theorem badAt_some {C : List Int} {i : Nat} {c : Int} (h : C[i]? = some c) : badAt C i = (!chanB c || decide (c ∈ C.take i)) := by simp [badAt, h]
def difB (C : List Int) : Bool := !((List.range C.length).any (badAt C)) && decide (0 < C.length)
theorem difB_bad {C : List Int} {i : Nat} {c : Int} (h : C[i]? = some c) (hb : badAt C i = true) : difB C = false := by
  have : (List.range C.length).any (badAt C) = true := List.any_eq_true.2 ⟨i, List.mem_range.2 (List.getElem?_eq_some_iff.1 h).1, hb⟩
  simp [difB, this]
theorem difB_good {C : List Int} (h : ∀ j, j < C.length → badAt C j = false) : difB C = decide (0 < C.length) := by
  have : (List.range C.length).any (badAt C) = false := by
    rw [List.any_eq_false]
    intro j hj
    rw [h j (List.mem_range.1 hj)]; simp
  simp [difB, this]
theorem s121 (n : Nat) (H : Heap) (C : List Int) (f : Bool) (hC : C.length ≤ maxLen) : call1 T (n + 3) (.fn 121) [.lst 1 (iS C) f] H = some (.bool (difB C), H) := by
  refine call_pure e121 (by rfl) ?_
  simp only [c121, heap0, go_sem, Int.reduceToNat, Nat.reduceAdd, Nat.reduceBEq, Nat.reduceLeDiff, Nat.reduceLT, Nat.reduceMul, Nat.reduceSub, Int.reduceEq, Int.reduceLT, Int.reduceLE, Int.reduceNeg]
  refine loop_rule (fun i => ([(0, .lst 1 (iS C) f), (5, .lst 1 (iS C) f), (6, .int .i64 C.length), (7, .int .i64 i)], ⟨[], [], 0⟩)) (fun i => ∀ (j : Nat), j < i → badAt C j = false) C.length ?_ (fun j h => by omega) ?_
  · simp only [go_sem, Int.reduceToNat, Nat.reduceAdd, Nat.reduceBEq, Nat.reduceLeDiff, Nat.reduceLT, Nat.reduceMul, Nat.reduceSub, Int.reduceEq, Int.reduceLT, Int.reduceLE, Int.reduceNeg] <;> rfl
  · intro i hi hP
    rcases Nat.lt_or_ge i C.length with hlt | hge
    · obtain ⟨c, hc⟩ := getS hlt
      have hw := w64_suc hlt hC
      have hb := badAt_some hc
      have hle : decide ((i : Int) ≤ (C.length : Int)) = true := decide_eq_true (by omega)
      have h13 := fun H => stdCon_ok (n := n) (H := H) (v := .lst 1 (iS (C.take i)) (f && i == C.length)) (M := C.take i) (x := c) x13 x36 (lvI) (by simp; omega)
      cases hx : chanB c with
      | false =>
        simp only [go_sem, Int.reduceToNat, Nat.reduceAdd, Nat.reduceBEq, Nat.reduceLeDiff, Nat.reduceLT, Nat.reduceMul, Nat.reduceSub, Int.reduceEq, Int.reduceLT, Int.reduceLE, Int.reduceNeg, hlt, hc, s164, hx]
        rw [difB_bad hc (by rw [hb, hx]; rfl)]
      | true =>
        simp only [go_sem, Int.reduceToNat, Nat.reduceAdd, Nat.reduceBEq, Nat.reduceLeDiff, Nat.reduceLT, Nat.reduceMul, Nat.reduceSub, Int.reduceEq, Int.reduceLT, Int.reduceLE, Int.reduceNeg, hlt, hc, s164, hx, hle, iS_take, h13]
        cases hm : decide (c ∈ C.take i) with
        | true =>
          simp only [go_sem, Int.reduceToNat, Nat.reduceAdd, Nat.reduceBEq, Nat.reduceLeDiff, Nat.reduceLT, Nat.reduceMul, Nat.reduceSub, Int.reduceEq, Int.reduceLT, Int.reduceLE, Int.reduceNeg]
          rw [difB_bad hc (by rw [hb, hm]; simp)]
        | false =>
          simp only [go_sem, Int.reduceToNat, Nat.reduceAdd, Nat.reduceBEq, Nat.reduceLeDiff, Nat.reduceLT, Nat.reduceMul, Nat.reduceSub, Int.reduceEq, Int.reduceLT, Int.reduceLE, Int.reduceNeg, hw]
          refine ⟨by first | trivial | omega, by first | trivial | rfl, ?_⟩
          intro j hj
          rcases Nat.lt_or_ge j i with h3 | h3
          · exact hP j h3
          · have : j = i := by omega
            subst this
            rw [hb, hx, hm]; rfl
    · have hlt : ¬ i < C.length := by omega
      have hd := difB_good (C := C) (fun j hj => hP j (by omega))
      simp only [go_sem, Int.reduceToNat, Nat.reduceAdd, Nat.reduceBEq, Nat.reduceLeDiff, Nat.reduceLT, Nat.reduceMul, Nat.reduceSub, Int.reduceEq, Int.reduceLT, Int.reduceLE, Int.reduceNeg, hlt, hd]
      refine congrArg some (congrArg SV.bool ?_)
      rw [Bool.eq_iff_iff, decide_eq_true_eq, decide_eq_true_eq]; omega
theorem s173 (n : Nat) (H : Heap) (C : List Int) (f : Bool) (z : Nat) (c : Int) (hz : z = 1 ∨ C = []) (hC : C.length ≤ maxLen) : call1 T (n + 1) (.fn 173) [.lst z (iS C) f, .int .i64 c] H = some (.bool (decide (c ∈ C)), H) := by
  refine call_pure e173 (by rfl) ?_
  simp only [c173, heap0, go_sem, Int.reduceToNat, Nat.reduceAdd, Nat.reduceBEq, Nat.reduceLeDiff, Nat.reduceLT, Nat.reduceMul, Nat.reduceSub, Int.reduceEq, Int.reduceLT, Int.reduceLE, Int.reduceNeg]
  refine loop_rule (fun i => ([(0, .lst z (iS C) f), (1, .int .i64 c), (5, .int .i64 i)], ⟨[], [], 0⟩)) (fun i => ∀ (j : Nat) y, j < i → C[j]? = some y → y ≠ c) C.length ?_ (fun j y h => by omega) ?_
  · simp only [go_sem, Int.reduceToNat, Nat.reduceAdd, Nat.reduceBEq, Nat.reduceLeDiff, Nat.reduceLT, Nat.reduceMul, Nat.reduceSub, Int.reduceEq, Int.reduceLT, Int.reduceLE, Int.reduceNeg] <;> rfl
  · intro i hi hP
    rcases Nat.lt_or_ge i C.length with hlt | hge
    · obtain ⟨y, hy⟩ := getS hlt
      have hw := w64_suc hlt hC
      obtain rfl : z = 1 := hz.resolve_right (by rintro rfl; simp at hlt)
      simp only [go_sem, Int.reduceToNat, Nat.reduceAdd, Nat.reduceBEq, Nat.reduceLeDiff, Nat.reduceLT, Nat.reduceMul, Nat.reduceSub, Int.reduceEq, Int.reduceLT, Int.reduceLE, Int.reduceNeg, hlt, hy]
      cases hd : decide (y = c) with
      | true =>
        simp only [decide_eq_true_eq] at hd
        subst hd
        simp only [go_sem, Int.reduceToNat, Nat.reduceAdd, Nat.reduceBEq, Nat.reduceLeDiff, Nat.reduceLT, Nat.reduceMul, Nat.reduceSub, Int.reduceEq, Int.reduceLT, Int.reduceLE, Int.reduceNeg, List.mem_of_getElem? hy]
      | false =>
        simp only [decide_eq_false_iff_not] at hd
        simp only [go_sem, Int.reduceToNat, Nat.reduceAdd, Nat.reduceBEq, Nat.reduceLeDiff, Nat.reduceLT, Nat.reduceMul, Nat.reduceSub, Int.reduceEq, Int.reduceLT, Int.reduceLE, Int.reduceNeg, hw]
        refine ⟨by first | trivial | omega, by first | trivial | rfl, ?_⟩
        intro j y' hj hy'
        rcases Nat.lt_or_ge j i with h3 | h3
        · exact hP j y' h3 hy'
        · have : j = i := by omega
          subst this
          rw [hy] at hy'; cases hy'
          exact hd
    · have hlt : ¬ i < C.length := by omega
      have hn : ¬ c ∈ C := fun h => by
        obtain ⟨j, hj⟩ := List.mem_iff_getElem?.1 h
        exact hP j c (by have := (List.getElem?_eq_some_iff.1 hj).1; omega) hj rfl
      simp only [go_sem, Int.reduceToNat, Nat.reduceAdd, Nat.reduceBEq, Nat.reduceLeDiff, Nat.reduceLT, Nat.reduceMul, Nat.reduceSub, Int.reduceEq, Int.reduceLT, Int.reduceLE, Int.reduceNeg, hlt, hn]
theorem s127 (n : Nat) (H : Heap) (C : List Int) (f : Bool) (hC : C.length ≤ maxLen) : call1 T (n + 2) (.fn 127) [.lst 1 (iS C) f] H = some (.bool (difB C), H) := by
  refine call_pure e127 (by rfl) ?_
  simp only [c127, heap0, go_sem, Int.reduceToNat, Nat.reduceAdd, Nat.reduceBEq, Nat.reduceLeDiff, Nat.reduceLT, Nat.reduceMul, Nat.reduceSub, Int.reduceEq, Int.reduceLT, Int.reduceLE, Int.reduceNeg]
  refine loop_rule (fun i => ([(0, .lst 1 (iS C) f), (3, .int .i64 i)], ⟨[], [], 0⟩)) (fun i => ∀ (j : Nat), j < i → badAt C j = false) C.length ?_ (fun j h => by omega) ?_
  · simp only [go_sem, Int.reduceToNat, Nat.reduceAdd, Nat.reduceBEq, Nat.reduceLeDiff, Nat.reduceLT, Nat.reduceMul, Nat.reduceSub, Int.reduceEq, Int.reduceLT, Int.reduceLE, Int.reduceNeg] <;> rfl
  · intro i hi hP
    rcases Nat.lt_or_ge i C.length with hlt | hge
    · obtain ⟨c, hc⟩ := getS hlt
      have hw := w64_suc hlt hC
      have hb := badAt_some hc
      have hle : decide ((i : Int) ≤ (C.length : Int)) = true := decide_eq_true (by omega)
      have h45 := fun H => s173 n H (C.take i) (f && i == C.length) 1 c (.inl rfl) (by simp; omega)
      cases hx : chanB c with
      | false =>
        simp only [go_sem, Int.reduceToNat, Nat.reduceAdd, Nat.reduceBEq, Nat.reduceLeDiff, Nat.reduceLT, Nat.reduceMul, Nat.reduceSub, Int.reduceEq, Int.reduceLT, Int.reduceLE, Int.reduceNeg, hlt, hc, s172, hx]
        rw [difB_bad hc (by rw [hb, hx]; rfl)]
      | true =>
        simp only [go_sem, Int.reduceToNat, Nat.reduceAdd, Nat.reduceBEq, Nat.reduceLeDiff, Nat.reduceLT, Nat.reduceMul, Nat.reduceSub, Int.reduceEq, Int.reduceLT, Int.reduceLE, Int.reduceNeg, hlt, hc, s172, hx, hle, iS_take, h45]
        cases hm : decide (c ∈ C.take i) with
        | true =>
          simp only [go_sem, Int.reduceToNat, Nat.reduceAdd, Nat.reduceBEq, Nat.reduceLeDiff, Nat.reduceLT, Nat.reduceMul, Nat.reduceSub, Int.reduceEq, Int.reduceLT, Int.reduceLE, Int.reduceNeg]
          rw [difB_bad hc (by rw [hb, hm]; simp)]
        | false =>
          simp only [go_sem, Int.reduceToNat, Nat.reduceAdd, Nat.reduceBEq, Nat.reduceLeDiff, Nat.reduceLT, Nat.reduceMul, Nat.reduceSub, Int.reduceEq, Int.reduceLT, Int.reduceLE, Int.reduceNeg, hw]
          refine ⟨by first | trivial | omega, by first | trivial | rfl, ?_⟩
          intro j hj
          rcases Nat.lt_or_ge j i with h3 | h3
          · exact hP j h3
          · have : j = i := by omega
            subst this
            rw [hb, hx, hm]; rfl
    · have hlt : ¬ i < C.length := by omega
      have hd := difB_good (C := C) (fun j hj => hP j (by omega))
      simp only [go_sem, Int.reduceToNat, Nat.reduceAdd, Nat.reduceBEq, Nat.reduceLeDiff, Nat.reduceLT, Nat.reduceMul, Nat.reduceSub, Int.reduceEq, Int.reduceLT, Int.reduceLE, Int.reduceNeg, hlt, hd]
      refine congrArg some (congrArg SV.bool ?_)
      rw [Bool.eq_iff_iff, decide_eq_true_eq, decide_eq_true_eq]; omega
abbrev hl (v a b : Int) (z : Nat) (C : List Int) (f : Bool) : SV := .agg [.int .i64 v, .int .i64 a, .int .i64 b, .lst z (iS C) f]
def okH (v a b : Int) (C : List Int) : Bool := decide (0 ≤ v) && decide (v ≤ 255) && decide (0 ≤ a) && decide (a < b) && decide (b ≤ 109951163) && difB C
def ckH (v a b : Int) (C : List Int) : Int := bif okH v a b C then 0 else 1
theorem ckH_yes {v a b : Int} {C : List Int} (h : okH v a b C = true) : ckH v a b C = 0 := by simp [ckH, h]
theorem ckH_no {v a b : Int} {C : List Int} (h : okH v a b C = false) : ckH v a b C = 1 := by simp [ckH, h]
theorem s64 (n : Nat) (H : Heap) (v a b : Int) (C : List Int) (f : Bool) (hC : C.length ≤ maxLen) : call1 T (n + 4) (.fn 64) [hl v a b 1 C f] H = some (.int .i64 (ckH v a b C), H) := by
  refine call_pure e64 (by rfl) ?_
  have h37 := fun H => s121 n H C f hC
  simp only [c64, heap0, go_sem, Int.reduceToNat, Nat.reduceAdd, Nat.reduceBEq, Nat.reduceLeDiff, Nat.reduceLT, Nat.reduceMul, Nat.reduceSub, Int.reduceEq, Int.reduceLT, Int.reduceLE, Int.reduceNeg, h37]
  repeat' (with_reducible refine fork_split (fun _ => ?_) (fun _ => ?_) <;> simp only [*, go_sem, Int.reduceToNat, Nat.reduceAdd, Nat.reduceBEq, Nat.reduceLeDiff, Nat.reduceLT, Nat.reduceMul, Nat.reduceSub, Int.reduceEq, Int.reduceLT, Int.reduceLE, Int.reduceNeg, h37])
  all_goals
    clear h37
    refine congrArg some (congrArg (SV.int .i64) ?_)
    simp only [ckH]
    generalize hq : okH v a b C = q
    simp only [okH] at hq
    generalize difB C = D at *
    cases q <;> simp only [cond_true, cond_false] <;> grind
theorem s72 (n : Nat) (H : Heap) (v a b : Int) (C : List Int) (f : Bool) (hC : C.length ≤ maxLen) : call1 T (n + 3) (.fn 72) [hl v a b 1 C f] H = some (.int .i64 (ckH v a b C), H) := by
  refine call_pure e72 (by rfl) ?_
  have h43 := fun H => s127 n H C f hC
  simp only [c72, heap0, go_sem, Int.reduceToNat, Nat.reduceAdd, Nat.reduceBEq, Nat.reduceLeDiff, Nat.reduceLT, Nat.reduceMul, Nat.reduceSub, Int.reduceEq, Int.reduceLT, Int.reduceLE, Int.reduceNeg, h43]
  repeat' (with_reducible refine fork_split (fun _ => ?_) (fun _ => ?_) <;> simp only [*, go_sem, Int.reduceToNat, Nat.reduceAdd, Nat.reduceBEq, Nat.reduceLeDiff, Nat.reduceLT, Nat.reduceMul, Nat.reduceSub, Int.reduceEq, Int.reduceLT, Int.reduceLE, Int.reduceNeg, h43])
  all_goals
    clear h43
    refine congrArg some (congrArg (SV.int .i64) ?_)
    simp only [ckH]
    generalize hq : okH v a b C = q
    simp only [okH] at hq
    generalize difB C = D at *
    cases q <;> simp only [cond_true, cond_false] <;> grind
def chnA (C : List Int) (s o : Int) : Int := C.getD ((s + o) % (C.length : Int)).toNat 0
def chE (v a b : Int) (C : List Int) (s o : Int) : Int := bif okH v a b C then (bif decide (a ≤ s) && decide (s < b) then (bif decide (0 ≤ o) && decide (o < (C.length : Int)) then 0 else 2) else 12) else 1
def chV (v a b : Int) (C : List Int) (s o : Int) : Int := bif decide (chE v a b C s o = 0) then chnA C s o else 0
theorem okH_spec {v a b : Int} {C : List Int} (h : okH v a b C = true) : (0 ≤ v ∧ v ≤ 255) ∧ 0 ≤ a ∧ a < b ∧ b ≤ 109951163 ∧ difB C = true := by
  simp only [okH, Bool.and_eq_true, decide_eq_true_eq] at h
  exact ⟨⟨h.1.1.1.1.1, h.1.1.1.1.2⟩, h.1.1.1.2, h.1.1.2, h.1.2, h.2⟩
theorem difB_pos {C : List Int} (h : difB C = true) : 0 < C.length := by
  simp only [difB, Bool.and_eq_true, decide_eq_true_eq] at h
  exact h.2
theorem s29 (n : Nat) (H : Heap) (v a b : Int) (C : List Int) (f : Bool) (s o : Int) (hC : C.length ≤ 1000) : call1 T (n + 4) (.fn 29) [hl v a b 1 C f, .int .i64 s, .int .i64 o] H = some (.tup [.int .i64 (chV v a b C s o), .int .i64 (chE v a b C s o)], H) := by
  refine call_pure e29 (by rfl) ?_
  have h25 := fun H => s72 n H v a b C f (Nat.le_trans hC (by decide))
  cases hok : okH v a b C with
  | false =>
    rw [ckH_no hok] at h25
    simp only [c29, heap0, go_sem, Int.reduceToNat, Nat.reduceAdd, Nat.reduceBEq, Nat.reduceLeDiff, Nat.reduceLT, Nat.reduceMul, Nat.reduceSub, Int.reduceEq, Int.reduceLT, Int.reduceLE, Int.reduceNeg, h25, chV, chE, hok]
  | true =>
    rw [ckH_yes hok] at h25
    obtain ⟨hv, ha, hab, hb, hd⟩ := okH_spec hok
    have hpos := difB_pos hd
    simp only [c29, heap0, go_sem, Int.reduceToNat, Nat.reduceAdd, Nat.reduceBEq, Nat.reduceLeDiff, Nat.reduceLT, Nat.reduceMul, Nat.reduceSub, Int.reduceEq, Int.reduceLT, Int.reduceLE, Int.reduceNeg, h25, chV, chE, hok]
    by_cases h1 : s < a
    · have e1 : decide (s < a) = true := decide_eq_true h1
      have e2 : decide (a ≤ s) = false := decide_eq_false (by omega)
      simp only [e1, e2, go_sem, Int.reduceToNat, Nat.reduceAdd, Nat.reduceBEq, Nat.reduceLeDiff, Nat.reduceLT, Nat.reduceMul, Nat.reduceSub, Int.reduceEq, Int.reduceLT, Int.reduceLE, Int.reduceNeg]
    · have e1 : decide (s < a) = false := decide_eq_false h1
      have e2 : decide (a ≤ s) = true := decide_eq_true (by omega)
      by_cases h2 : b ≤ s
      · have e3 : decide (b ≤ s) = true := decide_eq_true h2
        have e4 : decide (s < b) = false := decide_eq_false (by omega)
        simp only [e1, e2, e3, e4, go_sem, Int.reduceToNat, Nat.reduceAdd, Nat.reduceBEq, Nat.reduceLeDiff, Nat.reduceLT, Nat.reduceMul, Nat.reduceSub, Int.reduceEq, Int.reduceLT, Int.reduceLE, Int.reduceNeg]
      · have e3 : decide (b ≤ s) = false := decide_eq_false h2
        have e4 : decide (s < b) = true := decide_eq_true (by omega)
        by_cases h3 : o < 0
        · have e5 : decide (o < 0) = true := decide_eq_true h3
          have e6 : decide (0 ≤ o) = false := decide_eq_false (by omega)
          simp only [e1, e2, e3, e4, e5, e6, go_sem, Int.reduceToNat, Nat.reduceAdd, Nat.reduceBEq, Nat.reduceLeDiff, Nat.reduceLT, Nat.reduceMul, Nat.reduceSub, Int.reduceEq, Int.reduceLT, Int.reduceLE, Int.reduceNeg]
        · have e5 : decide (o < 0) = false := decide_eq_false h3
          have e6 : decide (0 ≤ o) = true := decide_eq_true (by omega)
          by_cases h4 : (C.length : Int) ≤ o
          · have e7 : decide ((C.length : Int) ≤ o) = true := decide_eq_true h4
            have e8 : decide (o < (C.length : Int)) = false := decide_eq_false (by omega)
            simp only [e1, e2, e3, e4, e5, e6, e7, e8, go_sem, Int.reduceToNat, Nat.reduceAdd, Nat.reduceBEq, Nat.reduceLeDiff, Nat.reduceLT, Nat.reduceMul, Nat.reduceSub, Int.reduceEq, Int.reduceLT, Int.reduceLE, Int.reduceNeg]
          · have e7 : decide ((C.length : Int) ≤ o) = false := decide_eq_false h4
            have e8 : decide (o < (C.length : Int)) = true := decide_eq_true (by omega)
            have hw : w64 (s + o) = s + o := w64_id (by omega) (by omega)
            have hn0 : decide ((C.length : Int) = 0) = false := decide_eq_false (by omega)
            have htm : (s + o).tmod (C.length : Int) = (s + o) % (C.length : Int) := Int.tmod_eq_emod_of_nonneg (by omega)
            have hm0 : 0 ≤ (s + o) % (C.length : Int) := Int.emod_nonneg _ (by omega)
            have hm1 : (s + o) % (C.length : Int) < C.length := Int.emod_lt_of_pos _ (by omega)
            have e9 : decide (0 ≤ (s + o) % (C.length : Int)) = true := decide_eq_true hm0
            have eZq : decide ((s + o) % (C.length : Int) < C.length) = true := decide_eq_true hm1
            obtain ⟨c, hc⟩ := getS (l := C) (i := ((s + o) % (C.length : Int)).toNat) (by omega)
            simp only [e1, e2, e3, e4, e5, e6, e7, e8, hw, hn0, htm, e9, eZq, hc, go_sem, Int.reduceToNat, Nat.reduceAdd, Nat.reduceBEq, Nat.reduceLeDiff, Nat.reduceLT, Nat.reduceMul, Nat.reduceSub, Int.reduceEq, Int.reduceLT, Int.reduceLE, Int.reduceNeg, chnA, List.getD_eq_getElem?_getD, Option.getD_some]
theorem s154 (n : Nat) (bl es ro) (C : List Int) (f : Bool) (x : Int) : call1 T (n + 1) (.kfn 154) [.lst 1 (iS C) f, .int .i64 x] ⟨bl, es, ro⟩ =
    some (.fn 191 [.ptr bl.length 0 0 0, .ptr (bl.length + 1) 0 0 0], ⟨bl ++ [.box [.lst 1 (iS C) f], .box [.int .i64 x]], es, ro⟩) := by
  refine kcall_in e154 ?_
  simp only [c154, go_sem, Int.reduceToNat, Nat.reduceAdd, Nat.reduceBEq, Nat.reduceLeDiff, Nat.reduceLT, Nat.reduceMul, Nat.reduceSub, Int.reduceEq, Int.reduceLT, Int.reduceLE, Int.reduceNeg, List.append_assoc, List.length_append]
def rnd (C : List Int) (s : Int) (i : Nat) : Int := C.getD ((s + i) % (C.length : Int)).toNat 0
theorem s191 (n o : Nat) (q : LoopRec) (X0 : SBlk) (X1 X2 : Nat → SBlk) (C : List Int) (f : Bool) (s : Int) (hs : 0 ≤ s) (hs1 : s < C.length) (ho : o < C.length) (hC : C.length ≤ 1000)
    (hy : ∀ i, i < o → call1 T n (.yld 5) [.int .i64 (rnd C s i)] ⟨[X0, X1 i, X2 i, .box [.lst 1 (iS C) f], .box [.int .i64 s], .loop q .ready .normal], [], 0⟩ =
      some (.bool true, ⟨[X0, X1 (i + 1), X2 (i + 1), .box [.lst 1 (iS C) f], .box [.int .i64 s], .loop q .ready .normal], [], 0⟩))
    (Y1 Y2 : SBlk) (st : LoopState) (pe : SEx)
    (hyE : call1 T n (.yld 5) [.int .i64 (rnd C s o)] ⟨[X0, X1 o, X2 o, .box [.lst 1 (iS C) f], .box [.int .i64 s], .loop q .ready .normal], [], 0⟩ =
      some (.bool false, ⟨[X0, Y1, Y2, .box [.lst 1 (iS C) f], .box [.int .i64 s], .loop q st pe], [], 0⟩)) :
    call1 T (n + 1) (.fn 191) [.yld 5, .ptr 3 0 0 0, .ptr 4 0 0 0] ⟨[X0, X1 0, X2 0, .box [.lst 1 (iS C) f], .box [.int .i64 s], .loop q .ready .normal], [], 0⟩ =
      some (.tup [], ⟨[X0, Y1, Y2, .box [.lst 1 (iS C) f], .box [.int .i64 s], .loop q st pe], [], 0⟩) := by
  refine call_in e191 (by rfl) ?_
  simp only [c191, go_sem, Int.reduceToNat, Nat.reduceAdd, Nat.reduceBEq, Nat.reduceLeDiff, Nat.reduceLT, Nat.reduceMul, Nat.reduceSub, Int.reduceEq, Int.reduceLT, Int.reduceLE, Int.reduceNeg]
  refine loop_rule (fun i => ([(0, .yld 5), (1, .ptr 3 0 0 0), (2, .ptr 4 0 0 0), (6, .int .i64 C.length), (7, .int .i64 i)], ⟨[X0, X1 i, X2 i, .box [.lst 1 (iS C) f], .box [.int .i64 s], .loop q .ready .normal], [], 0⟩)) (fun _ => True) o ?_ trivial ?_
  · simp only [go_sem, Int.reduceToNat, Nat.reduceAdd, Nat.reduceBEq, Nat.reduceLeDiff, Nat.reduceLT, Nat.reduceMul, Nat.reduceSub, Int.reduceEq, Int.reduceLT, Int.reduceLE, Int.reduceNeg] <;> rfl
  · intro i hi _
    have hlt : i < C.length := by omega
    have hw : w64 (s + i) = s + i := w64_id (by omega) (by omega)
    have hw1 := w64_suc hlt (Nat.le_trans hC (by decide))
    have hn0 : decide ((C.length : Int) = 0) = false := decide_eq_false (by omega)
    have htm : (s + i).tmod (C.length : Int) = (s + i) % (C.length : Int) := Int.tmod_eq_emod_of_nonneg (by omega)
    have hm0 : 0 ≤ (s + i) % (C.length : Int) := Int.emod_nonneg _ (by omega)
    have hm1 : (s + i) % (C.length : Int) < C.length := Int.emod_lt_of_pos _ (by omega)
    have e9 : decide (0 ≤ (s + i) % (C.length : Int)) = true := decide_eq_true hm0
    have eZq : decide ((s + i) % (C.length : Int) < C.length) = true := decide_eq_true hm1
    have hc : C[((s + i) % (C.length : Int)).toNat]? = some (rnd C s i) := by
      rw [rnd, List.getD_eq_getElem?_getD, List.getElem?_eq_getElem (by omega)]; rfl
    rcases Nat.lt_or_ge i o with hio | hio
    · simp only [go_sem, Int.reduceToNat, Nat.reduceAdd, Nat.reduceBEq, Nat.reduceLeDiff, Nat.reduceLT, Nat.reduceMul, Nat.reduceSub, Int.reduceEq, Int.reduceLT, Int.reduceLE, Int.reduceNeg, hlt, hw, hn0, htm, e9, eZq, hc, hy i hio, hw1]
      refine ⟨by first | trivial | omega, by first | trivial | rfl, ?_⟩
      trivial
    · obtain rfl : i = o := by omega
      simp only [go_sem, Int.reduceToNat, Nat.reduceAdd, Nat.reduceBEq, Nat.reduceLeDiff, Nat.reduceLT, Nat.reduceMul, Nat.reduceSub, Int.reduceEq, Int.reduceLT, Int.reduceLE, Int.reduceNeg, hlt, hw, hn0, htm, e9, eZq, hc, hyE]
def outc (C : List Int) (s : Int) : Nat → Int
  | 0 => 0
  | i + 1 => rnd C s i
def offc (o : Nat) : Nat → Int
  | 0 => (o : Int)
  | i + 1 => (o : Int) - ((i + 1 : Nat) : Int)
theorem offc_eq (o i : Nat) : offc o i = (o : Int) - i := by
  cases i with
  | zero => simp [offc]
  | succ i => rfl
theorem onSome_of {A R : Type} {v : Option A} {f : A → Option R} {t : Tok f} {r : Option R} (o : A) (h : v = some o) (k : f o = r) : onSome v f t = r := by rw [h]; exact k
theorem s105 (n : Nat) (H : Heap) (v a b : Int) (C : List Int) (f : Bool) (s o : Int) (hC : C.length ≤ 1000) : call1 T (n + 5) (.fn 105) [hl v a b 1 C f, .int .i64 s, .int .i64 o] H = some (.tup [.int .i64 (chV v a b C s o), .int .i64 (chE v a b C s o)], H) := by
  refine call_pure e105 (by rfl) ?_
  have h24 := fun H => s64 n H v a b C f (Nat.le_trans hC (by decide))
  cases hok : okH v a b C with
  | false =>
    rw [ckH_no hok] at h24
    simp only [c105, heap0, go_sem, Int.reduceToNat, Nat.reduceAdd, Nat.reduceBEq, Nat.reduceLeDiff, Nat.reduceLT, Nat.reduceMul, Nat.reduceSub, Int.reduceEq, Int.reduceLT, Int.reduceLE, Int.reduceNeg, h24, chV, chE, hok]
  | true =>
    rw [ckH_yes hok] at h24
    obtain ⟨hv, ha, hab, hb, hd⟩ := okH_spec hok
    have hpos := difB_pos hd
    simp only [c105, heap0, go_sem, Int.reduceToNat, Nat.reduceAdd, Nat.reduceBEq, Nat.reduceLeDiff, Nat.reduceLT, Nat.reduceMul, Nat.reduceSub, Int.reduceEq, Int.reduceLT, Int.reduceLE, Int.reduceNeg, h24, chV, chE, hok]
    by_cases h1 : s < a
    · have e1 : decide (s < a) = true := decide_eq_true h1
      have e2 : decide (a ≤ s) = false := decide_eq_false (by omega)
      simp only [e1, e2, go_sem, Int.reduceToNat, Nat.reduceAdd, Nat.reduceBEq, Nat.reduceLeDiff, Nat.reduceLT, Nat.reduceMul, Nat.reduceSub, Int.reduceEq, Int.reduceLT, Int.reduceLE, Int.reduceNeg]
    · have e1 : decide (s < a) = false := decide_eq_false h1
      have e2 : decide (a ≤ s) = true := decide_eq_true (by omega)
      by_cases h2 : b ≤ s
      · have e3 : decide (b ≤ s) = true := decide_eq_true h2
        have e4 : decide (s < b) = false := decide_eq_false (by omega)
        simp only [e1, e2, e3, e4, go_sem, Int.reduceToNat, Nat.reduceAdd, Nat.reduceBEq, Nat.reduceLeDiff, Nat.reduceLT, Nat.reduceMul, Nat.reduceSub, Int.reduceEq, Int.reduceLT, Int.reduceLE, Int.reduceNeg]
      · have e3 : decide (b ≤ s) = false := decide_eq_false h2
        have e4 : decide (s < b) = true := decide_eq_true (by omega)
        by_cases h3 : o < 0
        · have e5 : decide (o < 0) = true := decide_eq_true h3
          have e6 : decide (0 ≤ o) = false := decide_eq_false (by omega)
          simp only [e1, e2, e3, e4, e5, e6, go_sem, Int.reduceToNat, Nat.reduceAdd, Nat.reduceBEq, Nat.reduceLeDiff, Nat.reduceLT, Nat.reduceMul, Nat.reduceSub, Int.reduceEq, Int.reduceLT, Int.reduceLE, Int.reduceNeg]
        · have e5 : decide (o < 0) = false := decide_eq_false h3
          have e6 : decide (0 ≤ o) = true := decide_eq_true (by omega)
          by_cases h4 : (C.length : Int) ≤ o
          · have e7 : decide ((C.length : Int) ≤ o) = true := decide_eq_true h4
            have e8 : decide (o < (C.length : Int)) = false := decide_eq_false (by omega)
            simp only [e1, e2, e3, e4, e5, e6, e7, e8, go_sem, Int.reduceToNat, Nat.reduceAdd, Nat.reduceBEq, Nat.reduceLeDiff, Nat.reduceLT, Nat.reduceMul, Nat.reduceSub, Int.reduceEq, Int.reduceLT, Int.reduceLE, Int.reduceNeg]
          · have e7 : decide ((C.length : Int) ≤ o) = false := decide_eq_false h4
            have e8 : decide (o < (C.length : Int)) = true := decide_eq_true (by omega)
            have hn0 : decide ((C.length : Int) = 0) = false := decide_eq_false (by omega)
            have htm : s.tmod (C.length : Int) = s % (C.length : Int) := Int.tmod_eq_emod_of_nonneg (by omega)
            obtain ⟨o', rfl⟩ := Int.eq_ofNat_of_zero_le (show 0 ≤ o by omega)
            have hm0 : 0 ≤ s % (C.length : Int) := Int.emod_nonneg _ (by omega)
            have hm1 : s % (C.length : Int) < C.length := Int.emod_lt_of_pos _ (by omega)
            simp only [e1, e2, e3, e4, e5, e6, e7, e8, hn0, htm, go_sem, Int.reduceToNat, Nat.reduceAdd, Nat.reduceBEq, Nat.reduceLeDiff, Nat.reduceLT, Nat.reduceMul, Nat.reduceSub, Int.reduceEq, Int.reduceLT, Int.reduceLE, Int.reduceNeg, s154]
            refine onSome_of _ (s191 (n + 3) o' _ _ (fun i => .box [.int .i64 (offc o' i)]) (fun i => .box [.int .i64 (outc C (s % (C.length : Int)) i)]) C f (s % (C.length : Int)) hm0 hm1 (by omega) hC ?_
              (.box [.int .i64 0]) (.box [.int .i64 (rnd C (s % (C.length : Int)) o')]) .done (.exit 1) ?_) ?_
            · intro i hi
              refine yld_in rfl rfl ?_
              have g1 : decide (offc o' i = 0) = false := decide_eq_false (by rw [offc_eq]; omega)
              have g2 : w64 (offc o' i - 1) = offc o' (i + 1) := by rw [offc_eq, offc_eq, w64_id (by omega) (by omega)]; omega
              simp only [go_sem, Int.reduceToNat, Nat.reduceAdd, Nat.reduceBEq, Nat.reduceLeDiff, Nat.reduceLT, Nat.reduceMul, Nat.reduceSub, Int.reduceEq, Int.reduceLT, Int.reduceLE, Int.reduceNeg, put1, g1, g2, outc]
            · refine yld_in rfl rfl ?_
              have g1 : decide (offc o' o' = 0) = true := decide_eq_true (by rw [offc_eq]; omega)
              have g0 : offc o' o' = 0 := by rw [offc_eq]; omega
              simp only [go_sem, Int.reduceToNat, Nat.reduceAdd, Nat.reduceBEq, Nat.reduceLeDiff, Nat.reduceLT, Nat.reduceMul, Nat.reduceSub, Int.reduceEq, Int.reduceLT, Int.reduceLE, Int.reduceNeg, put1, g1, g0]
            · have hfin : chnA C s o' = rnd C (s % (C.length : Int)) o' := by
                unfold chnA rnd
                rw [Int.emod_add_emod]
              simp only [go_sem, Int.reduceToNat, Nat.reduceAdd, Nat.reduceBEq, Nat.reduceLeDiff, Nat.reduceLT, Nat.reduceMul, Nat.reduceSub, Int.reduceEq, Int.reduceLT, Int.reduceLE, Int.reduceNeg, hfin]
end C11
end Go.Sh
namespace Go.Sh
set_option linter.unusedSectionVars false
set_option linter.unnecessarySimpa false
set_option linter.unusedVariables false
set_option linter.unusedSimpArgs false
set_option maxRecDepth 100000
set_option maxHeartbeats 4000000
namespace C13
abbrev fr (k s d q o c m e t u v : Int) (x : ByteArray) : List SV := [.int .i64 k, .int .i64 s, .int .i64 d, .int .i64 q, .int .i64 o, .int .i64 c, .int .i64 m, .int .i64 e, .int .i64 t, .int .i64 u, .int .i64 v, .str x]
def inB (x h : Int) : Bool := decide (0 ≤ x) && decide (x ≤ h)
def erB (x : Int) : Bool := decide (-32768 ≤ x) && decide (x ≤ 32767)
theorem s196 (n : Nat) (H : Heap) (x h : Int) : call1 T (n + 1) (.fn 196) [.int .i64 x, .int .i64 h] H = some (.bool (inB x h), H) := by
  refine call_pure e196 (by rfl) ?_
  simp only [c196, heap0, go_sem, Int.reduceToNat, Nat.reduceAdd, Nat.reduceBEq, Nat.reduceLeDiff, Nat.reduceLT, Nat.reduceMul, Nat.reduceSub, Int.reduceEq, Int.reduceLT, Int.reduceLE, Int.reduceNeg, inB]
  repeat' (with_reducible refine fork_split (fun _ => ?_) (fun _ => ?_) <;> simp only [*, go_sem, Int.reduceToNat, Nat.reduceAdd, Nat.reduceBEq, Nat.reduceLeDiff, Nat.reduceLT, Nat.reduceMul, Nat.reduceSub, Int.reduceEq, Int.reduceLT, Int.reduceLE, Int.reduceNeg, inB])
theorem s142 (n : Nat) (H : Heap) (x h : Int) : call1 T (n + 1) (.fn 142) [.int .i64 x, .int .i64 h] H = some (.bool (inB x h), H) := by
  refine call_pure e142 (by rfl) ?_
  simp only [c142, heap0, go_sem, Int.reduceToNat, Nat.reduceAdd, Nat.reduceBEq, Nat.reduceLeDiff, Nat.reduceLT, Nat.reduceMul, Nat.reduceSub, Int.reduceEq, Int.reduceLT, Int.reduceLE, Int.reduceNeg, inB]
  repeat' (with_reducible refine fork_split (fun _ => ?_) (fun _ => ?_) <;> simp only [*, go_sem, Int.reduceToNat, Nat.reduceAdd, Nat.reduceBEq, Nat.reduceLeDiff, Nat.reduceLT, Nat.reduceMul, Nat.reduceSub, Int.reduceEq, Int.reduceLT, Int.reduceLE, Int.reduceNeg, inB])
theorem s214 (n : Nat) (H : Heap) (x : Int) : call1 T (n + 1) (.fn 214) [.int .i64 x] H = some (.bool (erB x), H) := by
  refine call_pure e214 (by rfl) ?_
  simp only [c214, heap0, go_sem, Int.reduceToNat, Nat.reduceAdd, Nat.reduceBEq, Nat.reduceLeDiff, Nat.reduceLT, Nat.reduceMul, Nat.reduceSub, Int.reduceEq, Int.reduceLT, Int.reduceLE, Int.reduceNeg, erB]
  repeat' (with_reducible refine fork_split (fun _ => ?_) (fun _ => ?_) <;> simp only [*, go_sem, Int.reduceToNat, Nat.reduceAdd, Nat.reduceBEq, Nat.reduceLeDiff, Nat.reduceLT, Nat.reduceMul, Nat.reduceSub, Int.reduceEq, Int.reduceLT, Int.reduceLE, Int.reduceNeg, erB])
def tgB (s d : Int) : Bool := inB d 31 && !decide (d = s)
theorem s213 (n : Nat) (H : Heap) (k s d q o c m e t u v : Int) (x : ByteArray) : call1 T (n + 2) (.fn 213) [.agg (fr k s d q o c m e t u v x)] H = some (.bool (tgB s d), H) := by
  refine call_pure e213 (by rfl) ?_
  simp only [c213, heap0, go_sem, Int.reduceToNat, Nat.reduceAdd, Nat.reduceBEq, Nat.reduceLeDiff, Nat.reduceLT, Nat.reduceMul, Nat.reduceSub, Int.reduceEq, Int.reduceLT, Int.reduceLE, Int.reduceNeg, tgB, s196]
  cases inB d 31 <;> simp only [go_sem, Int.reduceToNat, Nat.reduceAdd, Nat.reduceBEq, Nat.reduceLeDiff, Nat.reduceLT, Nat.reduceMul, Nat.reduceSub, Int.reduceEq, Int.reduceLT, Int.reduceLE, Int.reduceNeg, s196]
def fdV (k s d q o c m e t u v : Int) (x : ByteArray) : SV :=
  bif decide (k = 1) then .tup [.agg (fr k s d q o 0 0 e t u v ⟨#[]⟩), .bool (tgB s d && inB c 255 && inB m 65535)]
  else bif decide (k = 2) then .tup [.agg (fr k s d q o c m 0 t u v x), .bool (tgB s d && erB e)]
  else bif decide (k = 3) then .tup [.agg (fr k s d q o c m e 0 0 0 ⟨#[]⟩), .bool (decide (d = -1) && inB t 109951162 && inB u 65535 && inB v 65535)]
  else bif decide (k = 4) then .tup [.agg (fr k s d q o c m e t u v ⟨#[]⟩), .bool (decide (d = -1) || tgB s d)]
  else .tup [.agg (fr k s d q o c m e t u v x), .bool false]
theorem s195 (n : Nat) (H : Heap) (k s d q o c m e t u v : Int) (x : ByteArray) : call1 T (n + 3) (.fn 195) [.agg (fr k s d q o c m e t u v x)] H = some (fdV k s d q o c m e t u v x, H) := by
  refine call_pure e195 (by rfl) ?_
  simp only [c195, heap0, go_sem, Int.reduceToNat, Nat.reduceAdd, Nat.reduceBEq, Nat.reduceLeDiff, Nat.reduceLT, Nat.reduceMul, Nat.reduceSub, Int.reduceEq, Int.reduceLT, Int.reduceLE, Int.reduceNeg, s196, s214, s213]
  cases h1 : decide (k = 1) with
  | true =>
    simp only [go_sem, Int.reduceToNat, Nat.reduceAdd, Nat.reduceBEq, Nat.reduceLeDiff, Nat.reduceLT, Nat.reduceMul, Nat.reduceSub, Int.reduceEq, Int.reduceLT, Int.reduceLE, Int.reduceNeg, s196, s214, s213, fdV, h1]
    cases h5 : tgB s d <;> cases h6 : inB c 255 <;> simp only [go_sem, Int.reduceToNat, Nat.reduceAdd, Nat.reduceBEq, Nat.reduceLeDiff, Nat.reduceLT, Nat.reduceMul, Nat.reduceSub, Int.reduceEq, Int.reduceLT, Int.reduceLE, Int.reduceNeg, s196, s214, s213, h5, h6]
  | false =>
    cases h2 : decide (k = 2) with
    | true =>
      simp only [go_sem, Int.reduceToNat, Nat.reduceAdd, Nat.reduceBEq, Nat.reduceLeDiff, Nat.reduceLT, Nat.reduceMul, Nat.reduceSub, Int.reduceEq, Int.reduceLT, Int.reduceLE, Int.reduceNeg, s196, s214, s213, fdV, h1, h2]
      cases h5 : tgB s d <;> simp only [go_sem, Int.reduceToNat, Nat.reduceAdd, Nat.reduceBEq, Nat.reduceLeDiff, Nat.reduceLT, Nat.reduceMul, Nat.reduceSub, Int.reduceEq, Int.reduceLT, Int.reduceLE, Int.reduceNeg, s196, s214, s213, h5]
    | false =>
      cases h3 : decide (k = 3) with
      | true =>
        simp only [go_sem, Int.reduceToNat, Nat.reduceAdd, Nat.reduceBEq, Nat.reduceLeDiff, Nat.reduceLT, Nat.reduceMul, Nat.reduceSub, Int.reduceEq, Int.reduceLT, Int.reduceLE, Int.reduceNeg, s196, s214, s213, fdV, h1, h2, h3]
        cases h5 : decide (d = -1) <;> cases h6 : inB t 109951162 <;> cases h7 : inB u 65535 <;> simp only [go_sem, Int.reduceToNat, Nat.reduceAdd, Nat.reduceBEq, Nat.reduceLeDiff, Nat.reduceLT, Nat.reduceMul, Nat.reduceSub, Int.reduceEq, Int.reduceLT, Int.reduceLE, Int.reduceNeg, s196, s214, s213, h5, h6, h7]
      | false =>
        cases h4 : decide (k = 4) with
        | true =>
          simp only [go_sem, Int.reduceToNat, Nat.reduceAdd, Nat.reduceBEq, Nat.reduceLeDiff, Nat.reduceLT, Nat.reduceMul, Nat.reduceSub, Int.reduceEq, Int.reduceLT, Int.reduceLE, Int.reduceNeg, s196, s214, s213, fdV, h1, h2, h3, h4]
          cases h5 : decide (d = -1) <;> simp only [go_sem, Int.reduceToNat, Nat.reduceAdd, Nat.reduceBEq, Nat.reduceLeDiff, Nat.reduceLT, Nat.reduceMul, Nat.reduceSub, Int.reduceEq, Int.reduceLT, Int.reduceLE, Int.reduceNeg, s196, s214, s213, h5]
        | false => simp only [go_sem, Int.reduceToNat, Nat.reduceAdd, Nat.reduceBEq, Nat.reduceLeDiff, Nat.reduceLT, Nat.reduceMul, Nat.reduceSub, Int.reduceEq, Int.reduceLT, Int.reduceLE, Int.reduceNeg, fdV, h1, h2, h3, h4]
def z0 (c : Int) : Bool := decide (c = 0)
def chB (k s d q o c m e t u v : Int) (x : ByteArray) : Bool :=
  (bif decide (k = 1) then (tgB s d && inB c 255 && inB m 65535) && (decide (e = 0) && (decide (t = 0) && (decide (u = 0) && decide (v = 0))))
  else bif decide (k = 2) then (tgB s d && erB e) && (decide (c = 0) && (decide (m = 0) && (decide (t = 0) && (decide (u = 0) && (decide (v = 0) && decide (x = ⟨#[]⟩))))))
  else bif decide (k = 3) then (decide (d = -1) && inB t 109951162 && inB u 65535 && inB v 65535) && (decide (c = 0) && (decide (m = 0) && decide (e = 0)))
  else bif decide (k = 4) then (decide (d = -1) || tgB s d) && (decide (c = 0) && (decide (m = 0) && (decide (e = 0) && (decide (t = 0) && (decide (u = 0) && decide (v = 0))))))
  else false) && (inB s 31 && (inB q 255 && inB o 255))
theorem s174 (n : Nat) (H : Heap) (k s d q o c m e t u v : Int) (x : ByteArray) : call1 T (n + 4) (.fn 174) [.agg (fr k s d q o c m e t u v x)] H = some (.int .i64 (bif chB k s d q o c m e t u v x then 0 else 1), H) := by
  refine call_pure e174 (by rfl) ?_
  simp only [c174, heap0, go_sem, Int.reduceToNat, Nat.reduceAdd, Nat.reduceBEq, Nat.reduceLeDiff, Nat.reduceLT, Nat.reduceMul, Nat.reduceSub, Int.reduceEq, Int.reduceLT, Int.reduceLE, Int.reduceNeg, s195, s196]
  unfold fdV chB
  cases h1 : decide (k = 1) with
  | true =>
    cases h5 : (tgB s d && inB c 255 && inB m 65535) with
    | false => simp only [go_sem, Int.reduceToNat, Nat.reduceAdd, Nat.reduceBEq, Nat.reduceLeDiff, Nat.reduceLT, Nat.reduceMul, Nat.reduceSub, Int.reduceEq, Int.reduceLT, Int.reduceLE, Int.reduceNeg, s196, h1, h5]
    | true =>
      cases h6 : (decide (e = 0) && (decide (t = 0) && (decide (u = 0) && decide (v = 0)))) <;> simp only [go_sem, Int.reduceToNat, Nat.reduceAdd, Nat.reduceBEq, Nat.reduceLeDiff, Nat.reduceLT, Nat.reduceMul, Nat.reduceSub, Int.reduceEq, Int.reduceLT, Int.reduceLE, Int.reduceNeg, s196, h1, h5, h6]
      cases h7 : inB s 31 <;> cases h8 : inB q 255 <;> cases h9 : inB o 255 <;> simp only [go_sem, Int.reduceToNat, Nat.reduceAdd, Nat.reduceBEq, Nat.reduceLeDiff, Nat.reduceLT, Nat.reduceMul, Nat.reduceSub, Int.reduceEq, Int.reduceLT, Int.reduceLE, Int.reduceNeg, s196, h7, h8, h9]
  | false =>
    cases h2 : decide (k = 2) with
    | true =>
      cases h5 : (tgB s d && erB e) with
      | false => simp only [go_sem, Int.reduceToNat, Nat.reduceAdd, Nat.reduceBEq, Nat.reduceLeDiff, Nat.reduceLT, Nat.reduceMul, Nat.reduceSub, Int.reduceEq, Int.reduceLT, Int.reduceLE, Int.reduceNeg, s196, h1, h2, h5]
      | true =>
        cases h6 : (decide (c = 0) && (decide (m = 0) && (decide (t = 0) && (decide (u = 0) && (decide (v = 0) && decide (x = ⟨#[]⟩)))))) <;> simp only [go_sem, Int.reduceToNat, Nat.reduceAdd, Nat.reduceBEq, Nat.reduceLeDiff, Nat.reduceLT, Nat.reduceMul, Nat.reduceSub, Int.reduceEq, Int.reduceLT, Int.reduceLE, Int.reduceNeg, s196, h1, h2, h5, h6]
        cases h7 : inB s 31 <;> cases h8 : inB q 255 <;> cases h9 : inB o 255 <;> simp only [go_sem, Int.reduceToNat, Nat.reduceAdd, Nat.reduceBEq, Nat.reduceLeDiff, Nat.reduceLT, Nat.reduceMul, Nat.reduceSub, Int.reduceEq, Int.reduceLT, Int.reduceLE, Int.reduceNeg, s196, h7, h8, h9]
    | false =>
      cases h3 : decide (k = 3) with
      | true =>
        cases h5 : (decide (d = -1) && inB t 109951162 && inB u 65535 && inB v 65535) with
        | false => simp only [go_sem, Int.reduceToNat, Nat.reduceAdd, Nat.reduceBEq, Nat.reduceLeDiff, Nat.reduceLT, Nat.reduceMul, Nat.reduceSub, Int.reduceEq, Int.reduceLT, Int.reduceLE, Int.reduceNeg, s196, h1, h2, h3, h5]
        | true =>
          cases h6 : (decide (c = 0) && (decide (m = 0) && decide (e = 0))) <;> simp only [go_sem, Int.reduceToNat, Nat.reduceAdd, Nat.reduceBEq, Nat.reduceLeDiff, Nat.reduceLT, Nat.reduceMul, Nat.reduceSub, Int.reduceEq, Int.reduceLT, Int.reduceLE, Int.reduceNeg, s196, h1, h2, h3, h5, h6]
          cases h7 : inB s 31 <;> cases h8 : inB q 255 <;> cases h9 : inB o 255 <;> simp only [go_sem, Int.reduceToNat, Nat.reduceAdd, Nat.reduceBEq, Nat.reduceLeDiff, Nat.reduceLT, Nat.reduceMul, Nat.reduceSub, Int.reduceEq, Int.reduceLT, Int.reduceLE, Int.reduceNeg, s196, h7, h8, h9]
      | false =>
        cases h4 : decide (k = 4) with
        | true =>
          cases h5 : (decide (d = -1) || tgB s d) with
          | false => simp only [go_sem, Int.reduceToNat, Nat.reduceAdd, Nat.reduceBEq, Nat.reduceLeDiff, Nat.reduceLT, Nat.reduceMul, Nat.reduceSub, Int.reduceEq, Int.reduceLT, Int.reduceLE, Int.reduceNeg, s196, h1, h2, h3, h4, h5]
          | true =>
            cases h6 : (decide (c = 0) && (decide (m = 0) && (decide (e = 0) && (decide (t = 0) && (decide (u = 0) && decide (v = 0)))))) <;> simp only [go_sem, Int.reduceToNat, Nat.reduceAdd, Nat.reduceBEq, Nat.reduceLeDiff, Nat.reduceLT, Nat.reduceMul, Nat.reduceSub, Int.reduceEq, Int.reduceLT, Int.reduceLE, Int.reduceNeg, s196, h1, h2, h3, h4, h5, h6]
            cases h7 : inB s 31 <;> cases h8 : inB q 255 <;> cases h9 : inB o 255 <;> simp only [go_sem, Int.reduceToNat, Nat.reduceAdd, Nat.reduceBEq, Nat.reduceLeDiff, Nat.reduceLT, Nat.reduceMul, Nat.reduceSub, Int.reduceEq, Int.reduceLT, Int.reduceLE, Int.reduceNeg, s196, h7, h8, h9]
        | false => simp only [go_sem, Int.reduceToNat, Nat.reduceAdd, Nat.reduceBEq, Nat.reduceLeDiff, Nat.reduceLT, Nat.reduceMul, Nat.reduceSub, Int.reduceEq, Int.reduceLT, Int.reduceLE, Int.reduceNeg, s196, h1, h2, h3, h4]
end C13
end Go.Sh
namespace Go.Sh
set_option linter.unusedSectionVars false
set_option linter.unnecessarySimpa false
set_option linter.unusedVariables false
set_option linter.unusedSimpArgs false
set_option maxRecDepth 100000
set_option maxHeartbeats 4000000
namespace C13
def bt (b : Bool) : Nat := bif b then 1 else 0
theorem bt_le (b : Bool) : bt b ≤ 1 := by cases b <;> decide
def bitN (bs : List Bool) (i : Nat) : Nat := bt ((bs[i]?).getD false)
theorem bitN_le (bs : List Bool) (i : Nat) : bitN bs i ≤ 1 := bt_le _
theorem bitN_ge {bs : List Bool} {i : Nat} (h : bs.length ≤ i) : bitN bs i = 0 := by
  unfold bitN; rw [List.getElem?_eq_none h]; rfl
theorem bitN_add (bs : List Bool) (b : Bool) (i : Nat) : bitN (bs ++ [b]) i = bitN bs i + (if i = bs.length then bt b else 0) := by
  by_cases h : i = bs.length
  · subst h
    rw [if_pos rfl, bitN_ge (Nat.le_refl _)]
    simp [bitN]
  · rw [if_neg h]
    by_cases h2 : i < bs.length
    · simp [bitN, List.getElem?_append_left h2]
    · rw [bitN_ge (bs := bs) (by omega), bitN_ge (by simp; omega)]
def byteN (bs : List Bool) (j : Nat) : Nat :=
  bitN bs (8 * j) * 128 + bitN bs (8 * j + 1) * 64 + bitN bs (8 * j + 2) * 32 + bitN bs (8 * j + 3) * 16 + bitN bs (8 * j + 4) * 8 + bitN bs (8 * j + 5) * 4 + bitN bs (8 * j + 6) * 2 + bitN bs (8 * j + 7)
theorem byteN_lt (bs : List Bool) (j : Nat) : byteN bs j < 256 := by
  have := bitN_le bs (8 * j); have := bitN_le bs (8 * j + 1); have := bitN_le bs (8 * j + 2); have := bitN_le bs (8 * j + 3)
  have := bitN_le bs (8 * j + 4); have := bitN_le bs (8 * j + 5); have := bitN_le bs (8 * j + 6); have := bitN_le bs (8 * j + 7)
  unfold byteN; omega
theorem m8 (n : Nat) : n % 8 = 0 ∨ n % 8 = 1 ∨ n % 8 = 2 ∨ n % 8 = 3 ∨ n % 8 = 4 ∨ n % 8 = 5 ∨ n % 8 = 6 ∨ n % 8 = 7 := by omega
theorem byteN_ne {bs : List Bool} {b : Bool} {j : Nat} (h : j ≠ bs.length / 8) : byteN (bs ++ [b]) j = byteN bs j := by
  unfold byteN
  simp only [bitN_add]
  rw [if_neg (by omega), if_neg (by omega), if_neg (by omega), if_neg (by omega), if_neg (by omega), if_neg (by omega), if_neg (by omega), if_neg (by omega)]
  simp only [Nat.add_zero]
theorem byteN_eq (bs : List Bool) (b : Bool) : byteN (bs ++ [b]) (bs.length / 8) = byteN bs (bs.length / 8) + bt b * 2 ^ (7 - bs.length % 8) := by
  unfold byteN
  simp only [bitN_add]
  rcases m8 bs.length with h | h | h | h | h | h | h | h <;> rw [h]
  · rw [if_pos (by omega), if_neg (by omega), if_neg (by omega), if_neg (by omega), if_neg (by omega), if_neg (by omega), if_neg (by omega), if_neg (by omega)]; omega
  · rw [if_neg (by omega), if_pos (by omega), if_neg (by omega), if_neg (by omega), if_neg (by omega), if_neg (by omega), if_neg (by omega), if_neg (by omega)]; omega
  · rw [if_neg (by omega), if_neg (by omega), if_pos (by omega), if_neg (by omega), if_neg (by omega), if_neg (by omega), if_neg (by omega), if_neg (by omega)]; omega
  · rw [if_neg (by omega), if_neg (by omega), if_neg (by omega), if_pos (by omega), if_neg (by omega), if_neg (by omega), if_neg (by omega), if_neg (by omega)]; omega
  · rw [if_neg (by omega), if_neg (by omega), if_neg (by omega), if_neg (by omega), if_pos (by omega), if_neg (by omega), if_neg (by omega), if_neg (by omega)]; omega
  · rw [if_neg (by omega), if_neg (by omega), if_neg (by omega), if_neg (by omega), if_neg (by omega), if_pos (by omega), if_neg (by omega), if_neg (by omega)]; omega
  · rw [if_neg (by omega), if_neg (by omega), if_neg (by omega), if_neg (by omega), if_neg (by omega), if_neg (by omega), if_pos (by omega), if_neg (by omega)]; omega
  · rw [if_neg (by omega), if_neg (by omega), if_neg (by omega), if_neg (by omega), if_neg (by omega), if_neg (by omega), if_neg (by omega), if_pos (by omega)]; omega
theorem byteN_div (bs : List Bool) : ∃ a, byteN bs (bs.length / 8) = 2 ^ (8 - bs.length % 8) * a := by
  have z : ∀ k, bs.length % 8 ≤ k → bitN bs (8 * (bs.length / 8) + k) = 0 := fun k hk => bitN_ge (by omega)
  unfold byteN
  rcases m8 bs.length with h | h | h | h | h | h | h | h <;> rw [h] at z ⊢
  · rw [z 1 (by omega), z 2 (by omega), z 3 (by omega), z 4 (by omega), z 5 (by omega), z 6 (by omega), z 7 (by omega), show bitN bs (8 * (bs.length / 8)) = 0 from z 0 (by omega)]; exact ⟨0, by omega⟩
  · rw [z 1 (by omega), z 2 (by omega), z 3 (by omega), z 4 (by omega), z 5 (by omega), z 6 (by omega), z 7 (by omega)]; exact ⟨bitN bs (8 * (bs.length / 8)), by omega⟩
  · rw [z 2 (by omega), z 3 (by omega), z 4 (by omega), z 5 (by omega), z 6 (by omega), z 7 (by omega)]; exact ⟨bitN bs (8 * (bs.length / 8)) * 2 + bitN bs (8 * (bs.length / 8) + 1), by omega⟩
  · rw [z 3 (by omega), z 4 (by omega), z 5 (by omega), z 6 (by omega), z 7 (by omega)]; exact ⟨bitN bs (8 * (bs.length / 8)) * 4 + bitN bs (8 * (bs.length / 8) + 1) * 2 + bitN bs (8 * (bs.length / 8) + 2), by omega⟩
  · rw [z 4 (by omega), z 5 (by omega), z 6 (by omega), z 7 (by omega)]; exact ⟨bitN bs (8 * (bs.length / 8)) * 8 + bitN bs (8 * (bs.length / 8) + 1) * 4 + bitN bs (8 * (bs.length / 8) + 2) * 2 + bitN bs (8 * (bs.length / 8) + 3), by omega⟩
  · rw [z 5 (by omega), z 6 (by omega), z 7 (by omega)]; exact ⟨bitN bs (8 * (bs.length / 8)) * 16 + bitN bs (8 * (bs.length / 8) + 1) * 8 + bitN bs (8 * (bs.length / 8) + 2) * 4 + bitN bs (8 * (bs.length / 8) + 3) * 2 + bitN bs (8 * (bs.length / 8) + 4), by omega⟩
  · rw [z 6 (by omega), z 7 (by omega)]; exact ⟨bitN bs (8 * (bs.length / 8)) * 32 + bitN bs (8 * (bs.length / 8) + 1) * 16 + bitN bs (8 * (bs.length / 8) + 2) * 8 + bitN bs (8 * (bs.length / 8) + 3) * 4 + bitN bs (8 * (bs.length / 8) + 4) * 2 + bitN bs (8 * (bs.length / 8) + 5), by omega⟩
  · rw [z 7 (by omega)]; exact ⟨bitN bs (8 * (bs.length / 8)) * 64 + bitN bs (8 * (bs.length / 8) + 1) * 32 + bitN bs (8 * (bs.length / 8) + 2) * 16 + bitN bs (8 * (bs.length / 8) + 3) * 8 + bitN bs (8 * (bs.length / 8) + 4) * 4 + bitN bs (8 * (bs.length / 8) + 5) * 2 + bitN bs (8 * (bs.length / 8) + 6), by omega⟩
theorem bt_pow (b : Bool) (r : Nat) (h : r < 8) : bt b * 2 ^ (7 - r) < 2 ^ (8 - r) := by
  have : 2 ^ (8 - r) = 2 * 2 ^ (7 - r) := by rw [show 8 - r = (7 - r) + 1 by omega, Nat.pow_succ, Nat.mul_comm]
  have hp : 0 < 2 ^ (7 - r) := Nat.pow_pos (by decide)
  cases b <;> simp [bt] <;> omega
theorem byteN_or (bs : List Bool) (b : Bool) : (byteN bs (bs.length / 8) ||| bt b * 2 ^ (7 - bs.length % 8)) = byteN (bs ++ [b]) (bs.length / 8) := by
  rw [byteN_eq]
  obtain ⟨a, ha⟩ := byteN_div bs
  rw [ha]
  exact (Nat.two_pow_add_eq_or_of_lt (bt_pow b _ (Nat.mod_lt _ (by decide))) a).symm
def nb (n : Nat) : Nat := (n + 7) / 8
def pkS (bs : List Bool) : List (List SV) := (List.range (nb bs.length)).map fun j => [.int .u8 (byteN bs j : Nat)]
@[go_sem] theorem pkS_len {bs : List Bool} : (pkS bs).length = nb bs.length := by simp [pkS]
theorem pkS_get {bs : List Bool} {j : Nat} (h : j < nb bs.length) : (pkS bs)[j]? = some [.int .u8 (byteN bs j : Nat)] := by simp [pkS, h]
theorem pkS_set {bs : List Bool} {b : Bool} (h : bs.length % 8 ≠ 0) : (pkS bs).set (bs.length / 8) [.int .u8 (byteN (bs ++ [b]) (bs.length / 8) : Nat)] = pkS (bs ++ [b]) := by
  have e : nb (bs.length + 1) = nb bs.length := by unfold nb; omega
  apply List.ext_getElem?
  intro j
  rw [List.getElem?_set]
  by_cases hj : j < nb bs.length
  · rw [pkS_get (bs := bs ++ [b]) (by simp [e, hj])]
    by_cases h2 : bs.length / 8 = j
    · subst h2
      rw [if_pos rfl, if_pos (by rw [pkS_len]; exact hj)]
    · rw [if_neg h2, pkS_get hj, byteN_ne (fun h => h2 h.symm)]
  · rw [if_neg (show ¬ bs.length / 8 = j by unfold nb at hj; omega), List.getElem?_eq_none (by rw [pkS_len]; omega), List.getElem?_eq_none (by rw [pkS_len, List.length_append]; simp [e]; omega)]
theorem pkS_app {bs : List Bool} {b : Bool} (h : bs.length % 8 = 0) : (pkS bs ++ [[SV.int .u8 0]]).set (bs.length / 8) [.int .u8 (byteN (bs ++ [b]) (bs.length / 8) : Nat)] = pkS (bs ++ [b]) := by
  have e : nb (bs.length + 1) = nb bs.length + 1 := by unfold nb; omega
  have e2 : nb bs.length = bs.length / 8 := by unfold nb; omega
  apply List.ext_getElem?
  intro j
  rw [List.getElem?_set]
  by_cases hj : j < nb bs.length + 1
  · rw [pkS_get (bs := bs ++ [b]) (by simp [e, hj])]
    by_cases h2 : bs.length / 8 = j
    · subst h2
      rw [if_pos rfl, if_pos (by rw [List.length_append, pkS_len]; simp; omega)]
    · rw [if_neg h2, List.getElem?_append_left (by rw [pkS_len]; omega), pkS_get (by omega), byteN_ne (fun h => h2 h.symm)]
  · rw [if_neg (show ¬ bs.length / 8 = j by omega), List.getElem?_eq_none (by rw [List.length_append, pkS_len]; simp; omega), List.getElem?_eq_none (by rw [pkS_len, List.length_append]; simp [e]; omega)]
theorem pkS_get0 {bs : List Bool} (h : bs.length % 8 = 0) : (pkS bs ++ [[SV.int .u8 0]])[bs.length / 8]? = some [.int .u8 (byteN bs (bs.length / 8) : Nat)] := by
  have e2 : nb bs.length = bs.length / 8 := by unfold nb; omega
  have z : ∀ k, bitN bs (8 * (bs.length / 8) + k) = 0 := fun k => bitN_ge (by omega)
  have hb : byteN bs (bs.length / 8) = 0 := by
    unfold byteN
    rw [z 1, z 2, z 3, z 4, z 5, z 6, z 7, show bitN bs (8 * (bs.length / 8)) = 0 from z 0]
  rw [hb, ← e2, ← pkS_len (bs := bs), List.getElem?_append_right (Nat.le_refl _)]
  simp
theorem pkS_get1 {bs : List Bool} (h : bs.length % 8 ≠ 0) : (pkS bs)[bs.length / 8]? = some [.int .u8 (byteN bs (bs.length / 8) : Nat)] := pkS_get (by unfold nb; omega)
def bits (w v : Nat) : List Bool := (List.range w).map fun i => v.testBit (w - 1 - i)
theorem bits_len (w v : Nat) : (bits w v).length = w := by simp [bits]
theorem bits_take {w v j : Nat} (h : j < w) : (bits w v).take (j + 1) = (bits w v).take j ++ [v.testBit (w - 1 - j)] := by
  rw [List.take_add_one]
  simp [bits, h]
end C13
end Go.Sh
namespace Go.Sh
set_option linter.unusedSectionVars false
set_option linter.unnecessarySimpa false
set_option linter.unusedVariables false
set_option linter.unusedSimpArgs false
set_option maxRecDepth 100000
set_option maxHeartbeats 4000000
namespace C13
abbrev wB (bs : List Bool) : SBlk := .box [.slc 2 (nb bs.length) 0 (nb bs.length), .int .i64 bs.length, .int .i64 0]
abbrev wA (bs : List Bool) : SBlk := .arr (nb bs.length) 1 (pkS bs) false
@[go_sem] theorem tm8 (n : Nat) : (n : Int).tmod 8 = ((n % 8 : Nat) : Int) := by rw [Int.tmod_eq_emod_of_nonneg (by omega)]; rfl
@[go_sem] theorem td8 (n : Nat) : (n : Int).tdiv 8 = ((n / 8 : Nat) : Int) := by rw [Int.tdiv_eq_ediv_of_nonneg (by omega)]; rfl
theorem wrap8 {n : Int} (h0 : 0 ≤ n) (h1 : n ≤ 255) : IntKind.u8.wrap n = n := by
  have e : IntKind.u8.wrap n = n % 256 := by simp [IntKind.wrap, IntKind.bits, IntKind.signed]
  rw [e]; omega
theorem wrapU64 {n : Int} (h0 : 0 ≤ n) (h1 : n < 2 ^ 64) : IntKind.u64.wrap n = n := by
  have e : IntKind.u64.wrap n = n % 18446744073709551616 := by simp [IntKind.wrap, IntKind.bits, IntKind.signed]
  rw [e]; omega
theorem fdiv_nat (B j : Nat) : ((B : Int).fdiv (2 ^ j)) = ((B / 2 ^ j : Nat) : Int) := by
  have h : ((2 : Int) ^ j) = ((2 ^ j : Nat) : Int) := by rw [Int.natCast_pow]; rfl
  rw [h, Int.fdiv_eq_ediv_of_nonneg _ (Int.natCast_nonneg _), Int.natCast_ediv]
theorem ofInt_nat (a : Nat) (h : a < 2 ^ 64) : (BitVec.ofInt 64 (a : Int)).toNat = a := by
  rw [BitVec.toNat_ofInt]
  omega
theorem ofInt_nat8 (a : Nat) (h : a < 256) : (BitVec.ofInt 8 (a : Int)).toNat = a := by
  rw [BitVec.toNat_ofInt]
  omega
theorem bt_bit (v i : Nat) : bt (v.testBit i) = v / 2 ^ i % 2 := by
  rw [Nat.testBit_eq_decide_div_mod_eq]
  unfold bt
  rcases Nat.mod_two_eq_zero_or_one (v / 2 ^ i) with h | h <;> rw [h] <;> rfl
theorem bit_of {v i : Nat} (hv : v < 2 ^ 64) (hi : i < 64) : IntKind.u64.wrap ((BitVec.ofInt 64 ((v : Int).fdiv (2 ^ min i 64)) &&& BitVec.ofInt 64 1).toNat : Nat) = (bt (v.testBit i) : Nat) := by
  have h2 : v / 2 ^ i ≤ v := Nat.div_le_self _ _
  have h3 : (BitVec.ofInt 64 1).toNat = 1 := by decide
  rw [Nat.min_eq_left (by omega), fdiv_nat, BitVec.toNat_and, ofInt_nat _ (by omega), h3, Nat.and_one_is_mod, bt_bit]
  exact wrapU64 (by omega) (by omega)
theorem put_bit {v i : Nat} (B : List Bool) (hv : v < 2 ^ 64) (hi : i < 64) : IntKind.u8.wrap ((BitVec.ofInt 8 (byteN B (B.length / 8) : Nat) ||| BitVec.ofInt 8 (IntKind.u8.wrap (IntKind.u8.wrap (IntKind.u64.wrap ((BitVec.ofInt 64 ((v : Int).fdiv (2 ^ min i 64)) &&& BitVec.ofInt 64 1).toNat : Nat)) * 2 ^ min (7 - B.length % 8) 8))).toNat : Nat) = (byteN (B ++ [v.testBit i]) (B.length / 8) : Nat) := by
  have hb := bt_le (v.testBit i)
  have h1 := bt_pow (v.testBit i) (B.length % 8) (Nat.mod_lt _ (by decide))
  have h2 : 2 ^ (8 - B.length % 8) ≤ 2 ^ 8 := Nat.pow_le_pow_right (by decide) (by omega)
  have h3 : bt (v.testBit i) * 2 ^ (7 - B.length % 8) < 256 := by omega
  have h4 := byteN_lt B (B.length / 8)
  have h5 := byteN_lt (B ++ [v.testBit i]) (B.length / 8)
  have h6 : ((bt (v.testBit i) : Nat) : Int) * 2 ^ (7 - B.length % 8) = ((bt (v.testBit i) * 2 ^ (7 - B.length % 8) : Nat) : Int) := by rw [Int.natCast_mul, Int.natCast_pow]; rfl
  rw [bit_of hv hi, wrap8 (n := ((bt (v.testBit i) : Nat) : Int)) (by omega) (by omega), Nat.min_eq_left (by omega), h6, wrap8 (n := ((bt (v.testBit i) * 2 ^ (7 - B.length % 8) : Nat) : Int)) (by omega) (by omega), BitVec.toNat_or, ofInt_nat8 _ h4, ofInt_nat8 _ h3, byteN_or]
  exact wrap8 (by omega) (by omega)
theorem s241 (n : Nat) (b0 : SBlk) (tl : List SBlk) (es : List (Nat × Nat)) (bs : List Bool) (w v : Nat) (hw : w ≤ 63) (hv : v < 2 ^ 64) (hb : bs.length + w ≤ 600000) :
    call1 T (n + 1) (.fn 241) [.ptr 1 0 0 0, .int .i64 w, .int .u64 v] ⟨b0 :: wB bs :: wA bs :: tl, es, 0⟩ =
      some (.tup [], ⟨b0 :: wB (bs ++ bits w v) :: wA (bs ++ bits w v) :: tl, es ++ List.replicate (nb (bs.length + w) - nb bs.length) (1, 3), 0⟩) := by
  refine call_in e241 (by rfl) ?_
  simp only [c241, go_sem, Int.reduceToNat, Nat.reduceAdd, Nat.reduceBEq, Nat.reduceLeDiff, Nat.reduceLT, Nat.reduceMul, Nat.reduceSub, Int.reduceEq, Int.reduceLT, Int.reduceLE, Int.reduceNeg]
  have hw1 : w64 ((w : Int) - 1) = (w : Int) - 1 := w64_id (by omega) (by omega)
  have hN : decide (max 2 0 ≤ tl.length + 1 + 1 + 1) = true := decide_eq_true (by omega)
  have l0 : decide (0 < tl.length + 1 + 1 + 1) = true := decide_eq_true (by omega)
  have l1 : decide (1 < tl.length + 1 + 1 + 1) = true := decide_eq_true (by omega)
  have l2 : decide (2 < tl.length + 1 + 1 + 1) = true := decide_eq_true (by omega)
  have l3' : decide (tl.length + 1 + 1 + 1 < 3) = false := decide_eq_false (by omega)
  have l3 : decide (3 ≤ tl.length + 1 + 1 + 1) = true := decide_eq_true (by omega)
  refine loop_rule (fun j => ([(0, .ptr 1 0 0 0), (2, .int .u64 v), (6, .int .i64 ((w : Int) - 1 - (j : Int)))], ⟨b0 :: wB (bs ++ (bits w v).take j) :: wA (bs ++ (bits w v).take j) :: tl, List.replicate (nb (bs.length + j) - nb bs.length) (1, 3), 0⟩)) (fun _ => True) w ?_ trivial ?_
  · simp only [go_sem, Int.reduceToNat, Nat.reduceAdd, Nat.reduceBEq, Nat.reduceLeDiff, Nat.reduceLT, Nat.reduceMul, Nat.reduceSub, Int.reduceEq, Int.reduceLT, Int.reduceLE, Int.reduceNeg, hw1, List.take_zero, List.append_nil, Nat.sub_self, List.replicate_zero, Nat.add_zero, Int.sub_zero, hN, Int.natCast_zero, Int.ofNat_zero]
    try rfl
  · intro j hj _
    rcases Nat.lt_or_ge j w with hlt | hge
    · have hx : decide ((0 : Int) ≤ (w : Int) - 1 - j) = true := decide_eq_true (by omega)
      have hs : w64 ((w : Int) - 1 - j - 1) = (w : Int) - 1 - (j + 1 : Nat) := by rw [w64_id (by omega) (by omega)]; omega
      have hB : (bs ++ (bits w v).take j).length = bs.length + j := by rw [List.length_append, List.length_take, bits_len]; omega
      have hB' : bs ++ (bits w v).take (j + 1) = (bs ++ (bits w v).take j) ++ [v.testBit (w - 1 - j)] := by rw [bits_take hlt, List.append_assoc]
      obtain ⟨b, hb'⟩ : ∃ b, v.testBit (w - 1 - j) = b := ⟨_, rfl⟩
      obtain ⟨B, hBd⟩ : ∃ B, bs ++ (bits w v).take j = B := ⟨_, rfl⟩
      rw [hb', hBd] at hB'
      rw [hBd] at hB
      have gb := fun H => apB_grow 1 H 2 (nb B.length) (nb B.length) [[.int .u8 0]] (pkS B) pkS_len
      have hw8 : w64 ((B.length / 8 : Nat) : Int) = ((B.length / 8 : Nat) : Int) := w64_id (by omega) (by omega)
      have hw7 : w64 (7 - ((B.length % 8 : Nat) : Int)) = ((7 - B.length % 8 : Nat) : Int) := by rw [w64_id (by omega) (by omega)]; omega
      have hnn : ∀ n : Nat, decide ((n : Int) < 0) = false := fun n => decide_eq_false (by omega)
      have hi : ((w : Int) - 1 - j).toNat = w - 1 - j := by omega
      have hE := put_bit (v := v) (i := w - 1 - j) B hv (by omega)
      rw [hb'] at hE
      have hw1' : w64 ((B.length : Int) + 1) = ((B.length + 1 : Nat) : Int) := by rw [w64_id (by omega) (by omega)]; omega
      have hl1 : (B ++ [b]).length = B.length + 1 := by simp
      by_cases h8 : B.length % 8 = 0
      · have hq : decide (((B.length % 8 : Nat) : Int) = 0) = true := decide_eq_true (by omega)
        have hr : decide ((nb B.length + 1) * 1 ≤ mostLen) = true := decide_eq_true (Nat.le_trans (show (nb B.length + 1) * 1 ≤ 1000000 by unfold nb; omega) (by decide))
        have e1 : nb (B.length + 1) = nb B.length + 1 := by unfold nb; omega
        have e2 : nb (bs.length + (j + 1)) - nb bs.length = nb (bs.length + j) - nb bs.length + 1 := by unfold nb; omega
        have g0 := pkS_get0 h8
        have hlt1 : decide (B.length / 8 < nb B.length + 1) = true := decide_eq_true (by unfold nb; omega)
        simp only [go_sem, Int.reduceToNat, Nat.reduceAdd, Nat.reduceBEq, Nat.reduceLeDiff, Nat.reduceLT, Nat.reduceMul, Nat.reduceSub, Int.reduceEq, Int.reduceLT, Int.reduceLE, Int.reduceNeg, hw8, hw7, g0, hlt1, Int.toNat_natCast, hx, hq, hBd, gb, hr, l0, l1, l2, l3, l3', hN, hi, hE, hw1', hs, hB', hl1, e1, e2, List.replicate_succ, List.filter_replicate, List.all_replicate, ite_self, if_true]
        refine ⟨hlt, ?_, trivial⟩
        erw [hE, pkS_app h8]
        simp only [wB, wA, hl1, e1]
      · have hq : decide (((B.length % 8 : Nat) : Int) = 0) = false := decide_eq_false (by omega)
        have e1 : nb (B.length + 1) = nb B.length := by unfold nb; omega
        have e2 : nb (bs.length + (j + 1)) - nb bs.length = nb (bs.length + j) - nb bs.length := by unfold nb; omega
        have g0 := pkS_get1 h8
        have hlt1 : decide (B.length / 8 < nb B.length) = true := decide_eq_true (by unfold nb; omega)
        simp only [go_sem, Int.reduceToNat, Nat.reduceAdd, Nat.reduceBEq, Nat.reduceLeDiff, Nat.reduceLT, Nat.reduceMul, Nat.reduceSub, Int.reduceEq, Int.reduceLT, Int.reduceLE, Int.reduceNeg, hw8, hw7, g0, hlt1, Int.toNat_natCast, hx, hq, hBd, l0, l1, l2, l3, l3', hN, hi, hE, hw1', hs, hB', hl1, e1, e2, List.filter_replicate, List.all_replicate, ite_self, if_true]
        refine ⟨hlt, ?_, trivial⟩
        erw [hE, pkS_set h8]
        simp only [wB, wA, hl1, e1]
    · obtain rfl : j = w := by omega
      have hx : decide ((0 : Int) ≤ (j : Int) - 1 - j) = false := decide_eq_false (by omega)
      have ht : (bits j v).take j = bits j v := List.take_of_length_le (by rw [bits_len]; exact Nat.le_refl _)
      simp only [go_sem, Int.reduceToNat, Nat.reduceAdd, Nat.reduceBEq, Nat.reduceLeDiff, Nat.reduceLT, Nat.reduceMul, Nat.reduceSub, Int.reduceEq, Int.reduceLT, Int.reduceLE, Int.reduceNeg, hx, ht, hN, l0, l1, l2, l3, l3', List.filter_replicate, List.all_replicate, ite_self, if_true]
end C13
end Go.Sh
namespace Go.Sh
set_option linter.unusedSectionVars false
set_option linter.unnecessarySimpa false
set_option linter.unusedVariables false
set_option linter.unusedSimpArgs false
set_option maxRecDepth 100000
set_option maxHeartbeats 4000000
namespace C13
def lenN (x : Nat) : Nat := if x = 0 then 0 else x.log2 + 1
theorem lenN_le {x w : Nat} : lenN x ≤ w ↔ x < 2 ^ w := by
  unfold lenN
  by_cases h : x = 0
  · subst h; simp; exact Nat.pow_pos (by decide)
  · rw [if_neg h, Nat.succ_le_iff, Nat.log2_lt h]
theorem lenN_div {x k : Nat} (h : 2 ^ k ≤ x) : lenN (x / 2 ^ k) + k = lenN x := by
  have key : ∀ w, lenN (x / 2 ^ k) + k ≤ w ↔ lenN x ≤ w := fun w => by
    by_cases hw : k ≤ w
    · obtain ⟨d, rfl⟩ := Nat.exists_eq_add_of_le hw
      rw [show (lenN (x / 2 ^ k) + k ≤ k + d) ↔ lenN (x / 2 ^ k) ≤ d by omega, lenN_le, lenN_le, Nat.pow_add, Nat.div_lt_iff_lt_mul (Nat.pow_pos (by decide)), Nat.mul_comm]
    · rw [lenN_le]
      have h2 : 2 ^ w ≤ 2 ^ k := Nat.pow_le_pow_right (by decide) (by omega)
      omega
  exact Nat.le_antisymm ((key _).2 (Nat.le_refl _)) ((key _).1 (Nat.le_refl _))
def lenS : ByteArray := ⟨⟨[0, 1, 2, 2, 3, 3, 3, 3, 4, 4, 4, 4, 4, 4, 4, 4, 5, 5, 5, 5, 5, 5, 5, 5, 5, 5, 5, 5, 5, 5, 5, 5, 6, 6, 6, 6, 6, 6, 6, 6, 6, 6, 6, 6, 6, 6, 6, 6, 6, 6, 6, 6, 6, 6, 6, 6, 6, 6, 6, 6, 6, 6, 6, 6, 7, 7, 7, 7, 7, 7, 7, 7, 7, 7, 7, 7, 7, 7, 7, 7, 7, 7, 7, 7, 7, 7, 7, 7, 7, 7, 7, 7, 7, 7, 7, 7, 7, 7, 7, 7, 7, 7, 7, 7, 7, 7, 7, 7, 7, 7, 7, 7, 7, 7, 7, 7, 7, 7, 7, 7, 7, 7, 7, 7, 7, 7, 7, 7, 8, 8, 8, 8, 8, 8, 8, 8, 8, 8, 8, 8, 8, 8, 8, 8, 8, 8, 8, 8, 8, 8, 8, 8, 8, 8, 8, 8, 8, 8, 8, 8, 8, 8, 8, 8, 8, 8, 8, 8, 8, 8, 8, 8, 8, 8, 8, 8, 8, 8, 8, 8, 8, 8, 8, 8, 8, 8, 8, 8, 8, 8, 8, 8, 8, 8, 8, 8, 8, 8, 8, 8, 8, 8, 8, 8, 8, 8, 8, 8, 8, 8, 8, 8, 8, 8, 8, 8, 8, 8, 8, 8, 8, 8, 8, 8, 8, 8, 8, 8, 8, 8, 8, 8, 8, 8, 8, 8, 8, 8, 8, 8, 8, 8, 8, 8, 8, 8, 8, 8, 8, 8, 8, 8, 8, 8, 8, 8]⟩⟩
theorem lenS_get : ∀ i : Fin 256, lenS.data[(i : Nat)]? = some (UInt8.ofNat (lenN i)) := by decide
theorem fd32 (x : Nat) : (x : Int).fdiv (2 ^ min 32 64) = ((x / 2 ^ 32 : Nat) : Int) := by rw [show min 32 64 = 32 from rfl, fdiv_nat]
theorem fd16 (x : Nat) : (x : Int).fdiv (2 ^ min 16 64) = ((x / 2 ^ 16 : Nat) : Int) := by rw [show min 16 64 = 16 from rfl, fdiv_nat]
theorem fd8 (x : Nat) : (x : Int).fdiv (2 ^ min 8 64) = ((x / 2 ^ 8 : Nat) : Int) := by rw [show min 8 64 = 8 from rfl, fdiv_nat]
theorem u8N {x : Nat} (h : x < 256) : IntKind.u8.wrap (x : Int) = x := wrap8 (by omega) (by omega)
theorem lenS_at {x : Nat} (h : x < 256) : lenS.data[x]? = some (UInt8.ofNat (lenN x)) := lenS_get ⟨x, h⟩
theorem ofNat_toNat {a : Nat} (h : a < 256) : (UInt8.ofNat a).toNat = a := by
  simp [UInt8.toNat_ofNat, Nat.mod_eq_of_lt h]
theorem wn1 : w64 (32 + 16) = 48 := by decide
theorem wn2 : w64 (48 + 8) = 56 := by decide
theorem wn3 : w64 (0 + 16) = 16 := by decide
theorem wn4 : w64 (16 + 8) = 24 := by decide
theorem wn5 : w64 (32 + 8) = 40 := by decide
theorem wn6 : w64 (0 + 8) = 8 := by decide
theorem lenS_size : lenS.size = 256 := by rfl
theorem s246 (n : Nat) (H : Heap) (x : Nat) (h : x < 2 ^ 64) : call1 T (n + 1) (.fn 246) [.int .u64 x] H = some (.int .i64 (lenN x), H) := by
  refine call_pure e246 (by rfl) ?_
  simp only [c246, heap0, go_sem, Int.reduceToNat, Nat.reduceAdd, Nat.reduceBEq, Nat.reduceLeDiff, Nat.reduceLT, Nat.reduceMul, Nat.reduceSub, Int.reduceEq, Int.reduceLT, Int.reduceLE, Int.reduceNeg]
  rw [← lenS]
  by_cases h32 : 4294967296 ≤ x
  · have hd32 : decide ((4294967296 : Int) ≤ (x : Int)) = true := decide_eq_true (by omega)
    have hl32 := lenN_div (x := x) (k := 32) (by omega)
    obtain ⟨y32, hy32⟩ : ∃ z, x / 2 ^ 32 = z := ⟨_, rfl⟩
    rw [hy32] at hl32
    have hb32 : y32 < 4294967296 := by omega
    by_cases h16 : 65536 ≤ y32
    · have hd16 : decide ((65536 : Int) ≤ (y32 : Int)) = true := decide_eq_true (by omega)
      have hl16 := lenN_div (x := y32) (k := 16) (by omega)
      obtain ⟨y16, hy16⟩ : ∃ z, y32 / 2 ^ 16 = z := ⟨_, rfl⟩
      rw [hy16] at hl16
      have hb16 : y16 < 65536 := by omega
      by_cases h8 : 256 ≤ y16
      · have hd8 : decide ((256 : Int) ≤ (y16 : Int)) = true := decide_eq_true (by omega)
        have hl8 := lenN_div (x := y16) (k := 8) (by omega)
        obtain ⟨y8, hy8⟩ : ∃ z, y16 / 2 ^ 8 = z := ⟨_, rfl⟩
        rw [hy8] at hl8
        have hb8 : y8 < 256 := by omega
        have hu := u8N (x := y8) (by omega)
        have hg := lenS_at (x := y8) (by omega)
        have hn : (UInt8.ofNat (lenN y8)).toNat = lenN y8 := by have := (lenN_le (x := y8) (w := 8)).2 (by omega); exact ofNat_toNat (by omega)
        have hn2 : lenN y8 ≤ 8 := (lenN_le (x := y8) (w := 8)).2 (by omega)
        have hz : decide ((y8 : Int) < 256) = true := decide_eq_true (by omega)
        have hz0 : decide ((0 : Int) ≤ (y8 : Int)) = true := decide_eq_true (by omega)
        have hw1 : w64 ((lenN y8 : Nat) : Int) = (lenN y8 : Nat) := w64_id (by omega) (by omega)
        have hw2 : w64 (56 + ((lenN y8 : Nat) : Int)) = (lenN x : Nat) := by rw [w64_id (by omega) (by omega)]; omega
        simp only [go_sem, Int.reduceToNat, Nat.reduceAdd, Nat.reduceBEq, Nat.reduceLeDiff, Nat.reduceLT, Nat.reduceMul, Nat.reduceSub, Int.reduceEq, Int.reduceLT, Int.reduceLE, Int.reduceNeg, hd32, fd32, hy32, hd16, fd16, hy16, hd8, fd8, hy8, hu, hg, hn, hz, hz0, hw1, hw2, lenS_size, Int.toNat_natCast, wn1, wn2, wn3, wn4, wn5, wn6]
        try rfl
      · have hd8 : decide ((256 : Int) ≤ (y16 : Int)) = false := decide_eq_false (by omega)
        have hu := u8N (x := y16) (by omega)
        have hg := lenS_at (x := y16) (by omega)
        have hn : (UInt8.ofNat (lenN y16)).toNat = lenN y16 := by have := (lenN_le (x := y16) (w := 8)).2 (by omega); exact ofNat_toNat (by omega)
        have hn2 : lenN y16 ≤ 8 := (lenN_le (x := y16) (w := 8)).2 (by omega)
        have hz : decide ((y16 : Int) < 256) = true := decide_eq_true (by omega)
        have hz0 : decide ((0 : Int) ≤ (y16 : Int)) = true := decide_eq_true (by omega)
        have hw1 : w64 ((lenN y16 : Nat) : Int) = (lenN y16 : Nat) := w64_id (by omega) (by omega)
        have hw2 : w64 (48 + ((lenN y16 : Nat) : Int)) = (lenN x : Nat) := by rw [w64_id (by omega) (by omega)]; omega
        simp only [go_sem, Int.reduceToNat, Nat.reduceAdd, Nat.reduceBEq, Nat.reduceLeDiff, Nat.reduceLT, Nat.reduceMul, Nat.reduceSub, Int.reduceEq, Int.reduceLT, Int.reduceLE, Int.reduceNeg, hd32, fd32, hy32, hd16, fd16, hy16, hd8, hu, hg, hn, hz, hz0, hw1, hw2, lenS_size, Int.toNat_natCast, wn1, wn2, wn3, wn4, wn5, wn6]
        try rfl
    · have hd16 : decide ((65536 : Int) ≤ (y32 : Int)) = false := decide_eq_false (by omega)
      by_cases h8 : 256 ≤ y32
      · have hd8 : decide ((256 : Int) ≤ (y32 : Int)) = true := decide_eq_true (by omega)
        have hl8 := lenN_div (x := y32) (k := 8) (by omega)
        obtain ⟨y8, hy8⟩ : ∃ z, y32 / 2 ^ 8 = z := ⟨_, rfl⟩
        rw [hy8] at hl8
        have hb8 : y8 < 256 := by omega
        have hu := u8N (x := y8) (by omega)
        have hg := lenS_at (x := y8) (by omega)
        have hn : (UInt8.ofNat (lenN y8)).toNat = lenN y8 := by have := (lenN_le (x := y8) (w := 8)).2 (by omega); exact ofNat_toNat (by omega)
        have hn2 : lenN y8 ≤ 8 := (lenN_le (x := y8) (w := 8)).2 (by omega)
        have hz : decide ((y8 : Int) < 256) = true := decide_eq_true (by omega)
        have hz0 : decide ((0 : Int) ≤ (y8 : Int)) = true := decide_eq_true (by omega)
        have hw1 : w64 ((lenN y8 : Nat) : Int) = (lenN y8 : Nat) := w64_id (by omega) (by omega)
        have hw2 : w64 (40 + ((lenN y8 : Nat) : Int)) = (lenN x : Nat) := by rw [w64_id (by omega) (by omega)]; omega
        simp only [go_sem, Int.reduceToNat, Nat.reduceAdd, Nat.reduceBEq, Nat.reduceLeDiff, Nat.reduceLT, Nat.reduceMul, Nat.reduceSub, Int.reduceEq, Int.reduceLT, Int.reduceLE, Int.reduceNeg, hd32, fd32, hy32, hd16, hd8, fd8, hy8, hu, hg, hn, hz, hz0, hw1, hw2, lenS_size, Int.toNat_natCast, wn1, wn2, wn3, wn4, wn5, wn6]
        try rfl
      · have hd8 : decide ((256 : Int) ≤ (y32 : Int)) = false := decide_eq_false (by omega)
        have hu := u8N (x := y32) (by omega)
        have hg := lenS_at (x := y32) (by omega)
        have hn : (UInt8.ofNat (lenN y32)).toNat = lenN y32 := by have := (lenN_le (x := y32) (w := 8)).2 (by omega); exact ofNat_toNat (by omega)
        have hn2 : lenN y32 ≤ 8 := (lenN_le (x := y32) (w := 8)).2 (by omega)
        have hz : decide ((y32 : Int) < 256) = true := decide_eq_true (by omega)
        have hz0 : decide ((0 : Int) ≤ (y32 : Int)) = true := decide_eq_true (by omega)
        have hw1 : w64 ((lenN y32 : Nat) : Int) = (lenN y32 : Nat) := w64_id (by omega) (by omega)
        have hw2 : w64 (32 + ((lenN y32 : Nat) : Int)) = (lenN x : Nat) := by rw [w64_id (by omega) (by omega)]; omega
        simp only [go_sem, Int.reduceToNat, Nat.reduceAdd, Nat.reduceBEq, Nat.reduceLeDiff, Nat.reduceLT, Nat.reduceMul, Nat.reduceSub, Int.reduceEq, Int.reduceLT, Int.reduceLE, Int.reduceNeg, hd32, fd32, hy32, hd16, hd8, hu, hg, hn, hz, hz0, hw1, hw2, lenS_size, Int.toNat_natCast, wn1, wn2, wn3, wn4, wn5, wn6]
        try rfl
  · have hd32 : decide ((4294967296 : Int) ≤ (x : Int)) = false := decide_eq_false (by omega)
    by_cases h16 : 65536 ≤ x
    · have hd16 : decide ((65536 : Int) ≤ (x : Int)) = true := decide_eq_true (by omega)
      have hl16 := lenN_div (x := x) (k := 16) (by omega)
      obtain ⟨y16, hy16⟩ : ∃ z, x / 2 ^ 16 = z := ⟨_, rfl⟩
      rw [hy16] at hl16
      have hb16 : y16 < 65536 := by omega
      by_cases h8 : 256 ≤ y16
      · have hd8 : decide ((256 : Int) ≤ (y16 : Int)) = true := decide_eq_true (by omega)
        have hl8 := lenN_div (x := y16) (k := 8) (by omega)
        obtain ⟨y8, hy8⟩ : ∃ z, y16 / 2 ^ 8 = z := ⟨_, rfl⟩
        rw [hy8] at hl8
        have hb8 : y8 < 256 := by omega
        have hu := u8N (x := y8) (by omega)
        have hg := lenS_at (x := y8) (by omega)
        have hn : (UInt8.ofNat (lenN y8)).toNat = lenN y8 := by have := (lenN_le (x := y8) (w := 8)).2 (by omega); exact ofNat_toNat (by omega)
        have hn2 : lenN y8 ≤ 8 := (lenN_le (x := y8) (w := 8)).2 (by omega)
        have hz : decide ((y8 : Int) < 256) = true := decide_eq_true (by omega)
        have hz0 : decide ((0 : Int) ≤ (y8 : Int)) = true := decide_eq_true (by omega)
        have hw1 : w64 ((lenN y8 : Nat) : Int) = (lenN y8 : Nat) := w64_id (by omega) (by omega)
        have hw2 : w64 (24 + ((lenN y8 : Nat) : Int)) = (lenN x : Nat) := by rw [w64_id (by omega) (by omega)]; omega
        simp only [go_sem, Int.reduceToNat, Nat.reduceAdd, Nat.reduceBEq, Nat.reduceLeDiff, Nat.reduceLT, Nat.reduceMul, Nat.reduceSub, Int.reduceEq, Int.reduceLT, Int.reduceLE, Int.reduceNeg, hd32, hd16, fd16, hy16, hd8, fd8, hy8, hu, hg, hn, hz, hz0, hw1, hw2, lenS_size, Int.toNat_natCast, wn1, wn2, wn3, wn4, wn5, wn6]
        try rfl
      · have hd8 : decide ((256 : Int) ≤ (y16 : Int)) = false := decide_eq_false (by omega)
        have hu := u8N (x := y16) (by omega)
        have hg := lenS_at (x := y16) (by omega)
        have hn : (UInt8.ofNat (lenN y16)).toNat = lenN y16 := by have := (lenN_le (x := y16) (w := 8)).2 (by omega); exact ofNat_toNat (by omega)
        have hn2 : lenN y16 ≤ 8 := (lenN_le (x := y16) (w := 8)).2 (by omega)
        have hz : decide ((y16 : Int) < 256) = true := decide_eq_true (by omega)
        have hz0 : decide ((0 : Int) ≤ (y16 : Int)) = true := decide_eq_true (by omega)
        have hw1 : w64 ((lenN y16 : Nat) : Int) = (lenN y16 : Nat) := w64_id (by omega) (by omega)
        have hw2 : w64 (16 + ((lenN y16 : Nat) : Int)) = (lenN x : Nat) := by rw [w64_id (by omega) (by omega)]; omega
        simp only [go_sem, Int.reduceToNat, Nat.reduceAdd, Nat.reduceBEq, Nat.reduceLeDiff, Nat.reduceLT, Nat.reduceMul, Nat.reduceSub, Int.reduceEq, Int.reduceLT, Int.reduceLE, Int.reduceNeg, hd32, hd16, fd16, hy16, hd8, hu, hg, hn, hz, hz0, hw1, hw2, lenS_size, Int.toNat_natCast, wn1, wn2, wn3, wn4, wn5, wn6]
        try rfl
    · have hd16 : decide ((65536 : Int) ≤ (x : Int)) = false := decide_eq_false (by omega)
      by_cases h8 : 256 ≤ x
      · have hd8 : decide ((256 : Int) ≤ (x : Int)) = true := decide_eq_true (by omega)
        have hl8 := lenN_div (x := x) (k := 8) (by omega)
        obtain ⟨y8, hy8⟩ : ∃ z, x / 2 ^ 8 = z := ⟨_, rfl⟩
        rw [hy8] at hl8
        have hb8 : y8 < 256 := by omega
        have hu := u8N (x := y8) (by omega)
        have hg := lenS_at (x := y8) (by omega)
        have hn : (UInt8.ofNat (lenN y8)).toNat = lenN y8 := by have := (lenN_le (x := y8) (w := 8)).2 (by omega); exact ofNat_toNat (by omega)
        have hn2 : lenN y8 ≤ 8 := (lenN_le (x := y8) (w := 8)).2 (by omega)
        have hz : decide ((y8 : Int) < 256) = true := decide_eq_true (by omega)
        have hz0 : decide ((0 : Int) ≤ (y8 : Int)) = true := decide_eq_true (by omega)
        have hw1 : w64 ((lenN y8 : Nat) : Int) = (lenN y8 : Nat) := w64_id (by omega) (by omega)
        have hw2 : w64 (8 + ((lenN y8 : Nat) : Int)) = (lenN x : Nat) := by rw [w64_id (by omega) (by omega)]; omega
        simp only [go_sem, Int.reduceToNat, Nat.reduceAdd, Nat.reduceBEq, Nat.reduceLeDiff, Nat.reduceLT, Nat.reduceMul, Nat.reduceSub, Int.reduceEq, Int.reduceLT, Int.reduceLE, Int.reduceNeg, hd32, hd16, hd8, fd8, hy8, hu, hg, hn, hz, hz0, hw1, hw2, lenS_size, Int.toNat_natCast, wn1, wn2, wn3, wn4, wn5, wn6]
        try rfl
      · have hd8 : decide ((256 : Int) ≤ (x : Int)) = false := decide_eq_false (by omega)
        have hu := u8N (x := x) (by omega)
        have hg := lenS_at (x := x) (by omega)
        have hn : (UInt8.ofNat (lenN x)).toNat = lenN x := by have := (lenN_le (x := x) (w := 8)).2 (by omega); exact ofNat_toNat (by omega)
        have hn2 : lenN x ≤ 8 := (lenN_le (x := x) (w := 8)).2 (by omega)
        have hz : decide ((x : Int) < 256) = true := decide_eq_true (by omega)
        have hz0 : decide ((0 : Int) ≤ (x : Int)) = true := decide_eq_true (by omega)
        have hw1 : w64 ((lenN x : Nat) : Int) = (lenN x : Nat) := w64_id (by omega) (by omega)
        have hw2 : w64 (0 + ((lenN x : Nat) : Int)) = (lenN x : Nat) := by rw [w64_id (by omega) (by omega)]; omega
        simp only [go_sem, Int.reduceToNat, Nat.reduceAdd, Nat.reduceBEq, Nat.reduceLeDiff, Nat.reduceLT, Nat.reduceMul, Nat.reduceSub, Int.reduceEq, Int.reduceLT, Int.reduceLE, Int.reduceNeg, hd32, hd16, hd8, hu, hg, hn, hz, hz0, hw1, hw2, lenS_size, Int.toNat_natCast, wn1, wn2, wn3, wn4, wn5, wn6]
        try rfl
end C13
end Go.Sh
namespace Go.Sh
set_option linter.unusedSectionVars false
set_option linter.unnecessarySimpa false
set_option linter.unusedVariables false
set_option linter.unusedSimpArgs false
set_option maxRecDepth 100000
set_option maxHeartbeats 4000000
namespace C13
abbrev wH (b0 : SBlk) (bs : List Bool) (tl : List SBlk) (es : List (Nat × Nat)) : Heap := ⟨b0 :: wB bs :: wA bs :: tl, es, 0⟩
abbrev ek (bs : List Bool) (w : Nat) : List (Nat × Nat) := List.replicate (nb (bs.length + w) - nb bs.length) (1, 3)
theorem s233 (n : Nat) (H : Heap) (x : Nat) (h : x < 2 ^ 64) : call1 T (n + 2) (.fn 233) [.int .u64 x] H = some (.int .i64 (lenN x), H) := by
  refine call_pure e233 (by rfl) ?_
  simp only [c233, heap0, go_sem, Int.reduceToNat, Nat.reduceAdd, Nat.reduceBEq, Nat.reduceLeDiff, Nat.reduceLT, Nat.reduceMul, Nat.reduceSub, Int.reduceEq, Int.reduceLT, Int.reduceLE, Int.reduceNeg, s246 _ _ _ h]
theorem s239 (n : Nat) (H : Heap) (x : Int) : call1 T (n + 1) (.fn 239) [.int .i64 x] H = some (.bool (decide (1 ≤ x) && decide (x ≤ 4095)), H) := by
  refine call_pure e239 (by rfl) ?_
  simp only [c239, heap0, go_sem, Int.reduceToNat, Nat.reduceAdd, Nat.reduceBEq, Nat.reduceLeDiff, Nat.reduceLT, Nat.reduceMul, Nat.reduceSub, Int.reduceEq, Int.reduceLT, Int.reduceLE, Int.reduceNeg]
  repeat' (with_reducible refine fork_split (fun _ => ?_) (fun _ => ?_) <;> simp only [*, go_sem, Int.reduceToNat, Nat.reduceAdd, Nat.reduceBEq, Nat.reduceLeDiff, Nat.reduceLT, Nat.reduceMul, Nat.reduceSub, Int.reduceEq, Int.reduceLT, Int.reduceLE, Int.reduceNeg])
theorem s240 (n : Nat) (H : Heap) : call1 T (n + 3) (.fn 240) [.int .i64 127] H = some (.int .i64 7, H) := by
  refine call_pure e240 (by rfl) ?_
  have h : ∀ H, call1 T (n + 2) (.fn 233) [.int .u64 127] H = some (.int .i64 7, H) := fun H => s233 n H 127 (by decide)
  have e : IntKind.u64.wrap 127 = 127 := by decide
  have e3 : max (1 : Int) 7 = 7 := by decide
  simp only [c240, heap0, go_sem, Int.reduceToNat, Nat.reduceAdd, Nat.reduceBEq, Nat.reduceLeDiff, Nat.reduceLT, Nat.reduceMul, Nat.reduceSub, Int.reduceEq, Int.reduceLT, Int.reduceLE, Int.reduceNeg, e, h, e3]
section
variable (b0 : SBlk) (tl : List SBlk) (es : List (Nat × Nat)) (bs : List Bool)
theorem s231 (n : Nat) (w v : Nat) (v' : Int) (hw : w ≤ 63) (hv : v < 2 ^ 64) (hv' : IntKind.u64.wrap v' = v) (hb : bs.length + w ≤ 524288) :
    call1 T (n + 2) (.fn 231) [.ptr 1 0 0 0, .bool true, .bool true, .int .i64 w, .int .i64 v'] (wH b0 bs tl es) = some (.tup [], wH b0 (bs ++ bits w v) tl (es ++ ek bs w)) := by
  refine call_in e231 (by rfl) ?_
  have h := fun es => s241 n b0 tl es bs w v hw hv (by omega)
  have hx : decide (((bs.length : Int)) + w > 524288) = false := decide_eq_false (by omega)
  have hx2 : decide ((524288 : Int) < (bs.length : Int) + w) = false := decide_eq_false (by omega)
  have hs : w64 ((bs.length : Int) + w) = bs.length + w := w64_id (by omega) (by omega)
  have l0 : decide (0 < tl.length + 1 + 1 + 1) = true := decide_eq_true (by omega)
  have l1 : decide (1 < tl.length + 1 + 1 + 1) = true := decide_eq_true (by omega)
  have l2 : decide (2 < tl.length + 1 + 1 + 1) = true := decide_eq_true (by omega)
  have l3' : decide (tl.length + 1 + 1 + 1 < 3) = false := decide_eq_false (by omega)
  have l3 : decide (3 ≤ tl.length + 1 + 1 + 1) = true := decide_eq_true (by omega)
  simp only [c231, go_sem, Int.reduceToNat, Nat.reduceAdd, Nat.reduceBEq, Nat.reduceLeDiff, Nat.reduceLT, Nat.reduceMul, Nat.reduceSub, Int.reduceEq, Int.reduceLT, Int.reduceLE, Int.reduceNeg, hs, hx, hx2, hv', h, l0, l1, l2, l3, l3', List.filter_replicate, List.all_replicate, ite_self, if_true]
theorem s220 (n : Nat) (f : Bool) (hb : bs.length + 1 ≤ 524288) :
    call1 T (n + 3) (.fn 220) [.ptr 1 0 0 0, .bool f] (wH b0 bs tl es) = some (.tup [], wH b0 (bs ++ bits 1 (bt f)) tl (es ++ ek bs 1)) := by
  refine call_in e220 (by rfl) ?_
  have h := fun es => s231 b0 tl es bs n 1 (bt f) (bt f) (by omega) (by have := bt_le f; omega) (by have := bt_le f; exact wrapU64 (by omega) (by omega)) hb
  have l1 : decide (1 < tl.length + 1 + 1 + 1) = true := decide_eq_true (by omega)
  have l3' : decide (tl.length + 1 + 1 + 1 < 3) = false := decide_eq_false (by omega)
  have l3 : decide (3 ≤ tl.length + 1 + 1 + 1) = true := decide_eq_true (by omega)
  cases f with
  | false =>
    have h : ∀ es, call1 T (n + 2) (.fn 231) [.ptr 1 0 0 0, .bool true, .bool true, .int .i64 1, .int .i64 0] (wH b0 bs tl es) = some (.tup [], wH b0 (bs ++ bits 1 0) tl (es ++ ek bs 1)) := h
    simp only [c220, bt, go_sem, Int.reduceToNat, Nat.reduceAdd, Nat.reduceBEq, Nat.reduceLeDiff, Nat.reduceLT, Nat.reduceMul, Nat.reduceSub, Int.reduceEq, Int.reduceLT, Int.reduceLE, Int.reduceNeg, h, l1, l3, l3', List.filter_replicate, List.all_replicate, ite_self, if_true]
  | true =>
    have h : ∀ es, call1 T (n + 2) (.fn 231) [.ptr 1 0 0 0, .bool true, .bool true, .int .i64 1, .int .i64 1] (wH b0 bs tl es) = some (.tup [], wH b0 (bs ++ bits 1 1) tl (es ++ ek bs 1)) := h
    simp only [c220, bt, go_sem, Int.reduceToNat, Nat.reduceAdd, Nat.reduceBEq, Nat.reduceLeDiff, Nat.reduceLT, Nat.reduceMul, Nat.reduceSub, Int.reduceEq, Int.reduceLT, Int.reduceLE, Int.reduceNeg, h, l1, l3, l3', List.filter_replicate, List.all_replicate, ite_self, if_true]
theorem s218 (n : Nat) (w v : Nat) (h1 : 1 ≤ w) (hw : w ≤ 62) (hv : v < 2 ^ w) (hb : bs.length + w ≤ 524288) :
    call1 T (n + 3) (.fn 218) [.ptr 1 0 0 0, .int .i64 w, .int .i64 v] (wH b0 bs tl es) = some (.tup [], wH b0 (bs ++ bits w v) tl (es ++ ek bs w)) := by
  refine call_in e218 (by rfl) ?_
  have h63 : 2 ^ w ≤ 2 ^ 62 := Nat.pow_le_pow_right (by decide) hw
  have hv' : IntKind.u64.wrap (v : Int) = v := wrapU64 (by omega) (by omega)
  have h := fun es => s231 b0 tl es bs n w v v (by omega) (by omega) hv' hb
  have h97 := fun H => s233 n H v (by omega)
  have hl := (lenN_le (x := v) (w := w)).2 hv
  have x1 : decide ((1 : Int) ≤ w) = true := decide_eq_true (by omega)
  have x2 : decide ((w : Int) ≤ 63) = true := decide_eq_true (by omega)
  have x3 : decide (((lenN v : Nat) : Int) ≤ w) = true := decide_eq_true (by omega)
  have l1 : decide (1 < tl.length + 1 + 1 + 1) = true := decide_eq_true (by omega)
  have l3' : decide (tl.length + 1 + 1 + 1 < 3) = false := decide_eq_false (by omega)
  have l3 : decide (3 ≤ tl.length + 1 + 1 + 1) = true := decide_eq_true (by omega)
  simp only [c218, go_sem, Int.reduceToNat, Nat.reduceAdd, Nat.reduceBEq, Nat.reduceLeDiff, Nat.reduceLT, Nat.reduceMul, Nat.reduceSub, Int.reduceEq, Int.reduceLT, Int.reduceLE, Int.reduceNeg, h, h97, hv', x1, x2, x3, l1, l3, l3', List.filter_replicate, List.all_replicate, ite_self, if_true]
end
end C13
end Go.Sh
namespace Go.Sh
set_option linter.unusedSectionVars false
set_option linter.unnecessarySimpa false
set_option linter.unusedVariables false
set_option linter.unusedSimpArgs false
set_option maxRecDepth 100000
set_option maxHeartbeats 4000000
namespace C13
def sgN (x : Int) : Nat := (x % 18446744073709551616).toNat
theorem sgN_lt (x : Int) : sgN x < 2 ^ 64 := by unfold sgN; omega
theorem sgN_wrap (x : Int) : IntKind.u64.wrap x = (sgN x : Nat) := by
  have e : IntKind.u64.wrap x = x % 18446744073709551616 := by simp [IntKind.wrap, IntKind.bits, IntKind.signed]
  unfold sgN; rw [e]; omega
theorem ek_add {bs bs' : List Bool} {a b : Nat} (h : bs'.length = bs.length + a) : ek bs a ++ ek bs' b = ek bs (a + b) := by
  unfold ek
  rw [List.replicate_append_replicate, h]
  congr 1
  unfold nb; omega
section
variable (b0 : SBlk) (tl : List SBlk) (es : List (Nat × Nat)) (bs : List Bool)
theorem s216 (n : Nat) (x : Int) (h0 : -32768 ≤ x) (h1 : x ≤ 32767) (hb : bs.length + 16 ≤ 524288) :
    call1 T (n + 3) (.fn 216) [.ptr 1 0 0 0, .int .i64 16, .int .i64 x] (wH b0 bs tl es) = some (.tup [], wH b0 (bs ++ bits 16 (sgN x)) tl (es ++ ek bs 16)) := by
  refine call_in e216 (by rfl) ?_
  have h : ∀ es, call1 T (n + 2) (.fn 231) [.ptr 1 0 0 0, .bool true, .bool true, .int .i64 16, .int .i64 x] (wH b0 bs tl es) = some (.tup [], wH b0 (bs ++ bits 16 (sgN x)) tl (es ++ ek bs 16)) := fun es => s231 b0 tl es bs n 16 (sgN x) x (by omega) (sgN_lt x) (sgN_wrap x) hb
  have x1 : decide (-32768 ≤ x) = true := decide_eq_true h0
  have x2 : decide (x ≤ 32767) = true := decide_eq_true h1
  have m1 : max (16 : Int) 1 = 16 := by decide
  have m2 : w64 (16 - 1) = 15 := by decide
  have m3 : w64 (-1 * 2 ^ min 15 64) = -32768 := by decide
  have m4 : w64 (1 * 2 ^ min 15 64) = 32768 := by decide
  have m5 : w64 (32768 - 1) = 32767 := by decide
  have l1 : decide (1 < tl.length + 1 + 1 + 1) = true := decide_eq_true (by omega)
  have l3' : decide (tl.length + 1 + 1 + 1 < 3) = false := decide_eq_false (by omega)
  have l3 : decide (3 ≤ tl.length + 1 + 1 + 1) = true := decide_eq_true (by omega)
  simp only [c216, go_sem, Int.reduceToNat, Nat.reduceAdd, Nat.reduceBEq, Nat.reduceLeDiff, Nat.reduceLT, Nat.reduceMul, Nat.reduceSub, Int.reduceEq, Int.reduceLT, Int.reduceLE, Int.reduceNeg, h, x1, x2, m1, m2, m3, m4, m5, l1, l3, l3', List.filter_replicate, List.all_replicate, ite_self, if_true]
def txB (x : ByteArray) : Nat → List Bool
  | 0 => []
  | i + 1 => txB x i ++ bits 8 ((x.data[i]?).getD 0).toNat
theorem txB_len (x : ByteArray) : ∀ i, (txB x i).length = 8 * i
  | 0 => rfl
  | i + 1 => by simp only [txB, List.length_append, txB_len x i, bits_len]; omega
theorem s229 (n : Nat) (x : ByteArray) (hx : x.size ≤ 127) (hb : bs.length ≤ 1000) :
    call1 T (n + 4) (.fn 229) [.ptr 1 0 0 0, .int .i64 127, .str x] (wH b0 bs tl es) = some (.tup [], wH b0 (bs ++ bits 7 x.size ++ txB x x.size) tl (es ++ ek bs (7 + 8 * x.size))) := by
  refine call_in e229 (by rfl) ?_
  have h101 := fun H => s239 (n + 2) H 127
  have h102 := fun H => s240 n H
  have x1 : decide ((127 : Int) < (x.size : Int)) = false := decide_eq_false (by omega)
  have w1 : w64 ((bs.length : Int) + 7) = (bs.length : Int) + 7 := w64_id (by omega) (by omega)
  have w2 : w64 (8 * (x.size : Int)) = 8 * (x.size : Int) := w64_id (by omega) (by omega)
  have w3 : w64 ((bs.length : Int) + 7 + 8 * (x.size : Int)) = (bs.length : Int) + 7 + 8 * (x.size : Int) := w64_id (by omega) (by omega)
  have x2 : decide ((524288 : Int) < (bs.length : Int) + 7 + 8 * (x.size : Int)) = false := decide_eq_false (by omega)
  have hu : IntKind.u64.wrap (x.size : Int) = (x.size : Nat) := wrapU64 (by omega) (by omega)
  have h103 : ∀ es, call1 T (n + 3) (.fn 241) [.ptr 1 0 0 0, .int .i64 7, .int .u64 x.size] (wH b0 bs tl es) = some (.tup [], wH b0 (bs ++ bits 7 x.size) tl (es ++ ek bs 7)) := fun es => s241 (n + 2) b0 tl es bs 7 x.size (by omega) (by omega) (by omega)
  have l0 : decide (0 < tl.length + 1 + 1 + 1) = true := decide_eq_true (by omega)
  have l1 : decide (1 < tl.length + 1 + 1 + 1) = true := decide_eq_true (by omega)
  have l2 : decide (2 < tl.length + 1 + 1 + 1) = true := decide_eq_true (by omega)
  have l3' : decide (tl.length + 1 + 1 + 1 < 3) = false := decide_eq_false (by omega)
  have l3 : decide (3 ≤ tl.length + 1 + 1 + 1) = true := decide_eq_true (by omega)
  have hN : decide (max 2 0 ≤ tl.length + 1 + 1 + 1) = true := decide_eq_true (by omega)
  simp only [c229, go_sem, Int.reduceToNat, Nat.reduceAdd, Nat.reduceBEq, Nat.reduceLeDiff, Nat.reduceLT, Nat.reduceMul, Nat.reduceSub, Int.reduceEq, Int.reduceLT, Int.reduceLE, Int.reduceNeg, h101, h102, x1, w1, w2, w3, x2, hu, h103, l0, l1, l2, l3, l3', List.filter_replicate, List.all_replicate, ite_self, if_true]
  have hP : (bs ++ bits 7 x.size).length = bs.length + 7 := by rw [List.length_append, bits_len]
  obtain ⟨P, hPd⟩ : ∃ P, bs ++ bits 7 x.size = P := ⟨_, rfl⟩
  rw [hPd] at hP ⊢
  rw [← ek_add (bs' := P) (by omega), ← List.append_assoc]
  have hx2 : x.size ≤ maxLen := Nat.le_trans hx (by decide)
  refine loop_rule (fun i => ([(0, .ptr 1 0 0 0), (2, .str x), (15, .int .i64 x.size), (16, .int .i64 i)], ⟨b0 :: wB (P ++ txB x i) :: wA (P ++ txB x i) :: tl, ek P (8 * i), 0⟩)) (fun _ => True) x.size ?_ trivial ?_
  · simp only [go_sem, Int.reduceToNat, Nat.reduceAdd, Nat.reduceBEq, Nat.reduceLeDiff, Nat.reduceLT, Nat.reduceMul, Nat.reduceSub, Int.reduceEq, Int.reduceLT, Int.reduceLE, Int.reduceNeg, hN, l0, l1, l2, l3, l3', txB, List.append_nil, Nat.mul_zero, Nat.add_zero, Nat.sub_self, List.replicate_zero]
    rw [show ek P 0 = [] by simp [ek]]
  · intro i hi _
    rcases Nat.lt_or_ge i x.size with hlt | hge
    · have hs := w64_suc hlt hx2
      have hd : x.data[i]? = some x.data[i] := Array.getElem?_eq_getElem (by exact hlt)
      have hv := UInt8.toNat_lt x.data[i]
      have hu8 : IntKind.u64.wrap ((x.data[i].toNat : Nat) : Int) = (x.data[i].toNat : Nat) := wrapU64 (by omega) (by omega)
      have h1 : ∀ es, call1 T (n + 3) (.fn 241) [.ptr 1 0 0 0, .int .i64 8, .int .u64 (x.data[i].toNat : Nat)] (wH b0 (P ++ txB x i) tl es) = some (.tup [], wH b0 (P ++ txB x i ++ bits 8 x.data[i].toNat) tl (es ++ ek (P ++ txB x i) 8)) :=
        fun es => s241 (n + 2) b0 tl es (P ++ txB x i) 8 x.data[i].toNat (by omega) (by omega) (by rw [List.length_append, txB_len]; omega)
      have hB : P ++ txB x i ++ bits 8 x.data[i].toNat = P ++ txB x (i + 1) := by simp only [txB, hd, Option.getD_some, List.append_assoc]
      have hE : ek P (8 * i) ++ ek (P ++ txB x i) 8 = ek P (8 * (i + 1)) := by rw [ek_add (by rw [List.length_append, txB_len])]; rfl
      rw [hB] at h1
      simp only [go_sem, Int.reduceToNat, Nat.reduceAdd, Nat.reduceBEq, Nat.reduceLeDiff, Nat.reduceLT, Nat.reduceMul, Nat.reduceSub, Int.reduceEq, Int.reduceLT, Int.reduceLE, Int.reduceNeg, hlt, hd, hu8, h1, hE, hs, hN, l0, l1, l2, l3, l3', List.filter_replicate, List.all_replicate, ite_self, if_true]
      refine ⟨by first | trivial | omega, by first | trivial | rfl, trivial⟩
    · obtain rfl : i = x.size := by omega
      have hd : decide (x.size < x.size) = false := decide_eq_false (by omega)
      simp only [go_sem, Int.reduceToNat, Nat.reduceAdd, Nat.reduceBEq, Nat.reduceLeDiff, Nat.reduceLT, Nat.reduceMul, Nat.reduceSub, Int.reduceEq, Int.reduceLT, Int.reduceLE, Int.reduceNeg, hd, hN, l0, l1, l2, l3, l3', List.filter_replicate, List.all_replicate, List.filter_append, List.all_append, ite_self, if_true, Bool.and_self, List.append_assoc]
end
end C13
end Go.Sh
namespace Go.Sh
set_option linter.unusedSectionVars false
set_option linter.unnecessarySimpa false
set_option linter.unusedVariables false
set_option linter.unusedSimpArgs false
set_option maxRecDepth 100000
set_option maxHeartbeats 4000000
namespace C13
abbrev pW : SV := .agg [.ptr 1 0 0 0, .nilPtr]
section
variable (n : Nat) (cs : List SV) (t1 t2 t3 : SBlk) (es : List (Nat × Nat)) (bs : List Bool)
theorem s61a (w v j : Nat) (hj : cs[j]? = some (.int .i64 v)) (h1 : 1 ≤ w) (hw : w ≤ 62) (hv : v < 2 ^ w) (hb : bs.length + w ≤ 524288) :
    call1 T (n + 4) (.fn 201) [pW, .int .i64 w, .ptr 0 0 0 j] (wH (.box cs) bs [t1, t2] es) = some (.tup [], wH (.box cs) (bs ++ bits w v) [t1, t2] (es ++ ek bs w)) := by
  refine call_in e201 (by rfl) ?_
  have h := fun t es => s218 (.box cs) [t1, t2, t] es bs n w v h1 hw hv hb
  simp only [c201, go_sem, Int.reduceToNat, Nat.reduceAdd, Nat.reduceBEq, Nat.reduceLeDiff, Nat.reduceLT, Nat.reduceMul, Nat.reduceSub, Int.reduceEq, Int.reduceLT, Int.reduceLE, Int.reduceNeg, h, hj, List.length_cons, List.length_nil, List.filter_replicate, List.all_replicate, ite_self, if_true]
theorem s61b (w v j : Nat) (hj : cs[j]? = some (.int .i64 v)) (h1 : 1 ≤ w) (hw : w ≤ 62) (hv : v < 2 ^ w) (hb : bs.length + w ≤ 524288) :
    call1 T (n + 4) (.fn 201) [pW, .int .i64 w, .ptr 0 0 0 j] (wH (.box cs) bs [t1, t2, t3] es) = some (.tup [], wH (.box cs) (bs ++ bits w v) [t1, t2, t3] (es ++ ek bs w)) := by
  refine call_in e201 (by rfl) ?_
  have h := fun t es => s218 (.box cs) [t1, t2, t3, t] es bs n w v h1 hw hv hb
  simp only [c201, go_sem, Int.reduceToNat, Nat.reduceAdd, Nat.reduceBEq, Nat.reduceLeDiff, Nat.reduceLT, Nat.reduceMul, Nat.reduceSub, Int.reduceEq, Int.reduceLT, Int.reduceLE, Int.reduceNeg, h, hj, List.length_cons, List.length_nil, List.filter_replicate, List.all_replicate, List.filter_append, List.all_append, Bool.and_self, List.append_assoc, ite_self, if_true]
theorem s215 (x : ByteArray) (j : Nat) (hj : cs[j]? = some (.str x)) (hx : x.size ≤ 127) (hb : bs.length ≤ 1000) :
    call1 T (n + 5) (.fn 215) [pW, .ptr 0 0 0 j] (wH (.box cs) bs [t1, t2, t3] es) = some (.tup [], wH (.box cs) (bs ++ bits 7 x.size ++ txB x x.size) [t1, t2, t3] (es ++ ek bs (7 + 8 * x.size))) := by
  refine call_in e215 (by rfl) ?_
  have h := fun t es => s229 (.box cs) [t1, t2, t3, t] es bs n x hx hb
  simp only [c215, go_sem, Int.reduceToNat, Nat.reduceAdd, Nat.reduceBEq, Nat.reduceLeDiff, Nat.reduceLT, Nat.reduceMul, Nat.reduceSub, Int.reduceEq, Int.reduceLT, Int.reduceLE, Int.reduceNeg, h, hj, List.length_cons, List.length_nil, List.filter_replicate, List.all_replicate, List.filter_append, List.all_append, Bool.and_self, List.append_assoc, ite_self, if_true]
def tgBits (d : Int) : List Bool := bits 1 (bt (decide (0 ≤ d))) ++ bif decide (0 ≤ d) then bits 5 d.toNat else []
def tgLen (d : Int) : Nat := 1 + bif decide (0 ≤ d) then 5 else 0
theorem tgLen_eq (d : Int) : (tgBits d).length = tgLen d := by
  unfold tgBits tgLen; cases decide (0 ≤ d) <;> simp [bits_len]
section
variable (k s d q o c m e t u v : Int) (x : ByteArray)
theorem s202 (hd : d < 32) (hd0 : d < 0 → d = -1) (hb : bs.length ≤ 1000) :
    call1 T (n + 6) (.fn 202) [pW, .ptr 0 0 0 2] (wH (SBlk.box (fr k s d q o c m e t u v x)) bs [t1, t2] es) = some (.tup [], wH (SBlk.box (fr k s d q o c m e t u v x)) (bs ++ tgBits d) [t1, t2] (es ++ ek bs (tgLen d))) := by
  refine call_in e202 (by rfl) ?_
  have h87 := fun tt es f => s220 (SBlk.box (fr k s d q o c m e t u v x)) [t1, t2, tt] es bs (n + 2) f (by omega)
  cases hf : decide (0 ≤ d) with
  | false =>
    have h87 := fun tt es => h87 tt es false
    have hd1 : d = -1 := by simp only [decide_eq_false_iff_not] at hf; omega
    subst hd1
    simp only [c202, go_sem, Int.reduceToNat, Nat.reduceAdd, Nat.reduceBEq, Nat.reduceLeDiff, Nat.reduceLT, Nat.reduceMul, Nat.reduceSub, Int.reduceEq, Int.reduceLT, Int.reduceLE, Int.reduceNeg, h87, hf, tgBits, tgLen, List.length_cons, List.length_nil, List.filter_replicate, List.all_replicate, List.filter_append, List.all_append, Bool.and_self, List.append_assoc, ite_self, if_true]
  | true =>
    have h87 := fun tt es => h87 tt es true
    simp only [decide_eq_true_eq] at hf
    have h61 : ∀ tt es, call1 T (n + 5) (.fn 201) [pW, .int .i64 5, .ptr 0 0 0 2] (wH (SBlk.box (fr k s d q o c m e t u v x)) (bs ++ bits 1 (bt true)) [t1, t2, tt] es) = some (.tup [], wH (SBlk.box (fr k s d q o c m e t u v x)) (bs ++ bits 1 (bt true) ++ bits 5 d.toNat) [t1, t2, tt] (es ++ ek (bs ++ bits 1 (bt true)) 5)) :=
      fun t' es => s61b (n + 1) _ t1 t2 t' es (bs ++ bits 1 (bt true)) 5 d.toNat 2 (by rw [Int.toNat_of_nonneg hf]; rfl) (by omega) (by omega) (by omega) (by rw [List.length_append, bits_len]; omega)
    have hf2 : decide (0 ≤ d) = true := decide_eq_true hf
    have hk : ek bs 6 = ek bs 1 ++ ek (bs ++ bits 1 (bt true)) 5 := (ek_add (bs := bs) (bs' := bs ++ bits 1 (bt true)) (a := 1) (b := 5) (by rw [List.length_append, bits_len])).symm
    simp only [c202, go_sem, Int.reduceToNat, Nat.reduceAdd, Nat.reduceBEq, Nat.reduceLeDiff, Nat.reduceLT, Nat.reduceMul, Nat.reduceSub, Int.reduceEq, Int.reduceLT, Int.reduceLE, Int.reduceNeg, h87, h61, hf2, tgBits, tgLen, hk, List.length_cons, List.length_nil, List.filter_replicate, List.all_replicate, List.filter_append, List.all_append, Bool.and_self, List.append_assoc, ite_self, if_true]
theorem s197 (hc : 0 ≤ c ∧ c ≤ 255) (hm : 0 ≤ m ∧ m ≤ 65535) (hx : x.size ≤ 127) (hb : bs.length ≤ 900) :
    call1 T (n + 6) (.fn 197) [pW, .ptr 0 0 0 0] (wH (SBlk.box (fr k s d q o c m e t u v x)) bs [t1, t2] es) = some (.tup [], wH (SBlk.box (fr k s d q o c m e t u v x)) (bs ++ (bits 8 c.toNat ++ (bits 16 m.toNat ++ (bits 7 x.size ++ (txB x x.size))))) [t1, t2] (es ++ ek bs (24 + (7 + 8 * x.size)))) := by
  refine call_in e197 (by rfl) ?_
  have h0 : ∀ t' es, call1 T (n + 5) (.fn 201) [pW, .int .i64 8, .ptr 0 0 0 5] (wH (SBlk.box (fr k s d q o c m e t u v x)) bs [t1, t2, t'] es) = some (.tup [], wH (SBlk.box (fr k s d q o c m e t u v x)) (bs ++ (bits 8 c.toNat)) [t1, t2, t'] (es ++ ek bs 8)) := fun t' es => by
    have := s61b (n + 1) _ t1 t2 t' es bs 8 c.toNat 5 (show (fr k s d q o c m e t u v x)[5]? = _ by rw [Int.toNat_of_nonneg hc.1]; rfl) (by omega) (by omega) (by omega) (by omega)
    try simp only [List.append_assoc] at this
    exact this
  have l0 : (bs ++ (bits 8 c.toNat)).length = bs.length + 8 := by simp only [List.length_append, bits_len] <;> omega
  have h1 : ∀ t' es, call1 T (n + 5) (.fn 201) [pW, .int .i64 16, .ptr 0 0 0 6] (wH (SBlk.box (fr k s d q o c m e t u v x)) (bs ++ (bits 8 c.toNat)) [t1, t2, t'] es) = some (.tup [], wH (SBlk.box (fr k s d q o c m e t u v x)) (bs ++ (bits 8 c.toNat ++ (bits 16 m.toNat))) [t1, t2, t'] (es ++ ek (bs ++ (bits 8 c.toNat)) 16)) := fun t' es => by
    have := s61b (n + 1) _ t1 t2 t' es (bs ++ (bits 8 c.toNat)) 16 m.toNat 6 (show (fr k s d q o c m e t u v x)[6]? = _ by rw [Int.toNat_of_nonneg hm.1]; rfl) (by omega) (by omega) (by omega) (by rw [l0]; omega)
    try simp only [List.append_assoc] at this
    exact this
  have l1 : (bs ++ (bits 8 c.toNat ++ (bits 16 m.toNat))).length = bs.length + 24 := by simp only [List.length_append, bits_len] <;> omega
  have ht : ∀ t' es, call1 T (n + 5) (.fn 215) [pW, .ptr 0 0 0 11] (wH (SBlk.box (fr k s d q o c m e t u v x)) (bs ++ (bits 8 c.toNat ++ (bits 16 m.toNat))) [t1, t2, t'] es) = some (.tup [], wH (SBlk.box (fr k s d q o c m e t u v x)) (bs ++ (bits 8 c.toNat ++ (bits 16 m.toNat ++ (bits 7 x.size ++ (txB x x.size))))) [t1, t2, t'] (es ++ ek (bs ++ (bits 8 c.toNat ++ (bits 16 m.toNat))) (7 + 8 * x.size))) := fun t' es => by
    have := s215 n _ t1 t2 t' es (bs ++ (bits 8 c.toNat ++ (bits 16 m.toNat))) x 11 (show (fr k s d q o c m e t u v x)[11]? = some (.str x) from rfl) hx (by rw [l1]; omega)
    try simp only [List.append_assoc] at this
    exact this
  have hk : ek bs (24 + (7 + 8 * x.size)) = ek bs 8 ++ ek (bs ++ (bits 8 c.toNat)) 16 ++ ek (bs ++ (bits 8 c.toNat ++ (bits 16 m.toNat))) (7 + 8 * x.size) := by rw [ek_add l0, ek_add l1]
  simp only [List.append_assoc] at hk
  rw [hk]
  simp only [c197, go_sem, Int.reduceToNat, Nat.reduceAdd, Nat.reduceBEq, Nat.reduceLeDiff, Nat.reduceLT, Nat.reduceMul, Nat.reduceSub, Int.reduceEq, Int.reduceLT, Int.reduceLE, Int.reduceNeg, h0, h1, ht, List.length_cons, List.length_nil, List.filter_replicate, List.all_replicate, List.filter_append, List.all_append, Bool.and_self, List.append_assoc, ite_self, if_true]
theorem s199 (ht : 0 ≤ t ∧ t ≤ 109951162) (hu : 0 ≤ u ∧ u ≤ 65535) (hv : 0 ≤ v ∧ v ≤ 65535) (hx : x.size ≤ 127) (hb : bs.length ≤ 900) :
    call1 T (n + 6) (.fn 199) [pW, .ptr 0 0 0 0] (wH (SBlk.box (fr k s d q o c m e t u v x)) bs [t1, t2] es) = some (.tup [], wH (SBlk.box (fr k s d q o c m e t u v x)) (bs ++ (bits 27 t.toNat ++ (bits 16 u.toNat ++ (bits 16 v.toNat ++ (bits 7 x.size ++ (txB x x.size)))))) [t1, t2] (es ++ ek bs (59 + (7 + 8 * x.size)))) := by
  refine call_in e199 (by rfl) ?_
  have h0 : ∀ t' es, call1 T (n + 5) (.fn 201) [pW, .int .i64 27, .ptr 0 0 0 8] (wH (SBlk.box (fr k s d q o c m e t u v x)) bs [t1, t2, t'] es) = some (.tup [], wH (SBlk.box (fr k s d q o c m e t u v x)) (bs ++ (bits 27 t.toNat)) [t1, t2, t'] (es ++ ek bs 27)) := fun t' es => by
    have := s61b (n + 1) _ t1 t2 t' es bs 27 t.toNat 8 (show (fr k s d q o c m e t u v x)[8]? = _ by rw [Int.toNat_of_nonneg ht.1]; rfl) (by omega) (by omega) (by omega) (by omega)
    try simp only [List.append_assoc] at this
    exact this
  have l0 : (bs ++ (bits 27 t.toNat)).length = bs.length + 27 := by simp only [List.length_append, bits_len] <;> omega
  have h1 : ∀ t' es, call1 T (n + 5) (.fn 201) [pW, .int .i64 16, .ptr 0 0 0 9] (wH (SBlk.box (fr k s d q o c m e t u v x)) (bs ++ (bits 27 t.toNat)) [t1, t2, t'] es) = some (.tup [], wH (SBlk.box (fr k s d q o c m e t u v x)) (bs ++ (bits 27 t.toNat ++ (bits 16 u.toNat))) [t1, t2, t'] (es ++ ek (bs ++ (bits 27 t.toNat)) 16)) := fun t' es => by
    have := s61b (n + 1) _ t1 t2 t' es (bs ++ (bits 27 t.toNat)) 16 u.toNat 9 (show (fr k s d q o c m e t u v x)[9]? = _ by rw [Int.toNat_of_nonneg hu.1]; rfl) (by omega) (by omega) (by omega) (by rw [l0]; omega)
    try simp only [List.append_assoc] at this
    exact this
  have l1 : (bs ++ (bits 27 t.toNat ++ (bits 16 u.toNat))).length = bs.length + 43 := by simp only [List.length_append, bits_len] <;> omega
  have h2 : ∀ t' es, call1 T (n + 5) (.fn 201) [pW, .int .i64 16, .ptr 0 0 0 10] (wH (SBlk.box (fr k s d q o c m e t u v x)) (bs ++ (bits 27 t.toNat ++ (bits 16 u.toNat))) [t1, t2, t'] es) = some (.tup [], wH (SBlk.box (fr k s d q o c m e t u v x)) (bs ++ (bits 27 t.toNat ++ (bits 16 u.toNat ++ (bits 16 v.toNat)))) [t1, t2, t'] (es ++ ek (bs ++ (bits 27 t.toNat ++ (bits 16 u.toNat))) 16)) := fun t' es => by
    have := s61b (n + 1) _ t1 t2 t' es (bs ++ (bits 27 t.toNat ++ (bits 16 u.toNat))) 16 v.toNat 10 (show (fr k s d q o c m e t u v x)[10]? = _ by rw [Int.toNat_of_nonneg hv.1]; rfl) (by omega) (by omega) (by omega) (by rw [l1]; omega)
    try simp only [List.append_assoc] at this
    exact this
  have l2 : (bs ++ (bits 27 t.toNat ++ (bits 16 u.toNat ++ (bits 16 v.toNat)))).length = bs.length + 59 := by simp only [List.length_append, bits_len] <;> omega
  have hT : ∀ t' es, call1 T (n + 5) (.fn 215) [pW, .ptr 0 0 0 11] (wH (SBlk.box (fr k s d q o c m e t u v x)) (bs ++ (bits 27 t.toNat ++ (bits 16 u.toNat ++ (bits 16 v.toNat)))) [t1, t2, t'] es) = some (.tup [], wH (SBlk.box (fr k s d q o c m e t u v x)) (bs ++ (bits 27 t.toNat ++ (bits 16 u.toNat ++ (bits 16 v.toNat ++ (bits 7 x.size ++ (txB x x.size)))))) [t1, t2, t'] (es ++ ek (bs ++ (bits 27 t.toNat ++ (bits 16 u.toNat ++ (bits 16 v.toNat)))) (7 + 8 * x.size))) := fun t' es => by
    have := s215 n _ t1 t2 t' es (bs ++ (bits 27 t.toNat ++ (bits 16 u.toNat ++ (bits 16 v.toNat)))) x 11 (show (fr k s d q o c m e t u v x)[11]? = some (.str x) from rfl) hx (by rw [l2]; omega)
    try simp only [List.append_assoc] at this
    exact this
  have hk : ek bs (59 + (7 + 8 * x.size)) = ek bs 27 ++ ek (bs ++ (bits 27 t.toNat)) 16 ++ ek (bs ++ (bits 27 t.toNat ++ (bits 16 u.toNat))) 16 ++ ek (bs ++ (bits 27 t.toNat ++ (bits 16 u.toNat ++ (bits 16 v.toNat)))) (7 + 8 * x.size) := by rw [ek_add l0, ek_add l1, ek_add l2]
  simp only [List.append_assoc] at hk
  rw [hk]
  simp only [c199, go_sem, Int.reduceToNat, Nat.reduceAdd, Nat.reduceBEq, Nat.reduceLeDiff, Nat.reduceLT, Nat.reduceMul, Nat.reduceSub, Int.reduceEq, Int.reduceLT, Int.reduceLE, Int.reduceNeg, h0, h1, h2, hT, List.length_cons, List.length_nil, List.filter_replicate, List.all_replicate, List.filter_append, List.all_append, Bool.and_self, List.append_assoc, ite_self, if_true]
theorem s200 (hx : x.size ≤ 127) (hb : bs.length ≤ 900) :
    call1 T (n + 6) (.fn 200) [pW, .ptr 0 0 0 0] (wH (SBlk.box (fr k s d q o c m e t u v x)) bs [t1, t2] es) = some (.tup [], wH (SBlk.box (fr k s d q o c m e t u v x)) (bs ++ (bits 7 x.size ++ (txB x x.size))) [t1, t2] (es ++ ek bs (7 + 8 * x.size))) := by
  refine call_in e200 (by rfl) ?_
  have ht : ∀ t' es, call1 T (n + 5) (.fn 215) [pW, .ptr 0 0 0 11] (wH (SBlk.box (fr k s d q o c m e t u v x)) bs [t1, t2, t'] es) = some (.tup [], wH (SBlk.box (fr k s d q o c m e t u v x)) (bs ++ (bits 7 x.size ++ (txB x x.size))) [t1, t2, t'] (es ++ ek bs (7 + 8 * x.size))) := fun t' es => by
    have := s215 n _ t1 t2 t' es bs x 11 (show (fr k s d q o c m e t u v x)[11]? = some (.str x) from rfl) hx (by omega)
    try simp only [List.append_assoc] at this
    exact this
  simp only [c200, go_sem, Int.reduceToNat, Nat.reduceAdd, Nat.reduceBEq, Nat.reduceLeDiff, Nat.reduceLT, Nat.reduceMul, Nat.reduceSub, Int.reduceEq, Int.reduceLT, Int.reduceLE, Int.reduceNeg, ht, List.length_cons, List.length_nil, List.filter_replicate, List.all_replicate, List.filter_append, List.all_append, Bool.and_self, List.append_assoc, ite_self, if_true]
theorem s198 (h0 : -32768 ≤ e) (h1 : e ≤ 32767) (hb : bs.length ≤ 900) :
    call1 T (n + 4) (.fn 198) [pW, .ptr 0 0 0 0] (wH (SBlk.box (fr k s d q o c m e t u v x)) bs [t1, t2] es) = some (.tup [], wH (SBlk.box (fr k s d q o c m e t u v x)) (bs ++ bits 16 (sgN e)) [t1, t2] (es ++ ek bs 16)) := by
  refine call_in e198 (by rfl) ?_
  have h := fun t' es => s216 (SBlk.box (fr k s d q o c m e t u v x)) [t1, t2, t'] es bs n e h0 h1 (by omega)
  simp only [c198, go_sem, Int.reduceToNat, Nat.reduceAdd, Nat.reduceBEq, Nat.reduceLeDiff, Nat.reduceLT, Nat.reduceMul, Nat.reduceSub, Int.reduceEq, Int.reduceLT, Int.reduceLE, Int.reduceNeg, h, List.length_cons, List.length_nil, List.filter_replicate, List.all_replicate, List.filter_append, List.all_append, Bool.and_self, List.append_assoc, ite_self, if_true]
end
end
end C13
end Go.Sh
namespace Go.Sh
set_option linter.unusedSectionVars false
set_option linter.unnecessarySimpa false
set_option linter.unusedVariables false
set_option linter.unusedSimpArgs false
set_option maxRecDepth 100000
set_option maxHeartbeats 4000000
namespace C13
theorem tgLe (d : Int) : tgLen d ≤ 6 := by unfold tgLen; cases decide (0 ≤ d) <;> simp
section
variable (n : Nat) (es : List (Nat × Nat)) (bs : List Bool)
theorem s27_1 (s d q o c m e t u v : Int) (x : ByteArray) (hs : 0 ≤ s ∧ s ≤ 31) (hd : d < 32) (hd0 : d < 0 → d = -1) (hq : 0 ≤ q ∧ q ≤ 255) (ho : 0 ≤ o ∧ o ≤ 255) (hc : 0 ≤ c ∧ c ≤ 255) (hm : 0 ≤ m ∧ m ≤ 65535) (hx : x.size ≤ 127) (hb : bs.length ≤ 100) :
    call1 T (n + 7) (.fn 176) [pW, .ptr 0 0 0 0] (wH (.box (fr 1 s d q o c m e t u v x)) bs [] es) = some (.bool true, wH (.box (fr 1 s d q o c m e t u v x)) (bs ++ (bits 3 1 ++ (bits 5 s.toNat ++ (tgBits d ++ (bits 8 q.toNat ++ (bits 8 o.toNat ++ (bits 8 c.toNat ++ (bits 16 m.toNat ++ (bits 7 x.size ++ (txB x x.size)))))))))) [] (es ++ ek bs ((24 + tgLen d) + (24 + (7 + 8 * x.size))))) := by
  refine call_in e176 (by rfl) ?_
  have h0 : ∀ t1 t2 es, call1 T (n + 6) (.fn 201) [pW, .int .i64 3, .ptr 0 0 0 0] (wH (.box (fr 1 s d q o c m e t u v x)) bs [t1, t2] es) = some (.tup [], wH (.box (fr 1 s d q o c m e t u v x)) (bs ++ (bits 3 1)) [t1, t2] (es ++ ek bs 3)) := fun t1 t2 es => by
    have := s61a (n + 2) (fr 1 s d q o c m e t u v x) t1 t2 es bs 3 1 0 rfl (by omega) (by omega) (by omega) (by omega)
    try simp only [List.append_assoc] at this
    exact this
  have l0 : (bs ++ (bits 3 1)).length = bs.length + (3) := by simp only [List.length_append, bits_len, tgLen_eq] <;> omega
  have h1 : ∀ t1 t2 es, call1 T (n + 6) (.fn 201) [pW, .int .i64 5, .ptr 0 0 0 1] (wH (.box (fr 1 s d q o c m e t u v x)) (bs ++ (bits 3 1)) [t1, t2] es) = some (.tup [], wH (.box (fr 1 s d q o c m e t u v x)) (bs ++ (bits 3 1 ++ (bits 5 s.toNat))) [t1, t2] (es ++ ek (bs ++ (bits 3 1)) 5)) := fun t1 t2 es => by
    have := s61a (n + 2) (fr 1 s d q o c m e t u v x) t1 t2 es (bs ++ (bits 3 1)) 5 s.toNat 1 (show (fr 1 s d q o c m e t u v x)[1]? = _ by rw [Int.toNat_of_nonneg hs.1]; rfl) (by omega) (by omega) (by omega) (by have := tgLe d; rw [l0]; omega)
    try simp only [List.append_assoc] at this
    exact this
  have l1 : (bs ++ (bits 3 1 ++ (bits 5 s.toNat))).length = bs.length + (8) := by simp only [List.length_append, bits_len, tgLen_eq] <;> omega
  have h2 : ∀ t1 t2 es, call1 T (n + 6) (.fn 202) [pW, .ptr 0 0 0 2] (wH (.box (fr 1 s d q o c m e t u v x)) (bs ++ (bits 3 1 ++ (bits 5 s.toNat))) [t1, t2] es) = some (.tup [], wH (.box (fr 1 s d q o c m e t u v x)) (bs ++ (bits 3 1 ++ (bits 5 s.toNat ++ (tgBits d)))) [t1, t2] (es ++ ek (bs ++ (bits 3 1 ++ (bits 5 s.toNat))) (tgLen d))) := fun t1 t2 es => by
    have := s202 n t1 t2 es (bs ++ (bits 3 1 ++ (bits 5 s.toNat))) 1 s d q o c m e t u v x hd hd0 (by rw [l1]; omega)
    try simp only [List.append_assoc] at this
    exact this
  have l2 : (bs ++ (bits 3 1 ++ (bits 5 s.toNat ++ (tgBits d)))).length = bs.length + (8 + tgLen d) := by simp only [List.length_append, bits_len, tgLen_eq] <;> omega
  have h3 : ∀ t1 t2 es, call1 T (n + 6) (.fn 201) [pW, .int .i64 8, .ptr 0 0 0 3] (wH (.box (fr 1 s d q o c m e t u v x)) (bs ++ (bits 3 1 ++ (bits 5 s.toNat ++ (tgBits d)))) [t1, t2] es) = some (.tup [], wH (.box (fr 1 s d q o c m e t u v x)) (bs ++ (bits 3 1 ++ (bits 5 s.toNat ++ (tgBits d ++ (bits 8 q.toNat))))) [t1, t2] (es ++ ek (bs ++ (bits 3 1 ++ (bits 5 s.toNat ++ (tgBits d)))) 8)) := fun t1 t2 es => by
    have := s61a (n + 2) (fr 1 s d q o c m e t u v x) t1 t2 es (bs ++ (bits 3 1 ++ (bits 5 s.toNat ++ (tgBits d)))) 8 q.toNat 3 (show (fr 1 s d q o c m e t u v x)[3]? = _ by rw [Int.toNat_of_nonneg hq.1]; rfl) (by omega) (by omega) (by omega) (by have := tgLe d; rw [l2]; omega)
    try simp only [List.append_assoc] at this
    exact this
  have l3 : (bs ++ (bits 3 1 ++ (bits 5 s.toNat ++ (tgBits d ++ (bits 8 q.toNat))))).length = bs.length + (16 + tgLen d) := by simp only [List.length_append, bits_len, tgLen_eq] <;> omega
  have h4 : ∀ t1 t2 es, call1 T (n + 6) (.fn 201) [pW, .int .i64 8, .ptr 0 0 0 4] (wH (.box (fr 1 s d q o c m e t u v x)) (bs ++ (bits 3 1 ++ (bits 5 s.toNat ++ (tgBits d ++ (bits 8 q.toNat))))) [t1, t2] es) = some (.tup [], wH (.box (fr 1 s d q o c m e t u v x)) (bs ++ (bits 3 1 ++ (bits 5 s.toNat ++ (tgBits d ++ (bits 8 q.toNat ++ (bits 8 o.toNat)))))) [t1, t2] (es ++ ek (bs ++ (bits 3 1 ++ (bits 5 s.toNat ++ (tgBits d ++ (bits 8 q.toNat))))) 8)) := fun t1 t2 es => by
    have := s61a (n + 2) (fr 1 s d q o c m e t u v x) t1 t2 es (bs ++ (bits 3 1 ++ (bits 5 s.toNat ++ (tgBits d ++ (bits 8 q.toNat))))) 8 o.toNat 4 (show (fr 1 s d q o c m e t u v x)[4]? = _ by rw [Int.toNat_of_nonneg ho.1]; rfl) (by omega) (by omega) (by omega) (by have := tgLe d; rw [l3]; omega)
    try simp only [List.append_assoc] at this
    exact this
  have l4 : (bs ++ (bits 3 1 ++ (bits 5 s.toNat ++ (tgBits d ++ (bits 8 q.toNat ++ (bits 8 o.toNat)))))).length = bs.length + (24 + tgLen d) := by simp only [List.length_append, bits_len, tgLen_eq] <;> omega
  have hb1 : ∀ t1 t2 es, call1 T (n + 6) (.fn 197) [pW, .ptr 0 0 0 0] (wH (.box (fr 1 s d q o c m e t u v x)) (bs ++ (bits 3 1 ++ (bits 5 s.toNat ++ (tgBits d ++ (bits 8 q.toNat ++ (bits 8 o.toNat)))))) [t1, t2] es) = some (.tup [], wH (.box (fr 1 s d q o c m e t u v x)) (bs ++ (bits 3 1 ++ (bits 5 s.toNat ++ (tgBits d ++ (bits 8 q.toNat ++ (bits 8 o.toNat ++ (bits 8 c.toNat ++ (bits 16 m.toNat ++ (bits 7 x.size ++ (txB x x.size)))))))))) [t1, t2] (es ++ ek (bs ++ (bits 3 1 ++ (bits 5 s.toNat ++ (tgBits d ++ (bits 8 q.toNat ++ (bits 8 o.toNat)))))) (24 + (7 + 8 * x.size)))) := fun t1 t2 es => by
    have := s197 n t1 t2 es (bs ++ (bits 3 1 ++ (bits 5 s.toNat ++ (tgBits d ++ (bits 8 q.toNat ++ (bits 8 o.toNat)))))) 1 s d q o c m e t u v x hc hm hx (by have := tgLe d; rw [l4]; omega)
    try simp only [List.append_assoc] at this
    exact this
  have hk : ek bs ((24 + tgLen d) + (24 + (7 + 8 * x.size))) = ek bs 3 ++ ek (bs ++ (bits 3 1)) 5 ++ ek (bs ++ (bits 3 1 ++ (bits 5 s.toNat))) (tgLen d) ++ ek (bs ++ (bits 3 1 ++ (bits 5 s.toNat ++ (tgBits d)))) 8 ++ ek (bs ++ (bits 3 1 ++ (bits 5 s.toNat ++ (tgBits d ++ (bits 8 q.toNat))))) 8 ++ ek (bs ++ (bits 3 1 ++ (bits 5 s.toNat ++ (tgBits d ++ (bits 8 q.toNat ++ (bits 8 o.toNat)))))) (24 + (7 + 8 * x.size)) := by
    rw [ek_add (bs := bs) (a := 3) l0, ek_add (a := 3 + 5) (by rw [l1]), ek_add (a := 3 + 5 + tgLen d) (by rw [l2]), ek_add (a := 3 + 5 + tgLen d + 8) (by rw [l3]; omega), ek_add (a := 3 + 5 + tgLen d + 8 + 8) (by rw [l4]; omega)]
    congr 1; omega
  simp only [List.append_assoc] at hk
  rw [hk]
  simp only [c176, go_sem, Int.reduceToNat, Nat.reduceAdd, Nat.reduceBEq, Nat.reduceLeDiff, Nat.reduceLT, Nat.reduceMul, Nat.reduceSub, Int.reduceEq, Int.reduceLT, Int.reduceLE, Int.reduceNeg, h0, h1, h2, h3, h4, hb1, List.length_cons, List.length_nil, List.filter_replicate, List.all_replicate, List.filter_append, List.all_append, Bool.and_self, List.append_assoc, ite_self, if_true]
theorem s27_2 (s d q o c m e t u v : Int) (x : ByteArray) (hs : 0 ≤ s ∧ s ≤ 31) (hd : d < 32) (hd0 : d < 0 → d = -1) (hq : 0 ≤ q ∧ q ≤ 255) (ho : 0 ≤ o ∧ o ≤ 255) (he : -32768 ≤ e ∧ e ≤ 32767) (hb : bs.length ≤ 100) :
    call1 T (n + 7) (.fn 176) [pW, .ptr 0 0 0 0] (wH (.box (fr 2 s d q o c m e t u v x)) bs [] es) = some (.bool true, wH (.box (fr 2 s d q o c m e t u v x)) (bs ++ (bits 3 2 ++ (bits 5 s.toNat ++ (tgBits d ++ (bits 8 q.toNat ++ (bits 8 o.toNat ++ (bits 16 (sgN e)))))))) [] (es ++ ek bs ((24 + tgLen d) + (16)))) := by
  refine call_in e176 (by rfl) ?_
  have h0 : ∀ t1 t2 es, call1 T (n + 6) (.fn 201) [pW, .int .i64 3, .ptr 0 0 0 0] (wH (.box (fr 2 s d q o c m e t u v x)) bs [t1, t2] es) = some (.tup [], wH (.box (fr 2 s d q o c m e t u v x)) (bs ++ (bits 3 2)) [t1, t2] (es ++ ek bs 3)) := fun t1 t2 es => by
    have := s61a (n + 2) (fr 2 s d q o c m e t u v x) t1 t2 es bs 3 2 0 rfl (by omega) (by omega) (by omega) (by omega)
    try simp only [List.append_assoc] at this
    exact this
  have l0 : (bs ++ (bits 3 2)).length = bs.length + (3) := by simp only [List.length_append, bits_len, tgLen_eq] <;> omega
  have h1 : ∀ t1 t2 es, call1 T (n + 6) (.fn 201) [pW, .int .i64 5, .ptr 0 0 0 1] (wH (.box (fr 2 s d q o c m e t u v x)) (bs ++ (bits 3 2)) [t1, t2] es) = some (.tup [], wH (.box (fr 2 s d q o c m e t u v x)) (bs ++ (bits 3 2 ++ (bits 5 s.toNat))) [t1, t2] (es ++ ek (bs ++ (bits 3 2)) 5)) := fun t1 t2 es => by
    have := s61a (n + 2) (fr 2 s d q o c m e t u v x) t1 t2 es (bs ++ (bits 3 2)) 5 s.toNat 1 (show (fr 2 s d q o c m e t u v x)[1]? = _ by rw [Int.toNat_of_nonneg hs.1]; rfl) (by omega) (by omega) (by omega) (by have := tgLe d; rw [l0]; omega)
    try simp only [List.append_assoc] at this
    exact this
  have l1 : (bs ++ (bits 3 2 ++ (bits 5 s.toNat))).length = bs.length + (8) := by simp only [List.length_append, bits_len, tgLen_eq] <;> omega
  have h2 : ∀ t1 t2 es, call1 T (n + 6) (.fn 202) [pW, .ptr 0 0 0 2] (wH (.box (fr 2 s d q o c m e t u v x)) (bs ++ (bits 3 2 ++ (bits 5 s.toNat))) [t1, t2] es) = some (.tup [], wH (.box (fr 2 s d q o c m e t u v x)) (bs ++ (bits 3 2 ++ (bits 5 s.toNat ++ (tgBits d)))) [t1, t2] (es ++ ek (bs ++ (bits 3 2 ++ (bits 5 s.toNat))) (tgLen d))) := fun t1 t2 es => by
    have := s202 n t1 t2 es (bs ++ (bits 3 2 ++ (bits 5 s.toNat))) 2 s d q o c m e t u v x hd hd0 (by rw [l1]; omega)
    try simp only [List.append_assoc] at this
    exact this
  have l2 : (bs ++ (bits 3 2 ++ (bits 5 s.toNat ++ (tgBits d)))).length = bs.length + (8 + tgLen d) := by simp only [List.length_append, bits_len, tgLen_eq] <;> omega
  have h3 : ∀ t1 t2 es, call1 T (n + 6) (.fn 201) [pW, .int .i64 8, .ptr 0 0 0 3] (wH (.box (fr 2 s d q o c m e t u v x)) (bs ++ (bits 3 2 ++ (bits 5 s.toNat ++ (tgBits d)))) [t1, t2] es) = some (.tup [], wH (.box (fr 2 s d q o c m e t u v x)) (bs ++ (bits 3 2 ++ (bits 5 s.toNat ++ (tgBits d ++ (bits 8 q.toNat))))) [t1, t2] (es ++ ek (bs ++ (bits 3 2 ++ (bits 5 s.toNat ++ (tgBits d)))) 8)) := fun t1 t2 es => by
    have := s61a (n + 2) (fr 2 s d q o c m e t u v x) t1 t2 es (bs ++ (bits 3 2 ++ (bits 5 s.toNat ++ (tgBits d)))) 8 q.toNat 3 (show (fr 2 s d q o c m e t u v x)[3]? = _ by rw [Int.toNat_of_nonneg hq.1]; rfl) (by omega) (by omega) (by omega) (by have := tgLe d; rw [l2]; omega)
    try simp only [List.append_assoc] at this
    exact this
  have l3 : (bs ++ (bits 3 2 ++ (bits 5 s.toNat ++ (tgBits d ++ (bits 8 q.toNat))))).length = bs.length + (16 + tgLen d) := by simp only [List.length_append, bits_len, tgLen_eq] <;> omega
  have h4 : ∀ t1 t2 es, call1 T (n + 6) (.fn 201) [pW, .int .i64 8, .ptr 0 0 0 4] (wH (.box (fr 2 s d q o c m e t u v x)) (bs ++ (bits 3 2 ++ (bits 5 s.toNat ++ (tgBits d ++ (bits 8 q.toNat))))) [t1, t2] es) = some (.tup [], wH (.box (fr 2 s d q o c m e t u v x)) (bs ++ (bits 3 2 ++ (bits 5 s.toNat ++ (tgBits d ++ (bits 8 q.toNat ++ (bits 8 o.toNat)))))) [t1, t2] (es ++ ek (bs ++ (bits 3 2 ++ (bits 5 s.toNat ++ (tgBits d ++ (bits 8 q.toNat))))) 8)) := fun t1 t2 es => by
    have := s61a (n + 2) (fr 2 s d q o c m e t u v x) t1 t2 es (bs ++ (bits 3 2 ++ (bits 5 s.toNat ++ (tgBits d ++ (bits 8 q.toNat))))) 8 o.toNat 4 (show (fr 2 s d q o c m e t u v x)[4]? = _ by rw [Int.toNat_of_nonneg ho.1]; rfl) (by omega) (by omega) (by omega) (by have := tgLe d; rw [l3]; omega)
    try simp only [List.append_assoc] at this
    exact this
  have l4 : (bs ++ (bits 3 2 ++ (bits 5 s.toNat ++ (tgBits d ++ (bits 8 q.toNat ++ (bits 8 o.toNat)))))).length = bs.length + (24 + tgLen d) := by simp only [List.length_append, bits_len, tgLen_eq] <;> omega
  have hb1 : ∀ t1 t2 es, call1 T (n + 6) (.fn 198) [pW, .ptr 0 0 0 0] (wH (.box (fr 2 s d q o c m e t u v x)) (bs ++ (bits 3 2 ++ (bits 5 s.toNat ++ (tgBits d ++ (bits 8 q.toNat ++ (bits 8 o.toNat)))))) [t1, t2] es) = some (.tup [], wH (.box (fr 2 s d q o c m e t u v x)) (bs ++ (bits 3 2 ++ (bits 5 s.toNat ++ (tgBits d ++ (bits 8 q.toNat ++ (bits 8 o.toNat ++ (bits 16 (sgN e)))))))) [t1, t2] (es ++ ek (bs ++ (bits 3 2 ++ (bits 5 s.toNat ++ (tgBits d ++ (bits 8 q.toNat ++ (bits 8 o.toNat)))))) (16))) := fun t1 t2 es => by
    have := s198 (n + 2) t1 t2 es (bs ++ (bits 3 2 ++ (bits 5 s.toNat ++ (tgBits d ++ (bits 8 q.toNat ++ (bits 8 o.toNat)))))) 2 s d q o c m e t u v x he.1 he.2 (by have := tgLe d; rw [l4]; omega)
    try simp only [List.append_assoc] at this
    exact this
  have hk : ek bs ((24 + tgLen d) + (16)) = ek bs 3 ++ ek (bs ++ (bits 3 2)) 5 ++ ek (bs ++ (bits 3 2 ++ (bits 5 s.toNat))) (tgLen d) ++ ek (bs ++ (bits 3 2 ++ (bits 5 s.toNat ++ (tgBits d)))) 8 ++ ek (bs ++ (bits 3 2 ++ (bits 5 s.toNat ++ (tgBits d ++ (bits 8 q.toNat))))) 8 ++ ek (bs ++ (bits 3 2 ++ (bits 5 s.toNat ++ (tgBits d ++ (bits 8 q.toNat ++ (bits 8 o.toNat)))))) (16) := by
    rw [ek_add (bs := bs) (a := 3) l0, ek_add (a := 3 + 5) (by rw [l1]), ek_add (a := 3 + 5 + tgLen d) (by rw [l2]), ek_add (a := 3 + 5 + tgLen d + 8) (by rw [l3]; omega), ek_add (a := 3 + 5 + tgLen d + 8 + 8) (by rw [l4]; omega)]
    congr 1; omega
  simp only [List.append_assoc] at hk
  rw [hk]
  simp only [c176, go_sem, Int.reduceToNat, Nat.reduceAdd, Nat.reduceBEq, Nat.reduceLeDiff, Nat.reduceLT, Nat.reduceMul, Nat.reduceSub, Int.reduceEq, Int.reduceLT, Int.reduceLE, Int.reduceNeg, h0, h1, h2, h3, h4, hb1, List.length_cons, List.length_nil, List.filter_replicate, List.all_replicate, List.filter_append, List.all_append, Bool.and_self, List.append_assoc, ite_self, if_true]
theorem s27_3 (s d q o c m e t u v : Int) (x : ByteArray) (hs : 0 ≤ s ∧ s ≤ 31) (hd : d < 32) (hd0 : d < 0 → d = -1) (hq : 0 ≤ q ∧ q ≤ 255) (ho : 0 ≤ o ∧ o ≤ 255) (ht : 0 ≤ t ∧ t ≤ 109951162) (hu : 0 ≤ u ∧ u ≤ 65535) (hv : 0 ≤ v ∧ v ≤ 65535) (hx : x.size ≤ 127) (hb : bs.length ≤ 100) :
    call1 T (n + 7) (.fn 176) [pW, .ptr 0 0 0 0] (wH (.box (fr 3 s d q o c m e t u v x)) bs [] es) = some (.bool true, wH (.box (fr 3 s d q o c m e t u v x)) (bs ++ (bits 3 3 ++ (bits 5 s.toNat ++ (tgBits d ++ (bits 8 q.toNat ++ (bits 8 o.toNat ++ (bits 27 t.toNat ++ (bits 16 u.toNat ++ (bits 16 v.toNat ++ (bits 7 x.size ++ (txB x x.size))))))))))) [] (es ++ ek bs ((24 + tgLen d) + (59 + (7 + 8 * x.size))))) := by
  refine call_in e176 (by rfl) ?_
  have h0 : ∀ t1 t2 es, call1 T (n + 6) (.fn 201) [pW, .int .i64 3, .ptr 0 0 0 0] (wH (.box (fr 3 s d q o c m e t u v x)) bs [t1, t2] es) = some (.tup [], wH (.box (fr 3 s d q o c m e t u v x)) (bs ++ (bits 3 3)) [t1, t2] (es ++ ek bs 3)) := fun t1 t2 es => by
    have := s61a (n + 2) (fr 3 s d q o c m e t u v x) t1 t2 es bs 3 3 0 rfl (by omega) (by omega) (by omega) (by omega)
    try simp only [List.append_assoc] at this
    exact this
  have l0 : (bs ++ (bits 3 3)).length = bs.length + (3) := by simp only [List.length_append, bits_len, tgLen_eq] <;> omega
  have h1 : ∀ t1 t2 es, call1 T (n + 6) (.fn 201) [pW, .int .i64 5, .ptr 0 0 0 1] (wH (.box (fr 3 s d q o c m e t u v x)) (bs ++ (bits 3 3)) [t1, t2] es) = some (.tup [], wH (.box (fr 3 s d q o c m e t u v x)) (bs ++ (bits 3 3 ++ (bits 5 s.toNat))) [t1, t2] (es ++ ek (bs ++ (bits 3 3)) 5)) := fun t1 t2 es => by
    have := s61a (n + 2) (fr 3 s d q o c m e t u v x) t1 t2 es (bs ++ (bits 3 3)) 5 s.toNat 1 (show (fr 3 s d q o c m e t u v x)[1]? = _ by rw [Int.toNat_of_nonneg hs.1]; rfl) (by omega) (by omega) (by omega) (by have := tgLe d; rw [l0]; omega)
    try simp only [List.append_assoc] at this
    exact this
  have l1 : (bs ++ (bits 3 3 ++ (bits 5 s.toNat))).length = bs.length + (8) := by simp only [List.length_append, bits_len, tgLen_eq] <;> omega
  have h2 : ∀ t1 t2 es, call1 T (n + 6) (.fn 202) [pW, .ptr 0 0 0 2] (wH (.box (fr 3 s d q o c m e t u v x)) (bs ++ (bits 3 3 ++ (bits 5 s.toNat))) [t1, t2] es) = some (.tup [], wH (.box (fr 3 s d q o c m e t u v x)) (bs ++ (bits 3 3 ++ (bits 5 s.toNat ++ (tgBits d)))) [t1, t2] (es ++ ek (bs ++ (bits 3 3 ++ (bits 5 s.toNat))) (tgLen d))) := fun t1 t2 es => by
    have := s202 n t1 t2 es (bs ++ (bits 3 3 ++ (bits 5 s.toNat))) 3 s d q o c m e t u v x hd hd0 (by rw [l1]; omega)
    try simp only [List.append_assoc] at this
    exact this
  have l2 : (bs ++ (bits 3 3 ++ (bits 5 s.toNat ++ (tgBits d)))).length = bs.length + (8 + tgLen d) := by simp only [List.length_append, bits_len, tgLen_eq] <;> omega
  have h3 : ∀ t1 t2 es, call1 T (n + 6) (.fn 201) [pW, .int .i64 8, .ptr 0 0 0 3] (wH (.box (fr 3 s d q o c m e t u v x)) (bs ++ (bits 3 3 ++ (bits 5 s.toNat ++ (tgBits d)))) [t1, t2] es) = some (.tup [], wH (.box (fr 3 s d q o c m e t u v x)) (bs ++ (bits 3 3 ++ (bits 5 s.toNat ++ (tgBits d ++ (bits 8 q.toNat))))) [t1, t2] (es ++ ek (bs ++ (bits 3 3 ++ (bits 5 s.toNat ++ (tgBits d)))) 8)) := fun t1 t2 es => by
    have := s61a (n + 2) (fr 3 s d q o c m e t u v x) t1 t2 es (bs ++ (bits 3 3 ++ (bits 5 s.toNat ++ (tgBits d)))) 8 q.toNat 3 (show (fr 3 s d q o c m e t u v x)[3]? = _ by rw [Int.toNat_of_nonneg hq.1]; rfl) (by omega) (by omega) (by omega) (by have := tgLe d; rw [l2]; omega)
    try simp only [List.append_assoc] at this
    exact this
  have l3 : (bs ++ (bits 3 3 ++ (bits 5 s.toNat ++ (tgBits d ++ (bits 8 q.toNat))))).length = bs.length + (16 + tgLen d) := by simp only [List.length_append, bits_len, tgLen_eq] <;> omega
  have h4 : ∀ t1 t2 es, call1 T (n + 6) (.fn 201) [pW, .int .i64 8, .ptr 0 0 0 4] (wH (.box (fr 3 s d q o c m e t u v x)) (bs ++ (bits 3 3 ++ (bits 5 s.toNat ++ (tgBits d ++ (bits 8 q.toNat))))) [t1, t2] es) = some (.tup [], wH (.box (fr 3 s d q o c m e t u v x)) (bs ++ (bits 3 3 ++ (bits 5 s.toNat ++ (tgBits d ++ (bits 8 q.toNat ++ (bits 8 o.toNat)))))) [t1, t2] (es ++ ek (bs ++ (bits 3 3 ++ (bits 5 s.toNat ++ (tgBits d ++ (bits 8 q.toNat))))) 8)) := fun t1 t2 es => by
    have := s61a (n + 2) (fr 3 s d q o c m e t u v x) t1 t2 es (bs ++ (bits 3 3 ++ (bits 5 s.toNat ++ (tgBits d ++ (bits 8 q.toNat))))) 8 o.toNat 4 (show (fr 3 s d q o c m e t u v x)[4]? = _ by rw [Int.toNat_of_nonneg ho.1]; rfl) (by omega) (by omega) (by omega) (by have := tgLe d; rw [l3]; omega)
    try simp only [List.append_assoc] at this
    exact this
  have l4 : (bs ++ (bits 3 3 ++ (bits 5 s.toNat ++ (tgBits d ++ (bits 8 q.toNat ++ (bits 8 o.toNat)))))).length = bs.length + (24 + tgLen d) := by simp only [List.length_append, bits_len, tgLen_eq] <;> omega
  have hb1 : ∀ t1 t2 es, call1 T (n + 6) (.fn 199) [pW, .ptr 0 0 0 0] (wH (.box (fr 3 s d q o c m e t u v x)) (bs ++ (bits 3 3 ++ (bits 5 s.toNat ++ (tgBits d ++ (bits 8 q.toNat ++ (bits 8 o.toNat)))))) [t1, t2] es) = some (.tup [], wH (.box (fr 3 s d q o c m e t u v x)) (bs ++ (bits 3 3 ++ (bits 5 s.toNat ++ (tgBits d ++ (bits 8 q.toNat ++ (bits 8 o.toNat ++ (bits 27 t.toNat ++ (bits 16 u.toNat ++ (bits 16 v.toNat ++ (bits 7 x.size ++ (txB x x.size))))))))))) [t1, t2] (es ++ ek (bs ++ (bits 3 3 ++ (bits 5 s.toNat ++ (tgBits d ++ (bits 8 q.toNat ++ (bits 8 o.toNat)))))) (59 + (7 + 8 * x.size)))) := fun t1 t2 es => by
    have := s199 n t1 t2 es (bs ++ (bits 3 3 ++ (bits 5 s.toNat ++ (tgBits d ++ (bits 8 q.toNat ++ (bits 8 o.toNat)))))) 3 s d q o c m e t u v x ht hu hv hx (by have := tgLe d; rw [l4]; omega)
    try simp only [List.append_assoc] at this
    exact this
  have hk : ek bs ((24 + tgLen d) + (59 + (7 + 8 * x.size))) = ek bs 3 ++ ek (bs ++ (bits 3 3)) 5 ++ ek (bs ++ (bits 3 3 ++ (bits 5 s.toNat))) (tgLen d) ++ ek (bs ++ (bits 3 3 ++ (bits 5 s.toNat ++ (tgBits d)))) 8 ++ ek (bs ++ (bits 3 3 ++ (bits 5 s.toNat ++ (tgBits d ++ (bits 8 q.toNat))))) 8 ++ ek (bs ++ (bits 3 3 ++ (bits 5 s.toNat ++ (tgBits d ++ (bits 8 q.toNat ++ (bits 8 o.toNat)))))) (59 + (7 + 8 * x.size)) := by
    rw [ek_add (bs := bs) (a := 3) l0, ek_add (a := 3 + 5) (by rw [l1]), ek_add (a := 3 + 5 + tgLen d) (by rw [l2]), ek_add (a := 3 + 5 + tgLen d + 8) (by rw [l3]; omega), ek_add (a := 3 + 5 + tgLen d + 8 + 8) (by rw [l4]; omega)]
    congr 1; omega
  simp only [List.append_assoc] at hk
  rw [hk]
  simp only [c176, go_sem, Int.reduceToNat, Nat.reduceAdd, Nat.reduceBEq, Nat.reduceLeDiff, Nat.reduceLT, Nat.reduceMul, Nat.reduceSub, Int.reduceEq, Int.reduceLT, Int.reduceLE, Int.reduceNeg, h0, h1, h2, h3, h4, hb1, List.length_cons, List.length_nil, List.filter_replicate, List.all_replicate, List.filter_append, List.all_append, Bool.and_self, List.append_assoc, ite_self, if_true]
theorem s27_4 (s d q o c m e t u v : Int) (x : ByteArray) (hs : 0 ≤ s ∧ s ≤ 31) (hd : d < 32) (hd0 : d < 0 → d = -1) (hq : 0 ≤ q ∧ q ≤ 255) (ho : 0 ≤ o ∧ o ≤ 255) (hx : x.size ≤ 127) (hb : bs.length ≤ 100) :
    call1 T (n + 7) (.fn 176) [pW, .ptr 0 0 0 0] (wH (.box (fr 4 s d q o c m e t u v x)) bs [] es) = some (.bool true, wH (.box (fr 4 s d q o c m e t u v x)) (bs ++ (bits 3 4 ++ (bits 5 s.toNat ++ (tgBits d ++ (bits 8 q.toNat ++ (bits 8 o.toNat ++ (bits 7 x.size ++ (txB x x.size)))))))) [] (es ++ ek bs ((24 + tgLen d) + (7 + 8 * x.size)))) := by
  refine call_in e176 (by rfl) ?_
  have h0 : ∀ t1 t2 es, call1 T (n + 6) (.fn 201) [pW, .int .i64 3, .ptr 0 0 0 0] (wH (.box (fr 4 s d q o c m e t u v x)) bs [t1, t2] es) = some (.tup [], wH (.box (fr 4 s d q o c m e t u v x)) (bs ++ (bits 3 4)) [t1, t2] (es ++ ek bs 3)) := fun t1 t2 es => by
    have := s61a (n + 2) (fr 4 s d q o c m e t u v x) t1 t2 es bs 3 4 0 rfl (by omega) (by omega) (by omega) (by omega)
    try simp only [List.append_assoc] at this
    exact this
  have l0 : (bs ++ (bits 3 4)).length = bs.length + (3) := by simp only [List.length_append, bits_len, tgLen_eq] <;> omega
  have h1 : ∀ t1 t2 es, call1 T (n + 6) (.fn 201) [pW, .int .i64 5, .ptr 0 0 0 1] (wH (.box (fr 4 s d q o c m e t u v x)) (bs ++ (bits 3 4)) [t1, t2] es) = some (.tup [], wH (.box (fr 4 s d q o c m e t u v x)) (bs ++ (bits 3 4 ++ (bits 5 s.toNat))) [t1, t2] (es ++ ek (bs ++ (bits 3 4)) 5)) := fun t1 t2 es => by
    have := s61a (n + 2) (fr 4 s d q o c m e t u v x) t1 t2 es (bs ++ (bits 3 4)) 5 s.toNat 1 (show (fr 4 s d q o c m e t u v x)[1]? = _ by rw [Int.toNat_of_nonneg hs.1]; rfl) (by omega) (by omega) (by omega) (by have := tgLe d; rw [l0]; omega)
    try simp only [List.append_assoc] at this
    exact this
  have l1 : (bs ++ (bits 3 4 ++ (bits 5 s.toNat))).length = bs.length + (8) := by simp only [List.length_append, bits_len, tgLen_eq] <;> omega
  have h2 : ∀ t1 t2 es, call1 T (n + 6) (.fn 202) [pW, .ptr 0 0 0 2] (wH (.box (fr 4 s d q o c m e t u v x)) (bs ++ (bits 3 4 ++ (bits 5 s.toNat))) [t1, t2] es) = some (.tup [], wH (.box (fr 4 s d q o c m e t u v x)) (bs ++ (bits 3 4 ++ (bits 5 s.toNat ++ (tgBits d)))) [t1, t2] (es ++ ek (bs ++ (bits 3 4 ++ (bits 5 s.toNat))) (tgLen d))) := fun t1 t2 es => by
    have := s202 n t1 t2 es (bs ++ (bits 3 4 ++ (bits 5 s.toNat))) 4 s d q o c m e t u v x hd hd0 (by rw [l1]; omega)
    try simp only [List.append_assoc] at this
    exact this
  have l2 : (bs ++ (bits 3 4 ++ (bits 5 s.toNat ++ (tgBits d)))).length = bs.length + (8 + tgLen d) := by simp only [List.length_append, bits_len, tgLen_eq] <;> omega
  have h3 : ∀ t1 t2 es, call1 T (n + 6) (.fn 201) [pW, .int .i64 8, .ptr 0 0 0 3] (wH (.box (fr 4 s d q o c m e t u v x)) (bs ++ (bits 3 4 ++ (bits 5 s.toNat ++ (tgBits d)))) [t1, t2] es) = some (.tup [], wH (.box (fr 4 s d q o c m e t u v x)) (bs ++ (bits 3 4 ++ (bits 5 s.toNat ++ (tgBits d ++ (bits 8 q.toNat))))) [t1, t2] (es ++ ek (bs ++ (bits 3 4 ++ (bits 5 s.toNat ++ (tgBits d)))) 8)) := fun t1 t2 es => by
    have := s61a (n + 2) (fr 4 s d q o c m e t u v x) t1 t2 es (bs ++ (bits 3 4 ++ (bits 5 s.toNat ++ (tgBits d)))) 8 q.toNat 3 (show (fr 4 s d q o c m e t u v x)[3]? = _ by rw [Int.toNat_of_nonneg hq.1]; rfl) (by omega) (by omega) (by omega) (by have := tgLe d; rw [l2]; omega)
    try simp only [List.append_assoc] at this
    exact this
  have l3 : (bs ++ (bits 3 4 ++ (bits 5 s.toNat ++ (tgBits d ++ (bits 8 q.toNat))))).length = bs.length + (16 + tgLen d) := by simp only [List.length_append, bits_len, tgLen_eq] <;> omega
  have h4 : ∀ t1 t2 es, call1 T (n + 6) (.fn 201) [pW, .int .i64 8, .ptr 0 0 0 4] (wH (.box (fr 4 s d q o c m e t u v x)) (bs ++ (bits 3 4 ++ (bits 5 s.toNat ++ (tgBits d ++ (bits 8 q.toNat))))) [t1, t2] es) = some (.tup [], wH (.box (fr 4 s d q o c m e t u v x)) (bs ++ (bits 3 4 ++ (bits 5 s.toNat ++ (tgBits d ++ (bits 8 q.toNat ++ (bits 8 o.toNat)))))) [t1, t2] (es ++ ek (bs ++ (bits 3 4 ++ (bits 5 s.toNat ++ (tgBits d ++ (bits 8 q.toNat))))) 8)) := fun t1 t2 es => by
    have := s61a (n + 2) (fr 4 s d q o c m e t u v x) t1 t2 es (bs ++ (bits 3 4 ++ (bits 5 s.toNat ++ (tgBits d ++ (bits 8 q.toNat))))) 8 o.toNat 4 (show (fr 4 s d q o c m e t u v x)[4]? = _ by rw [Int.toNat_of_nonneg ho.1]; rfl) (by omega) (by omega) (by omega) (by have := tgLe d; rw [l3]; omega)
    try simp only [List.append_assoc] at this
    exact this
  have l4 : (bs ++ (bits 3 4 ++ (bits 5 s.toNat ++ (tgBits d ++ (bits 8 q.toNat ++ (bits 8 o.toNat)))))).length = bs.length + (24 + tgLen d) := by simp only [List.length_append, bits_len, tgLen_eq] <;> omega
  have hb1 : ∀ t1 t2 es, call1 T (n + 6) (.fn 200) [pW, .ptr 0 0 0 0] (wH (.box (fr 4 s d q o c m e t u v x)) (bs ++ (bits 3 4 ++ (bits 5 s.toNat ++ (tgBits d ++ (bits 8 q.toNat ++ (bits 8 o.toNat)))))) [t1, t2] es) = some (.tup [], wH (.box (fr 4 s d q o c m e t u v x)) (bs ++ (bits 3 4 ++ (bits 5 s.toNat ++ (tgBits d ++ (bits 8 q.toNat ++ (bits 8 o.toNat ++ (bits 7 x.size ++ (txB x x.size)))))))) [t1, t2] (es ++ ek (bs ++ (bits 3 4 ++ (bits 5 s.toNat ++ (tgBits d ++ (bits 8 q.toNat ++ (bits 8 o.toNat)))))) (7 + 8 * x.size))) := fun t1 t2 es => by
    have := s200 n t1 t2 es (bs ++ (bits 3 4 ++ (bits 5 s.toNat ++ (tgBits d ++ (bits 8 q.toNat ++ (bits 8 o.toNat)))))) 4 s d q o c m e t u v x hx (by have := tgLe d; rw [l4]; omega)
    try simp only [List.append_assoc] at this
    exact this
  have hk : ek bs ((24 + tgLen d) + (7 + 8 * x.size)) = ek bs 3 ++ ek (bs ++ (bits 3 4)) 5 ++ ek (bs ++ (bits 3 4 ++ (bits 5 s.toNat))) (tgLen d) ++ ek (bs ++ (bits 3 4 ++ (bits 5 s.toNat ++ (tgBits d)))) 8 ++ ek (bs ++ (bits 3 4 ++ (bits 5 s.toNat ++ (tgBits d ++ (bits 8 q.toNat))))) 8 ++ ek (bs ++ (bits 3 4 ++ (bits 5 s.toNat ++ (tgBits d ++ (bits 8 q.toNat ++ (bits 8 o.toNat)))))) (7 + 8 * x.size) := by
    rw [ek_add (bs := bs) (a := 3) l0, ek_add (a := 3 + 5) (by rw [l1]), ek_add (a := 3 + 5 + tgLen d) (by rw [l2]), ek_add (a := 3 + 5 + tgLen d + 8) (by rw [l3]; omega), ek_add (a := 3 + 5 + tgLen d + 8 + 8) (by rw [l4]; omega)]
    congr 1; omega
  simp only [List.append_assoc] at hk
  rw [hk]
  simp only [c176, go_sem, Int.reduceToNat, Nat.reduceAdd, Nat.reduceBEq, Nat.reduceLeDiff, Nat.reduceLT, Nat.reduceMul, Nat.reduceSub, Int.reduceEq, Int.reduceLT, Int.reduceLE, Int.reduceNeg, h0, h1, h2, h3, h4, hb1, List.length_cons, List.length_nil, List.filter_replicate, List.all_replicate, List.filter_append, List.all_append, Bool.and_self, List.append_assoc, ite_self, if_true]
end
end C13
end Go.Sh
namespace Go.Sh
set_option linter.unusedSectionVars false
set_option linter.unnecessarySimpa false
set_option linter.unusedVariables false
set_option linter.unusedSimpArgs false
set_option maxRecDepth 100000
set_option maxHeartbeats 4000000
namespace C13
abbrev W16 := BitVec 16
def poly : W16 := 0x1021#16
def tm (c : W16) : W16 := (c <<< 1) ^^^ (bif c.msb then poly else 0#16)
theorem tm_xor (a b : W16) : tm (a ^^^ b) = tm a ^^^ tm b := by
  unfold tm
  rw [BitVec.shiftLeft_xor_distrib, BitVec.msb_xor]
  cases a.msb <;> cases b.msb <;> simp only [Bool.xor_false, Bool.xor_true, Bool.false_xor, Bool.true_xor, cond_true, cond_false, Bool.not_true, Bool.not_false, BitVec.xor_zero]
  · ac_rfl
  · ac_rfl
  · rw [show a <<< 1 ^^^ poly ^^^ (b <<< 1 ^^^ poly) = a <<< 1 ^^^ b <<< 1 ^^^ (poly ^^^ poly) by ac_rfl, BitVec.xor_self, BitVec.xor_zero]
def t4 (c : W16) : W16 := tm (tm (tm (tm c)))
theorem t4_xor (a b : W16) : t4 (a ^^^ b) = t4 a ^^^ t4 b := by simp only [t4, tm_xor]
theorem tm_low {c : W16} (h : c.msb = false) : tm c = c <<< 1 := by unfold tm; rw [h]; simp
def tbl : List W16 := [0x0000#16, 0x1021#16, 0x2042#16, 0x3063#16, 0x4084#16, 0x50a5#16, 0x60c6#16, 0x70e7#16, 0x8108#16, 0x9129#16, 0xa14a#16, 0xb16b#16, 0xc18c#16, 0xd1ad#16, 0xe1ce#16, 0xf1ef#16]
theorem t4_high : ∀ h : Fin 16, tbl[(h : Nat)]? = some (t4 ((BitVec.ofNat 16 h) <<< 12)) := by decide
theorem t4_low (c : W16) : t4 ((c <<< 4) >>> 4) = c <<< 4 := by
  have m : ∀ (i : Nat), i < 4 → (((c <<< 4) >>> 4) <<< i).msb = false := by
    intro i hi
    rw [BitVec.msb_eq_getLsbD_last]
    simp [BitVec.getLsbD_shiftLeft, BitVec.getLsbD_ushiftRight]
    omega
  have e : ∀ i : Nat, (((c <<< 4) >>> 4) <<< i) <<< 1 = ((c <<< 4) >>> 4) <<< (i + 1) := fun i => (BitVec.shiftLeft_add _ _ _).symm
  have h0 := m 0 (by omega)
  rw [BitVec.shiftLeft_zero] at h0
  unfold t4
  rw [tm_low h0, tm_low (m 1 (by omega)), e 1, tm_low (m 2 (by omega)), e 2, tm_low (m 3 (by omega)), e 3]
  apply BitVec.eq_of_getLsbD_eq
  intro i hi
  simp [BitVec.getLsbD_shiftLeft, BitVec.getLsbD_ushiftRight]
  by_cases h : i < 4
  · simp [h]
  · simp [h, hi, show 4 + (i - 4) = i by omega]
theorem split12 (c : W16) : c = ((c >>> 12) <<< 12) ^^^ ((c <<< 4) >>> 4) := by
  apply BitVec.eq_of_getLsbD_eq
  intro i hi
  simp [BitVec.getLsbD_shiftLeft, BitVec.getLsbD_ushiftRight]
  by_cases h : i < 12
  · simp [h, show 4 + i - 4 = i by omega, show 4 + i < 16 by omega]
  · simp [h, show ¬ 4 + i < 16 by omega, show 12 + (i - 12) = i by omega]
    exact fun _ => hi
theorem t4_tbl (c : W16) : tbl[(c >>> 12).toNat]? = some (t4 c ^^^ (c <<< 4)) := by
  have hlt : (c >>> 12).toNat < 16 := by
    rw [BitVec.toNat_ushiftRight, Nat.shiftRight_eq_div_pow]
    have := c.isLt
    omega
  have h := t4_high ⟨(c >>> 12).toNat, hlt⟩
  rw [show tbl[(c >>> 12).toNat]? = _ from h]
  congr 1
  have e : BitVec.ofNat 16 (c >>> 12).toNat = c >>> 12 := by rw [BitVec.ofNat_toNat]; exact BitVec.setWidth_eq _
  show t4 (BitVec.ofNat 16 (c >>> 12).toNat <<< 12) = _
  rw [e]
  have h2 : t4 c = t4 ((c >>> 12) <<< 12) ^^^ (c <<< 4) := by
    rw [← t4_low c, ← t4_xor, ← split12]
  rw [h2, BitVec.xor_assoc, BitVec.xor_self, BitVec.xor_zero]
end C13
end Go.Sh
namespace Go.Sh
set_option linter.unusedSectionVars false
set_option linter.unnecessarySimpa false
set_option linter.unusedVariables false
set_option linter.unusedSimpArgs false
set_option maxRecDepth 100000
set_option maxHeartbeats 4000000
namespace C13
def tblS : List SV := tbl.map fun w => .int .u16 w.toNat
@[go_sem] theorem tblS_len : tblS.length = 16 := by rfl
theorem tblS_get (i : Nat) : tblS[i]? = (tbl[i]?).map fun w => .int .u16 w.toNat := by simp [tblS]
theorem s234 (n : Nat) (H : Heap) : call1 T (n + 3) (.fn 234) [] H = some (.agg tblS, H) := pure_any e234 (by rfl) (callB_up (T := T) 100 (n + 3) (.fn 234) [] heap0 (.agg tblS, heap0) (by kernel_rfl))
def stp (c : W16) (b : Nat) : W16 := t4 (t4 (c ^^^ (BitVec.ofNat 16 b <<< 8)))
def upd (c : W16) (s : ByteArray) : Nat → W16
  | 0 => c
  | i + 1 => stp (upd c s i) ((s.data[i]?).getD 0).toNat
theorem nib_a : ∀ v : Fin 16, ((BitVec.ofNat 16 v : W16) <<< 12) >>> 12 = BitVec.ofNat 16 v := by decide
theorem nib_b : ∀ v : Fin 16, ((BitVec.ofNat 16 v : W16) <<< 12) <<< 4 = 0#16 := by decide
theorem nib_c : ∀ v : Fin 16, t4 ((BitVec.ofNat 16 v : W16) <<< 8) = BitVec.ofNat 16 v <<< 12 := by decide
theorem nib_d : ∀ b : Fin 256, ((BitVec.ofNat 16 (b / 16) : W16) <<< 12) ^^^ (BitVec.ofNat 16 (b % 16) <<< 8) = BitVec.ofNat 16 b <<< 8 := by decide +kernel
theorem nib (c : W16) {v : Nat} (hv : v < 16) : tbl[((c >>> 12) ^^^ BitVec.ofNat 16 v).toNat]? = some (t4 (c ^^^ (BitVec.ofNat 16 v <<< 12)) ^^^ (c <<< 4)) := by
  have h := t4_tbl (c ^^^ (BitVec.ofNat 16 v <<< 12))
  rw [BitVec.ushiftRight_xor_distrib, BitVec.shiftLeft_xor_distrib, nib_a ⟨v, hv⟩, nib_b ⟨v, hv⟩, BitVec.xor_zero] at h
  exact h
theorem stp_eq (c : W16) {b : Nat} (hb : b < 256) : stp c b = t4 (t4 (c ^^^ (BitVec.ofNat 16 (b / 16) <<< 12)) ^^^ (BitVec.ofNat 16 (b % 16) <<< 12)) := by
  unfold stp
  rw [← nib_c ⟨b % 16, by omega⟩, ← t4_xor, BitVec.xor_assoc, nib_d ⟨b, hb⟩]
theorem wrapW {n : Int} : IntKind.u16.wrap n = n % 65536 := by simp [IntKind.wrap, IntKind.bits, IntKind.signed]
theorem shlW (C : W16) (k : Nat) (hk : k ≤ 16) : IntKind.u16.wrap ((C.toNat : Int) * 2 ^ min k 16) = ((C <<< k).toNat : Nat) := by
  have h : ((C.toNat : Int) * 2 ^ k) = ((C.toNat * 2 ^ k : Nat) : Int) := by rw [Int.natCast_mul, Int.natCast_pow]; rfl
  rw [Nat.min_eq_left hk, wrapW, h, BitVec.toNat_shiftLeft, Nat.shiftLeft_eq]
  omega
theorem shrW (C : W16) (k : Nat) (hk : k ≤ 16) : ((C.toNat : Int)).fdiv (2 ^ min k 16) = ((C >>> k).toNat : Nat) := by
  rw [Nat.min_eq_left hk, fdiv_nat, BitVec.toNat_ushiftRight, Nat.shiftRight_eq_div_pow]
theorem ofW (C : W16) : (BitVec.ofInt 16 (C.toNat : Int)) = C := by
  apply BitVec.eq_of_toNat_eq
  rw [BitVec.toNat_ofInt]
  have := C.isLt
  omega
def xorI (a b : Int) : Int := IntKind.u16.wrap ((BitVec.ofInt 16 a ^^^ BitVec.ofInt 16 b).toNat)
@[go_sem high] theorem sb_xor16 (a b : Int) : sbin .xor (.int .u16 a) (.int .u16 b) = some (.int .u16 (xorI a b)) := by
  simp only [sbin, beq_self_eq_true, cond_true]; rfl
def andI8 (a b : Int) : Int := IntKind.u8.wrap ((BitVec.ofInt 8 a &&& BitVec.ofInt 8 b).toNat)
@[go_sem high] theorem sb_and8 (a b : Int) : sbin .and (.int .u8 a) (.int .u8 b) = some (.int .u8 (andI8 a b)) := by
  simp only [sbin, beq_self_eq_true, cond_true]; rfl
theorem xorW (A B : W16) : xorI (A.toNat : Int) (B.toNat : Int) = ((A ^^^ B).toNat : Nat) := by
  unfold xorI
  rw [ofW, ofW, wrapW]
  have := (A ^^^ B).isLt
  omega
theorem and15 {b : Nat} (hb : b < 256) : andI8 b 15 = ((b % 16 : Nat) : Int) := by
  unfold andI8
  have h3 : (BitVec.ofInt 8 15).toNat = 15 := by decide
  rw [BitVec.toNat_and, ofInt_nat8 _ hb, h3, Nat.and_two_pow_sub_one_eq_mod b 4]
  exact wrap8 (by omega) (by omega)
theorem toW {v : Nat} (h : v < 65536) : (v : Int) = ((BitVec.ofNat 16 v : W16).toNat : Nat) := by
  rw [BitVec.toNat_ofNat]; omega
theorem s222 (n : Nat) (H : Heap) (s : ByteArray) (hs : s.size ≤ 1000) : call1 T (n + 4) (.fn 222) [.int .u16 0, .str s] H = some (.int .u16 ((upd 0#16 s s.size).toNat : Nat), H) := by
  refine call_pure e222 (by rfl) ?_
  have h := fun H => s234 n H
  simp only [c222, heap0, go_sem, Int.reduceToNat, Nat.reduceAdd, Nat.reduceBEq, Nat.reduceLeDiff, Nat.reduceLT, Nat.reduceMul, Nat.reduceSub, Int.reduceEq, Int.reduceLT, Int.reduceLE, Int.reduceNeg, h]
  refine loop_rule (fun i => ([(0, .int .u16 ((upd 0#16 s i).toNat : Nat)), (1, .str s), (5, .ptr 0 0 0 0), (9, .int .i64 s.size), (10, .int .i64 i)], ⟨[.box tblS], [], 0⟩)) (fun _ => True) s.size ?_ trivial ?_
  · simp only [go_sem, Int.reduceToNat, Nat.reduceAdd, Nat.reduceBEq, Nat.reduceLeDiff, Nat.reduceLT, Nat.reduceMul, Nat.reduceSub, Int.reduceEq, Int.reduceLT, Int.reduceLE, Int.reduceNeg] <;> rfl
  · intro i hi _
    rcases Nat.lt_or_ge i s.size with hlt | hge
    · have hs2 := w64_suc hlt (Nat.le_trans hs (by decide))
      have hd : s.data[i]? = some s.data[i] := Array.getElem?_eq_getElem (by exact hlt)
      have hu : upd 0#16 s (i + 1) = stp (upd 0#16 s i) s.data[i].toNat := by simp only [upd, hd, Option.getD_some]
      have hv := UInt8.toNat_lt s.data[i]
      obtain ⟨C, hC⟩ : ∃ C, upd 0#16 s i = C := ⟨_, rfl⟩
      obtain ⟨b, hb⟩ : ∃ b, s.data[i].toNat = b := ⟨_, rfl⟩
      rw [hC, hb] at hu
      rw [hb] at hv
      have e1 : IntKind.u16.wrap (((b : Int)).fdiv (2 ^ min 4 8)) = ((BitVec.ofNat 16 (b / 16) : W16).toNat : Nat) := by
        rw [show min 4 8 = 4 from rfl, fdiv_nat, wrapW, ← toW (by omega)]; omega
      have e2 : IntKind.u16.wrap ((b % 16 : Nat) : Int) = ((BitVec.ofNat 16 (b % 16) : W16).toNat : Nat) := by
        rw [wrapW, ← toW (by omega)]; omega
      have e3 := and15 hv
      have q1 := nib C (v := b / 16) (by omega)
      have l1 : ((C >>> 12) ^^^ BitVec.ofNat 16 (b / 16)).toNat < 16 := by
        have := List.getElem?_eq_some_iff.1 q1
        exact this.1
      obtain ⟨C1, hC1⟩ : ∃ C1, t4 (C ^^^ (BitVec.ofNat 16 (b / 16) <<< 12)) = C1 := ⟨_, rfl⟩
      have q2 := nib C1 (v := b % 16) (by omega)
      have l2 : ((C1 >>> 12) ^^^ BitVec.ofNat 16 (b % 16)).toNat < 16 := by
        have := List.getElem?_eq_some_iff.1 q2
        exact this.1
      have hst : stp C b = t4 (C1 ^^^ (BitVec.ofNat 16 (b % 16) <<< 12)) := by rw [stp_eq C hv, hC1]
      rw [hC1] at q1
      have x1 : (C <<< 4) ^^^ (C1 ^^^ (C <<< 4)) = C1 := by rw [show (C <<< 4) ^^^ (C1 ^^^ (C <<< 4)) = C1 ^^^ ((C <<< 4) ^^^ (C <<< 4)) by ac_rfl, BitVec.xor_self, BitVec.xor_zero]
      have x2 : (C1 <<< 4) ^^^ (t4 (C1 ^^^ (BitVec.ofNat 16 (b % 16) <<< 12)) ^^^ (C1 <<< 4)) = stp C b := by
        rw [hst, show ∀ P Q : W16, P ^^^ (Q ^^^ P) = Q ^^^ (P ^^^ P) from fun P Q => by ac_rfl, BitVec.xor_self, BitVec.xor_zero]
      have d1 : ∀ n : Nat, n < 16 → decide ((n : Int) < 16) = true := fun n h => decide_eq_true (by omega)
      have d1 := d1 _ l1
      have d2 : decide (((((C1 >>> 12) ^^^ BitVec.ofNat 16 (b % 16)).toNat : Nat) : Int) < 16) = true := decide_eq_true (by omega)
      have s1 := fun C => shlW C 4 (by omega)
      have s2 := fun C => shrW C 12 (by omega)
      have hm : decide (max 0 (max 0 (max 1 0)) ≤ 1) = true := by decide
      simp only [go_sem, Int.reduceToNat, Nat.reduceAdd, Nat.reduceBEq, Nat.reduceLeDiff, Nat.reduceLT, Nat.reduceMul, Nat.reduceSub, Int.reduceEq, Int.reduceLT, Int.reduceLE, Int.reduceNeg, hlt, hd, hs2, hC, hb, hu, e1, e2, e3, s1, s2, xorW, d1, d2, Int.toNat_natCast, Nat.mul_one, tblS_get, q1, q2, x1, x2, hm]
      exact ⟨trivial, trivial, trivial⟩
    · obtain rfl : i = s.size := by omega
      have hd : decide (s.size < s.size) = false := decide_eq_false (by omega)
      simp only [go_sem, Int.reduceToNat, Nat.reduceAdd, Nat.reduceBEq, Nat.reduceLeDiff, Nat.reduceLT, Nat.reduceMul, Nat.reduceSub, Int.reduceEq, Int.reduceLT, Int.reduceLE, Int.reduceNeg, hd]
end C13
end Go.Sh
namespace Go.Sh
set_option linter.unusedSectionVars false
set_option linter.unnecessarySimpa false
set_option linter.unusedVariables false
set_option linter.unusedSimpArgs false
set_option maxRecDepth 100000
set_option maxHeartbeats 4000000
namespace C13
def crcN (s : ByteArray) : W16 := upd 0#16 s s.size
def cr2 (C : W16) : ByteArray := ⟨#[UInt8.ofNat (C.toNat / 256), UInt8.ofNat (C.toNat % 256)]⟩
def prot (s : ByteArray) : ByteArray := s ++ cr2 (crcN s)
theorem cr2_size (C : W16) : (cr2 C).size = 2 := by rfl
theorem prot_size (s : ByteArray) : (prot s).size = s.size + 2 := by rw [prot, ByteArray.size_append, cr2_size]
theorem u8_hi (C : W16) : IntKind.u8.wrap ((C.toNat : Int).fdiv (2 ^ min 8 16)) = ((C.toNat / 256 : Nat) : Int) := by
  have := C.isLt
  rw [show min 8 16 = 8 from rfl, fdiv_nat]
  exact wrap8 (by omega) (by omega)
theorem u8_lo (C : W16) : IntKind.u8.wrap (C.toNat : Int) = ((C.toNat % 256 : Nat) : Int) := by
  have e : ∀ n : Int, IntKind.u8.wrap n = n % 256 := fun n => by simp [IntKind.wrap, IntKind.bits, IntKind.signed]
  rw [e]; omega
theorem toB_cons {n : Nat} (L : List (List SV)) : toBytes ([.int .u8 (n : Int)] :: L) = (toBytes L).map (fun l => UInt8.ofNat n :: l) := by
  simp only [toBytes, Int.toNat_natCast]
theorem toB_nil : toBytes [] = some [] := rfl
theorem s203 (n : Nat) (H : Heap) (s : ByteArray) (hs : s.size ≤ 1000) : call1 T (n + 5) (.fn 203) [.str s] H = some (.int .u16 ((crcN s).toNat : Nat), H) := by
  refine call_pure e203 (by rfl) ?_
  simp only [c203, heap0, go_sem, Int.reduceToNat, Nat.reduceAdd, Nat.reduceBEq, Nat.reduceLeDiff, Nat.reduceLT, Nat.reduceMul, Nat.reduceSub, Int.reduceEq, Int.reduceLT, Int.reduceLE, Int.reduceNeg, s222 _ _ _ hs, crcN]
theorem s178 (n : Nat) (H : Heap) (s : ByteArray) (hs : s.size ≤ 1000) : call1 T (n + 6) (.fn 178) [.str s] H = some (.str (prot s), H) := by
  refine call_pure e178 (by rfl) ?_
  obtain ⟨C, hC⟩ : ∃ C, crcN s = C := ⟨_, rfl⟩
  have h : ∀ H, call1 T (n + 5) (.fn 203) [.str s] H = some (.int .u16 (C.toNat : Nat), H) := fun H => hC ▸ s203 n H s hs
  have hz : decide (s.size + #[UInt8.ofNat (C.toNat / 256), UInt8.ofNat (C.toNat % 256)].size ≤ 4611686018427387904) = true := decide_eq_true (show s.size + 2 ≤ 4611686018427387904 by omega)
  simp only [c178, heap0, go_sem, Int.reduceToNat, Nat.reduceAdd, Nat.reduceBEq, Nat.reduceLeDiff, Nat.reduceLT, Nat.reduceMul, Nat.reduceSub, Int.reduceEq, Int.reduceLT, Int.reduceLE, Int.reduceNeg, h, u8_hi, u8_lo, prot, hC, cr2, toB_cons, toB_nil, Option.map_some, hz]
def pkB (bs : List Bool) : ByteArray := ⟨((List.range (nb bs.length)).map fun j => UInt8.ofNat (byteN bs j)).toArray⟩
theorem pkB_size (bs : List Bool) : (pkB bs).size = nb bs.length := by simp [pkB, ByteArray.size]
theorem toB_map (f : Nat → Nat) : ∀ l : List Nat, toBytes (l.map fun j => [.int .u8 (f j : Nat)]) = some (l.map fun j => UInt8.ofNat (f j))
  | [] => rfl
  | a :: l => by rw [List.map_cons, toB_cons, toB_map f l]; rfl
theorem toB_pkS (bs : List Bool) : toBytes (pkS bs) = some ((List.range (nb bs.length)).map fun j => UInt8.ofNat (byteN bs j)) := toB_map _ _
theorem s177 (n : Nat) (b0 : SBlk) (tl : List SBlk) (es : List (Nat × Nat)) (bs : List Bool) : call1 T (n + 1) (.fn 177) [.ptr 1 0 0 0] (wH b0 bs tl es) = some (.tup [.str (pkB bs), .int .i64 0], wH b0 bs tl es) := by
  refine call_in e177 (by rfl) ?_
  have l0 : decide (0 < tl.length + 1 + 1 + 1) = true := decide_eq_true (by omega)
  have l3 : decide (3 ≤ tl.length + 1 + 1 + 1) = true := decide_eq_true (by omega)
  have ht : List.take (nb bs.length) (pkS bs) = pkS bs := List.take_of_length_le (by rw [pkS_len]; exact Nat.le_refl _)
  have hl : decide (nb bs.length ≤ (pkS bs).length) = true := decide_eq_true (by rw [pkS_len]; exact Nat.le_refl _)
  have hl2 : decide (nb bs.length ≤ nb bs.length) = true := decide_eq_true (Nat.le_refl _)
  simp only [c177, go_sem, Int.reduceToNat, Nat.reduceAdd, Nat.reduceBEq, Nat.reduceLeDiff, Nat.reduceLT, Nat.reduceMul, Nat.reduceSub, Int.reduceEq, Int.reduceLT, Int.reduceLE, Int.reduceNeg, l0, l3, ht, hl, hl2, toB_pkS, pkB]
  trace_state
end C13
end Go.Sh
namespace Go.Sh
set_option linter.unusedSectionVars false
set_option linter.unnecessarySimpa false
set_option linter.unusedVariables false
set_option linter.unusedSimpArgs false
set_option maxRecDepth 100000
set_option maxHeartbeats 4000000
namespace C13
abbrev wE (bs : List Bool) : SBlk := .box [.slc 2 (nb bs.length) 0 (nb bs.length), .int .i64 bs.length, .int .i64 8]
abbrev wX (b0 : SBlk) (bs : List Bool) (tl : List SBlk) (es : List (Nat × Nat)) : Heap := ⟨b0 :: wE bs :: wA bs :: tl, es, 0⟩
section
variable (b0 : SBlk) (tl : List SBlk) (es : List (Nat × Nat)) (bs : List Bool)
theorem s93e (n : Nat) (x : ByteArray) (hx : 127 < x.size) :
    call1 T (n + 4) (.fn 229) [.ptr 1 0 0 0, .int .i64 127, .str x] (wH b0 bs tl es) = some (.tup [], wX b0 bs tl es) := by
  refine call_in e229 (by rfl) ?_
  have h101 := fun H => s239 (n + 2) H 127
  have x1 : decide ((127 : Int) < (x.size : Int)) = true := decide_eq_true (by omega)
  have l0 : decide (0 < tl.length + 1 + 1 + 1) = true := decide_eq_true (by omega)
  have l1 : decide (1 < tl.length + 1 + 1 + 1) = true := decide_eq_true (by omega)
  have l2 : decide (2 < tl.length + 1 + 1 + 1) = true := decide_eq_true (by omega)
  have l3' : decide (tl.length + 1 + 1 + 1 < 3) = false := decide_eq_false (by omega)
  have l3 : decide (3 ≤ tl.length + 1 + 1 + 1) = true := decide_eq_true (by omega)
  simp only [c229, go_sem, Int.reduceToNat, Nat.reduceAdd, Nat.reduceBEq, Nat.reduceLeDiff, Nat.reduceLT, Nat.reduceMul, Nat.reduceSub, Int.reduceEq, Int.reduceLT, Int.reduceLE, Int.reduceNeg, h101, x1, l0, l1, l2, l3, l3', List.filter_replicate, List.all_replicate, ite_self, if_true]
theorem s28e (n : Nat) : call1 T (n + 1) (.fn 177) [.ptr 1 0 0 0] (wX b0 bs tl es) = some (.tup [.str ⟨#[]⟩, .int .i64 8], wX b0 bs tl es) := by
  refine call_in e177 (by rfl) ?_
  have l3 : decide (3 ≤ tl.length + 1 + 1 + 1) = true := decide_eq_true (by omega)
  simp only [c177, go_sem, Int.reduceToNat, Nat.reduceAdd, Nat.reduceBEq, Nat.reduceLeDiff, Nat.reduceLT, Nat.reduceMul, Nat.reduceSub, Int.reduceEq, Int.reduceLT, Int.reduceLE, Int.reduceNeg, l3]
end
section
variable (n : Nat) (cs : List SV) (t1 t2 t3 : SBlk) (es : List (Nat × Nat)) (bs : List Bool)
theorem s82e (x : ByteArray) (j : Nat) (hj : cs[j]? = some (.str x)) (hx : 127 < x.size) :
    call1 T (n + 5) (.fn 215) [pW, .ptr 0 0 0 j] (wH (.box cs) bs [t1, t2, t3] es) = some (.tup [], wX (.box cs) bs [t1, t2, t3] es) := by
  refine call_in e215 (by rfl) ?_
  have h := fun t es => s93e (.box cs) [t1, t2, t3, t] es bs n x hx
  simp only [c215, go_sem, Int.reduceToNat, Nat.reduceAdd, Nat.reduceBEq, Nat.reduceLeDiff, Nat.reduceLT, Nat.reduceMul, Nat.reduceSub, Int.reduceEq, Int.reduceLT, Int.reduceLE, Int.reduceNeg, h, hj, List.length_cons, List.length_nil, List.filter_replicate, List.all_replicate, List.filter_append, List.all_append, Bool.and_self, List.append_assoc, ite_self, if_true]
theorem s57e (k s d q o c m e t u v : Int) (x : ByteArray) (hc : 0 ≤ c ∧ c ≤ 255) (hm : 0 ≤ m ∧ m ≤ 65535) (hx : 127 < x.size) (hb : bs.length ≤ 900) :
    call1 T (n + 6) (.fn 197) [pW, .ptr 0 0 0 0] (wH (.box (fr k s d q o c m e t u v x)) bs [t1, t2] es) = some (.tup [], wX (.box (fr k s d q o c m e t u v x)) (bs ++ (bits 8 c.toNat ++ (bits 16 m.toNat))) [t1, t2] (es ++ ek bs 24)) := by
  refine call_in e197 (by rfl) ?_
  have h0 : ∀ t' es, call1 T (n + 5) (.fn 201) [pW, .int .i64 8, .ptr 0 0 0 5] (wH (.box (fr k s d q o c m e t u v x)) bs [t1, t2, t'] es) = some (.tup [], wH (.box (fr k s d q o c m e t u v x)) (bs ++ (bits 8 c.toNat)) [t1, t2, t'] (es ++ ek bs 8)) := fun t' es => by
    have := s61b (n + 1) _ t1 t2 t' es bs 8 c.toNat 5 (show (fr k s d q o c m e t u v x)[5]? = _ by rw [Int.toNat_of_nonneg hc.1]; rfl) (by omega) (by omega) (by omega) (by omega)
    try simp only [List.append_assoc] at this
    exact this
  have l0 : (bs ++ (bits 8 c.toNat)).length = bs.length + 8 := by simp only [List.length_append, bits_len] <;> omega
  have h1 : ∀ t' es, call1 T (n + 5) (.fn 201) [pW, .int .i64 16, .ptr 0 0 0 6] (wH (.box (fr k s d q o c m e t u v x)) (bs ++ (bits 8 c.toNat)) [t1, t2, t'] es) = some (.tup [], wH (.box (fr k s d q o c m e t u v x)) (bs ++ (bits 8 c.toNat ++ (bits 16 m.toNat))) [t1, t2, t'] (es ++ ek (bs ++ (bits 8 c.toNat)) 16)) := fun t' es => by
    have := s61b (n + 1) _ t1 t2 t' es (bs ++ (bits 8 c.toNat)) 16 m.toNat 6 (show (fr k s d q o c m e t u v x)[6]? = _ by rw [Int.toNat_of_nonneg hm.1]; rfl) (by omega) (by omega) (by omega) (by rw [l0]; omega)
    try simp only [List.append_assoc] at this
    exact this
  have l1 : (bs ++ (bits 8 c.toNat ++ (bits 16 m.toNat))).length = bs.length + 24 := by simp only [List.length_append, bits_len] <;> omega
  have hT : ∀ t' es, call1 T (n + 5) (.fn 215) [pW, .ptr 0 0 0 11] (wH (.box (fr k s d q o c m e t u v x)) (bs ++ (bits 8 c.toNat ++ (bits 16 m.toNat))) [t1, t2, t'] es) = some (.tup [], wX (.box (fr k s d q o c m e t u v x)) (bs ++ (bits 8 c.toNat ++ (bits 16 m.toNat))) [t1, t2, t'] es) := fun t' es => s82e n (fr k s d q o c m e t u v x) t1 t2 t' es (bs ++ (bits 8 c.toNat ++ (bits 16 m.toNat))) x 11 rfl hx
  have hk : ek bs 24 = ek bs 8 ++ ek (bs ++ (bits 8 c.toNat)) 16 := by rw [ek_add l0]
  try simp only [List.append_assoc] at hk
  rw [hk]
  simp only [c197, go_sem, Int.reduceToNat, Nat.reduceAdd, Nat.reduceBEq, Nat.reduceLeDiff, Nat.reduceLT, Nat.reduceMul, Nat.reduceSub, Int.reduceEq, Int.reduceLT, Int.reduceLE, Int.reduceNeg, h0, h1, hT, List.length_cons, List.length_nil, List.filter_replicate, List.all_replicate, List.filter_append, List.all_append, Bool.and_self, List.append_assoc, ite_self, if_true]
theorem s59e (k s d q o c m e t u v : Int) (x : ByteArray) (ht : 0 ≤ t ∧ t ≤ 109951162) (hu : 0 ≤ u ∧ u ≤ 65535) (hv : 0 ≤ v ∧ v ≤ 65535) (hx : 127 < x.size) (hb : bs.length ≤ 900) :
    call1 T (n + 6) (.fn 199) [pW, .ptr 0 0 0 0] (wH (.box (fr k s d q o c m e t u v x)) bs [t1, t2] es) = some (.tup [], wX (.box (fr k s d q o c m e t u v x)) (bs ++ (bits 27 t.toNat ++ (bits 16 u.toNat ++ (bits 16 v.toNat)))) [t1, t2] (es ++ ek bs 59)) := by
  refine call_in e199 (by rfl) ?_
  have h0 : ∀ t' es, call1 T (n + 5) (.fn 201) [pW, .int .i64 27, .ptr 0 0 0 8] (wH (.box (fr k s d q o c m e t u v x)) bs [t1, t2, t'] es) = some (.tup [], wH (.box (fr k s d q o c m e t u v x)) (bs ++ (bits 27 t.toNat)) [t1, t2, t'] (es ++ ek bs 27)) := fun t' es => by
    have := s61b (n + 1) _ t1 t2 t' es bs 27 t.toNat 8 (show (fr k s d q o c m e t u v x)[8]? = _ by rw [Int.toNat_of_nonneg ht.1]; rfl) (by omega) (by omega) (by omega) (by omega)
    try simp only [List.append_assoc] at this
    exact this
  have l0 : (bs ++ (bits 27 t.toNat)).length = bs.length + 27 := by simp only [List.length_append, bits_len] <;> omega
  have h1 : ∀ t' es, call1 T (n + 5) (.fn 201) [pW, .int .i64 16, .ptr 0 0 0 9] (wH (.box (fr k s d q o c m e t u v x)) (bs ++ (bits 27 t.toNat)) [t1, t2, t'] es) = some (.tup [], wH (.box (fr k s d q o c m e t u v x)) (bs ++ (bits 27 t.toNat ++ (bits 16 u.toNat))) [t1, t2, t'] (es ++ ek (bs ++ (bits 27 t.toNat)) 16)) := fun t' es => by
    have := s61b (n + 1) _ t1 t2 t' es (bs ++ (bits 27 t.toNat)) 16 u.toNat 9 (show (fr k s d q o c m e t u v x)[9]? = _ by rw [Int.toNat_of_nonneg hu.1]; rfl) (by omega) (by omega) (by omega) (by rw [l0]; omega)
    try simp only [List.append_assoc] at this
    exact this
  have l1 : (bs ++ (bits 27 t.toNat ++ (bits 16 u.toNat))).length = bs.length + 43 := by simp only [List.length_append, bits_len] <;> omega
  have h2 : ∀ t' es, call1 T (n + 5) (.fn 201) [pW, .int .i64 16, .ptr 0 0 0 10] (wH (.box (fr k s d q o c m e t u v x)) (bs ++ (bits 27 t.toNat ++ (bits 16 u.toNat))) [t1, t2, t'] es) = some (.tup [], wH (.box (fr k s d q o c m e t u v x)) (bs ++ (bits 27 t.toNat ++ (bits 16 u.toNat ++ (bits 16 v.toNat)))) [t1, t2, t'] (es ++ ek (bs ++ (bits 27 t.toNat ++ (bits 16 u.toNat))) 16)) := fun t' es => by
    have := s61b (n + 1) _ t1 t2 t' es (bs ++ (bits 27 t.toNat ++ (bits 16 u.toNat))) 16 v.toNat 10 (show (fr k s d q o c m e t u v x)[10]? = _ by rw [Int.toNat_of_nonneg hv.1]; rfl) (by omega) (by omega) (by omega) (by rw [l1]; omega)
    try simp only [List.append_assoc] at this
    exact this
  have l2 : (bs ++ (bits 27 t.toNat ++ (bits 16 u.toNat ++ (bits 16 v.toNat)))).length = bs.length + 59 := by simp only [List.length_append, bits_len] <;> omega
  have hT : ∀ t' es, call1 T (n + 5) (.fn 215) [pW, .ptr 0 0 0 11] (wH (.box (fr k s d q o c m e t u v x)) (bs ++ (bits 27 t.toNat ++ (bits 16 u.toNat ++ (bits 16 v.toNat)))) [t1, t2, t'] es) = some (.tup [], wX (.box (fr k s d q o c m e t u v x)) (bs ++ (bits 27 t.toNat ++ (bits 16 u.toNat ++ (bits 16 v.toNat)))) [t1, t2, t'] es) := fun t' es => s82e n (fr k s d q o c m e t u v x) t1 t2 t' es (bs ++ (bits 27 t.toNat ++ (bits 16 u.toNat ++ (bits 16 v.toNat)))) x 11 rfl hx
  have hk : ek bs 59 = ek bs 27 ++ ek (bs ++ (bits 27 t.toNat)) 16 ++ ek (bs ++ (bits 27 t.toNat ++ (bits 16 u.toNat))) 16 := by rw [ek_add l0, ek_add l1]
  try simp only [List.append_assoc] at hk
  rw [hk]
  simp only [c199, go_sem, Int.reduceToNat, Nat.reduceAdd, Nat.reduceBEq, Nat.reduceLeDiff, Nat.reduceLT, Nat.reduceMul, Nat.reduceSub, Int.reduceEq, Int.reduceLT, Int.reduceLE, Int.reduceNeg, h0, h1, h2, hT, List.length_cons, List.length_nil, List.filter_replicate, List.all_replicate, List.filter_append, List.all_append, Bool.and_self, List.append_assoc, ite_self, if_true]
theorem s60e (k s d q o c m e t u v : Int) (x : ByteArray)  (hx : 127 < x.size) (hb : bs.length ≤ 900) :
    call1 T (n + 6) (.fn 200) [pW, .ptr 0 0 0 0] (wH (.box (fr k s d q o c m e t u v x)) bs [t1, t2] es) = some (.tup [], wX (.box (fr k s d q o c m e t u v x)) bs [t1, t2] es) := by
  refine call_in e200 (by rfl) ?_
  have hT : ∀ t' es, call1 T (n + 5) (.fn 215) [pW, .ptr 0 0 0 11] (wH (.box (fr k s d q o c m e t u v x)) bs [t1, t2, t'] es) = some (.tup [], wX (.box (fr k s d q o c m e t u v x)) bs [t1, t2, t'] es) := fun t' es => s82e n (fr k s d q o c m e t u v x) t1 t2 t' es bs x 11 rfl hx
  simp only [c200, go_sem, Int.reduceToNat, Nat.reduceAdd, Nat.reduceBEq, Nat.reduceLeDiff, Nat.reduceLT, Nat.reduceMul, Nat.reduceSub, Int.reduceEq, Int.reduceLT, Int.reduceLE, Int.reduceNeg, hT, List.length_cons, List.length_nil, List.filter_replicate, List.all_replicate, List.filter_append, List.all_append, Bool.and_self, List.append_assoc, ite_self, if_true]
theorem s27e_1 (s d q o c m e t u v : Int) (x : ByteArray) (hs : 0 ≤ s ∧ s ≤ 31) (hd : d < 32) (hd0 : d < 0 → d = -1) (hq : 0 ≤ q ∧ q ≤ 255) (ho : 0 ≤ o ∧ o ≤ 255) (hc : 0 ≤ c ∧ c ≤ 255) (hm : 0 ≤ m ∧ m ≤ 65535) (hx : 127 < x.size) (hb : bs.length ≤ 100) :
    ∃ bs' es', call1 T (n + 7) (.fn 176) [pW, .ptr 0 0 0 0] (wH (.box (fr 1 s d q o c m e t u v x)) bs [] es) = some (.bool true, wX (.box (fr 1 s d q o c m e t u v x)) bs' [] es') := by
  refine ⟨(bs ++ (bits 3 1 ++ (bits 5 s.toNat ++ (tgBits d ++ (bits 8 q.toNat ++ (bits 8 o.toNat ++ (bits 8 c.toNat ++ (bits 16 m.toNat)))))))), es ++ (ek bs 3 ++ (ek (bs ++ (bits 3 1)) 5 ++ (ek (bs ++ (bits 3 1 ++ (bits 5 s.toNat))) (tgLen d) ++ (ek (bs ++ (bits 3 1 ++ (bits 5 s.toNat ++ (tgBits d)))) 8 ++ (ek (bs ++ (bits 3 1 ++ (bits 5 s.toNat ++ (tgBits d ++ (bits 8 q.toNat))))) 8 ++ (ek (bs ++ (bits 3 1 ++ (bits 5 s.toNat ++ (tgBits d ++ (bits 8 q.toNat ++ (bits 8 o.toNat)))))) 24)))))), ?_⟩
  refine call_in e176 (by rfl) ?_
  have h0 : ∀ t1 t2 es, call1 T (n + 6) (.fn 201) [pW, .int .i64 3, .ptr 0 0 0 0] (wH (.box (fr 1 s d q o c m e t u v x)) bs [t1, t2] es) = some (.tup [], wH (.box (fr 1 s d q o c m e t u v x)) (bs ++ (bits 3 1)) [t1, t2] (es ++ ek bs 3)) := fun t1 t2 es => by
    have := s61a (n + 2) (fr 1 s d q o c m e t u v x) t1 t2 es bs 3 1 0 rfl (by omega) (by omega) (by omega) (by omega)
    try simp only [List.append_assoc] at this
    exact this
  have l0 : (bs ++ (bits 3 1)).length = bs.length + (3) := by simp only [List.length_append, bits_len, tgLen_eq] <;> omega
  have h1 : ∀ t1 t2 es, call1 T (n + 6) (.fn 201) [pW, .int .i64 5, .ptr 0 0 0 1] (wH (.box (fr 1 s d q o c m e t u v x)) (bs ++ (bits 3 1)) [t1, t2] es) = some (.tup [], wH (.box (fr 1 s d q o c m e t u v x)) (bs ++ (bits 3 1 ++ (bits 5 s.toNat))) [t1, t2] (es ++ ek (bs ++ (bits 3 1)) 5)) := fun t1 t2 es => by
    have := s61a (n + 2) (fr 1 s d q o c m e t u v x) t1 t2 es (bs ++ (bits 3 1)) 5 s.toNat 1 (show (fr 1 s d q o c m e t u v x)[1]? = _ by rw [Int.toNat_of_nonneg hs.1]; rfl) (by omega) (by omega) (by omega) (by have := tgLe d; rw [l0]; omega)
    try simp only [List.append_assoc] at this
    exact this
  have l1 : (bs ++ (bits 3 1 ++ (bits 5 s.toNat))).length = bs.length + (8) := by simp only [List.length_append, bits_len, tgLen_eq] <;> omega
  have h2 : ∀ t1 t2 es, call1 T (n + 6) (.fn 202) [pW, .ptr 0 0 0 2] (wH (.box (fr 1 s d q o c m e t u v x)) (bs ++ (bits 3 1 ++ (bits 5 s.toNat))) [t1, t2] es) = some (.tup [], wH (.box (fr 1 s d q o c m e t u v x)) (bs ++ (bits 3 1 ++ (bits 5 s.toNat ++ (tgBits d)))) [t1, t2] (es ++ ek (bs ++ (bits 3 1 ++ (bits 5 s.toNat))) (tgLen d))) := fun t1 t2 es => by
    have := s202 n t1 t2 es (bs ++ (bits 3 1 ++ (bits 5 s.toNat))) 1 s d q o c m e t u v x hd hd0 (by rw [l1]; omega)
    try simp only [List.append_assoc] at this
    exact this
  have l2 : (bs ++ (bits 3 1 ++ (bits 5 s.toNat ++ (tgBits d)))).length = bs.length + (8 + tgLen d) := by simp only [List.length_append, bits_len, tgLen_eq] <;> omega
  have h3 : ∀ t1 t2 es, call1 T (n + 6) (.fn 201) [pW, .int .i64 8, .ptr 0 0 0 3] (wH (.box (fr 1 s d q o c m e t u v x)) (bs ++ (bits 3 1 ++ (bits 5 s.toNat ++ (tgBits d)))) [t1, t2] es) = some (.tup [], wH (.box (fr 1 s d q o c m e t u v x)) (bs ++ (bits 3 1 ++ (bits 5 s.toNat ++ (tgBits d ++ (bits 8 q.toNat))))) [t1, t2] (es ++ ek (bs ++ (bits 3 1 ++ (bits 5 s.toNat ++ (tgBits d)))) 8)) := fun t1 t2 es => by
    have := s61a (n + 2) (fr 1 s d q o c m e t u v x) t1 t2 es (bs ++ (bits 3 1 ++ (bits 5 s.toNat ++ (tgBits d)))) 8 q.toNat 3 (show (fr 1 s d q o c m e t u v x)[3]? = _ by rw [Int.toNat_of_nonneg hq.1]; rfl) (by omega) (by omega) (by omega) (by have := tgLe d; rw [l2]; omega)
    try simp only [List.append_assoc] at this
    exact this
  have l3 : (bs ++ (bits 3 1 ++ (bits 5 s.toNat ++ (tgBits d ++ (bits 8 q.toNat))))).length = bs.length + (16 + tgLen d) := by simp only [List.length_append, bits_len, tgLen_eq] <;> omega
  have h4 : ∀ t1 t2 es, call1 T (n + 6) (.fn 201) [pW, .int .i64 8, .ptr 0 0 0 4] (wH (.box (fr 1 s d q o c m e t u v x)) (bs ++ (bits 3 1 ++ (bits 5 s.toNat ++ (tgBits d ++ (bits 8 q.toNat))))) [t1, t2] es) = some (.tup [], wH (.box (fr 1 s d q o c m e t u v x)) (bs ++ (bits 3 1 ++ (bits 5 s.toNat ++ (tgBits d ++ (bits 8 q.toNat ++ (bits 8 o.toNat)))))) [t1, t2] (es ++ ek (bs ++ (bits 3 1 ++ (bits 5 s.toNat ++ (tgBits d ++ (bits 8 q.toNat))))) 8)) := fun t1 t2 es => by
    have := s61a (n + 2) (fr 1 s d q o c m e t u v x) t1 t2 es (bs ++ (bits 3 1 ++ (bits 5 s.toNat ++ (tgBits d ++ (bits 8 q.toNat))))) 8 o.toNat 4 (show (fr 1 s d q o c m e t u v x)[4]? = _ by rw [Int.toNat_of_nonneg ho.1]; rfl) (by omega) (by omega) (by omega) (by have := tgLe d; rw [l3]; omega)
    try simp only [List.append_assoc] at this
    exact this
  have l4 : (bs ++ (bits 3 1 ++ (bits 5 s.toNat ++ (tgBits d ++ (bits 8 q.toNat ++ (bits 8 o.toNat)))))).length = bs.length + (24 + tgLen d) := by simp only [List.length_append, bits_len, tgLen_eq] <;> omega
  have hb1 : ∀ t1 t2 es, call1 T (n + 6) (.fn 197) [pW, .ptr 0 0 0 0] (wH (.box (fr 1 s d q o c m e t u v x)) (bs ++ (bits 3 1 ++ (bits 5 s.toNat ++ (tgBits d ++ (bits 8 q.toNat ++ (bits 8 o.toNat)))))) [t1, t2] es) = some (.tup [], wX (.box (fr 1 s d q o c m e t u v x)) (bs ++ (bits 3 1 ++ (bits 5 s.toNat ++ (tgBits d ++ (bits 8 q.toNat ++ (bits 8 o.toNat ++ (bits 8 c.toNat ++ (bits 16 m.toNat)))))))) [t1, t2] (es ++ ek (bs ++ (bits 3 1 ++ (bits 5 s.toNat ++ (tgBits d ++ (bits 8 q.toNat ++ (bits 8 o.toNat)))))) 24)) := fun t1 t2 es => by
    have := s57e n t1 t2 es (bs ++ (bits 3 1 ++ (bits 5 s.toNat ++ (tgBits d ++ (bits 8 q.toNat ++ (bits 8 o.toNat)))))) 1 s d q o c m e t u v x hc hm hx (by have := tgLe d; rw [l4]; omega)
    try simp only [List.append_assoc] at this
    exact this
  simp only [c176, go_sem, Int.reduceToNat, Nat.reduceAdd, Nat.reduceBEq, Nat.reduceLeDiff, Nat.reduceLT, Nat.reduceMul, Nat.reduceSub, Int.reduceEq, Int.reduceLT, Int.reduceLE, Int.reduceNeg, h0, h1, h2, h3, h4, hb1, List.length_cons, List.length_nil, List.filter_replicate, List.all_replicate, List.filter_append, List.all_append, Bool.and_self, List.append_assoc, ite_self, if_true]
theorem s27e_3 (s d q o c m e t u v : Int) (x : ByteArray) (hs : 0 ≤ s ∧ s ≤ 31) (hd : d < 32) (hd0 : d < 0 → d = -1) (hq : 0 ≤ q ∧ q ≤ 255) (ho : 0 ≤ o ∧ o ≤ 255) (ht : 0 ≤ t ∧ t ≤ 109951162) (hu : 0 ≤ u ∧ u ≤ 65535) (hv : 0 ≤ v ∧ v ≤ 65535) (hx : 127 < x.size) (hb : bs.length ≤ 100) :
    ∃ bs' es', call1 T (n + 7) (.fn 176) [pW, .ptr 0 0 0 0] (wH (.box (fr 3 s d q o c m e t u v x)) bs [] es) = some (.bool true, wX (.box (fr 3 s d q o c m e t u v x)) bs' [] es') := by
  refine ⟨(bs ++ (bits 3 3 ++ (bits 5 s.toNat ++ (tgBits d ++ (bits 8 q.toNat ++ (bits 8 o.toNat ++ (bits 27 t.toNat ++ (bits 16 u.toNat ++ (bits 16 v.toNat))))))))), es ++ (ek bs 3 ++ (ek (bs ++ (bits 3 3)) 5 ++ (ek (bs ++ (bits 3 3 ++ (bits 5 s.toNat))) (tgLen d) ++ (ek (bs ++ (bits 3 3 ++ (bits 5 s.toNat ++ (tgBits d)))) 8 ++ (ek (bs ++ (bits 3 3 ++ (bits 5 s.toNat ++ (tgBits d ++ (bits 8 q.toNat))))) 8 ++ (ek (bs ++ (bits 3 3 ++ (bits 5 s.toNat ++ (tgBits d ++ (bits 8 q.toNat ++ (bits 8 o.toNat)))))) 59)))))), ?_⟩
  refine call_in e176 (by rfl) ?_
  have h0 : ∀ t1 t2 es, call1 T (n + 6) (.fn 201) [pW, .int .i64 3, .ptr 0 0 0 0] (wH (.box (fr 3 s d q o c m e t u v x)) bs [t1, t2] es) = some (.tup [], wH (.box (fr 3 s d q o c m e t u v x)) (bs ++ (bits 3 3)) [t1, t2] (es ++ ek bs 3)) := fun t1 t2 es => by
    have := s61a (n + 2) (fr 3 s d q o c m e t u v x) t1 t2 es bs 3 3 0 rfl (by omega) (by omega) (by omega) (by omega)
    try simp only [List.append_assoc] at this
    exact this
  have l0 : (bs ++ (bits 3 3)).length = bs.length + (3) := by simp only [List.length_append, bits_len, tgLen_eq] <;> omega
  have h1 : ∀ t1 t2 es, call1 T (n + 6) (.fn 201) [pW, .int .i64 5, .ptr 0 0 0 1] (wH (.box (fr 3 s d q o c m e t u v x)) (bs ++ (bits 3 3)) [t1, t2] es) = some (.tup [], wH (.box (fr 3 s d q o c m e t u v x)) (bs ++ (bits 3 3 ++ (bits 5 s.toNat))) [t1, t2] (es ++ ek (bs ++ (bits 3 3)) 5)) := fun t1 t2 es => by
    have := s61a (n + 2) (fr 3 s d q o c m e t u v x) t1 t2 es (bs ++ (bits 3 3)) 5 s.toNat 1 (show (fr 3 s d q o c m e t u v x)[1]? = _ by rw [Int.toNat_of_nonneg hs.1]; rfl) (by omega) (by omega) (by omega) (by have := tgLe d; rw [l0]; omega)
    try simp only [List.append_assoc] at this
    exact this
  have l1 : (bs ++ (bits 3 3 ++ (bits 5 s.toNat))).length = bs.length + (8) := by simp only [List.length_append, bits_len, tgLen_eq] <;> omega
  have h2 : ∀ t1 t2 es, call1 T (n + 6) (.fn 202) [pW, .ptr 0 0 0 2] (wH (.box (fr 3 s d q o c m e t u v x)) (bs ++ (bits 3 3 ++ (bits 5 s.toNat))) [t1, t2] es) = some (.tup [], wH (.box (fr 3 s d q o c m e t u v x)) (bs ++ (bits 3 3 ++ (bits 5 s.toNat ++ (tgBits d)))) [t1, t2] (es ++ ek (bs ++ (bits 3 3 ++ (bits 5 s.toNat))) (tgLen d))) := fun t1 t2 es => by
    have := s202 n t1 t2 es (bs ++ (bits 3 3 ++ (bits 5 s.toNat))) 3 s d q o c m e t u v x hd hd0 (by rw [l1]; omega)
    try simp only [List.append_assoc] at this
    exact this
  have l2 : (bs ++ (bits 3 3 ++ (bits 5 s.toNat ++ (tgBits d)))).length = bs.length + (8 + tgLen d) := by simp only [List.length_append, bits_len, tgLen_eq] <;> omega
  have h3 : ∀ t1 t2 es, call1 T (n + 6) (.fn 201) [pW, .int .i64 8, .ptr 0 0 0 3] (wH (.box (fr 3 s d q o c m e t u v x)) (bs ++ (bits 3 3 ++ (bits 5 s.toNat ++ (tgBits d)))) [t1, t2] es) = some (.tup [], wH (.box (fr 3 s d q o c m e t u v x)) (bs ++ (bits 3 3 ++ (bits 5 s.toNat ++ (tgBits d ++ (bits 8 q.toNat))))) [t1, t2] (es ++ ek (bs ++ (bits 3 3 ++ (bits 5 s.toNat ++ (tgBits d)))) 8)) := fun t1 t2 es => by
    have := s61a (n + 2) (fr 3 s d q o c m e t u v x) t1 t2 es (bs ++ (bits 3 3 ++ (bits 5 s.toNat ++ (tgBits d)))) 8 q.toNat 3 (show (fr 3 s d q o c m e t u v x)[3]? = _ by rw [Int.toNat_of_nonneg hq.1]; rfl) (by omega) (by omega) (by omega) (by have := tgLe d; rw [l2]; omega)
    try simp only [List.append_assoc] at this
    exact this
  have l3 : (bs ++ (bits 3 3 ++ (bits 5 s.toNat ++ (tgBits d ++ (bits 8 q.toNat))))).length = bs.length + (16 + tgLen d) := by simp only [List.length_append, bits_len, tgLen_eq] <;> omega
  have h4 : ∀ t1 t2 es, call1 T (n + 6) (.fn 201) [pW, .int .i64 8, .ptr 0 0 0 4] (wH (.box (fr 3 s d q o c m e t u v x)) (bs ++ (bits 3 3 ++ (bits 5 s.toNat ++ (tgBits d ++ (bits 8 q.toNat))))) [t1, t2] es) = some (.tup [], wH (.box (fr 3 s d q o c m e t u v x)) (bs ++ (bits 3 3 ++ (bits 5 s.toNat ++ (tgBits d ++ (bits 8 q.toNat ++ (bits 8 o.toNat)))))) [t1, t2] (es ++ ek (bs ++ (bits 3 3 ++ (bits 5 s.toNat ++ (tgBits d ++ (bits 8 q.toNat))))) 8)) := fun t1 t2 es => by
    have := s61a (n + 2) (fr 3 s d q o c m e t u v x) t1 t2 es (bs ++ (bits 3 3 ++ (bits 5 s.toNat ++ (tgBits d ++ (bits 8 q.toNat))))) 8 o.toNat 4 (show (fr 3 s d q o c m e t u v x)[4]? = _ by rw [Int.toNat_of_nonneg ho.1]; rfl) (by omega) (by omega) (by omega) (by have := tgLe d; rw [l3]; omega)
    try simp only [List.append_assoc] at this
    exact this
  have l4 : (bs ++ (bits 3 3 ++ (bits 5 s.toNat ++ (tgBits d ++ (bits 8 q.toNat ++ (bits 8 o.toNat)))))).length = bs.length + (24 + tgLen d) := by simp only [List.length_append, bits_len, tgLen_eq] <;> omega
  have hb1 : ∀ t1 t2 es, call1 T (n + 6) (.fn 199) [pW, .ptr 0 0 0 0] (wH (.box (fr 3 s d q o c m e t u v x)) (bs ++ (bits 3 3 ++ (bits 5 s.toNat ++ (tgBits d ++ (bits 8 q.toNat ++ (bits 8 o.toNat)))))) [t1, t2] es) = some (.tup [], wX (.box (fr 3 s d q o c m e t u v x)) (bs ++ (bits 3 3 ++ (bits 5 s.toNat ++ (tgBits d ++ (bits 8 q.toNat ++ (bits 8 o.toNat ++ (bits 27 t.toNat ++ (bits 16 u.toNat ++ (bits 16 v.toNat))))))))) [t1, t2] (es ++ ek (bs ++ (bits 3 3 ++ (bits 5 s.toNat ++ (tgBits d ++ (bits 8 q.toNat ++ (bits 8 o.toNat)))))) 59)) := fun t1 t2 es => by
    have := s59e n t1 t2 es (bs ++ (bits 3 3 ++ (bits 5 s.toNat ++ (tgBits d ++ (bits 8 q.toNat ++ (bits 8 o.toNat)))))) 3 s d q o c m e t u v x ht hu hv hx (by have := tgLe d; rw [l4]; omega)
    try simp only [List.append_assoc] at this
    exact this
  simp only [c176, go_sem, Int.reduceToNat, Nat.reduceAdd, Nat.reduceBEq, Nat.reduceLeDiff, Nat.reduceLT, Nat.reduceMul, Nat.reduceSub, Int.reduceEq, Int.reduceLT, Int.reduceLE, Int.reduceNeg, h0, h1, h2, h3, h4, hb1, List.length_cons, List.length_nil, List.filter_replicate, List.all_replicate, List.filter_append, List.all_append, Bool.and_self, List.append_assoc, ite_self, if_true]
theorem s27e_4 (s d q o c m e t u v : Int) (x : ByteArray) (hs : 0 ≤ s ∧ s ≤ 31) (hd : d < 32) (hd0 : d < 0 → d = -1) (hq : 0 ≤ q ∧ q ≤ 255) (ho : 0 ≤ o ∧ o ≤ 255)  (hx : 127 < x.size) (hb : bs.length ≤ 100) :
    ∃ bs' es', call1 T (n + 7) (.fn 176) [pW, .ptr 0 0 0 0] (wH (.box (fr 4 s d q o c m e t u v x)) bs [] es) = some (.bool true, wX (.box (fr 4 s d q o c m e t u v x)) bs' [] es') := by
  refine ⟨(bs ++ (bits 3 4 ++ (bits 5 s.toNat ++ (tgBits d ++ (bits 8 q.toNat ++ (bits 8 o.toNat)))))), es ++ (ek bs 3 ++ (ek (bs ++ (bits 3 4)) 5 ++ (ek (bs ++ (bits 3 4 ++ (bits 5 s.toNat))) (tgLen d) ++ (ek (bs ++ (bits 3 4 ++ (bits 5 s.toNat ++ (tgBits d)))) 8 ++ (ek (bs ++ (bits 3 4 ++ (bits 5 s.toNat ++ (tgBits d ++ (bits 8 q.toNat))))) 8))))), ?_⟩
  refine call_in e176 (by rfl) ?_
  have h0 : ∀ t1 t2 es, call1 T (n + 6) (.fn 201) [pW, .int .i64 3, .ptr 0 0 0 0] (wH (.box (fr 4 s d q o c m e t u v x)) bs [t1, t2] es) = some (.tup [], wH (.box (fr 4 s d q o c m e t u v x)) (bs ++ (bits 3 4)) [t1, t2] (es ++ ek bs 3)) := fun t1 t2 es => by
    have := s61a (n + 2) (fr 4 s d q o c m e t u v x) t1 t2 es bs 3 4 0 rfl (by omega) (by omega) (by omega) (by omega)
    try simp only [List.append_assoc] at this
    exact this
  have l0 : (bs ++ (bits 3 4)).length = bs.length + (3) := by simp only [List.length_append, bits_len, tgLen_eq] <;> omega
  have h1 : ∀ t1 t2 es, call1 T (n + 6) (.fn 201) [pW, .int .i64 5, .ptr 0 0 0 1] (wH (.box (fr 4 s d q o c m e t u v x)) (bs ++ (bits 3 4)) [t1, t2] es) = some (.tup [], wH (.box (fr 4 s d q o c m e t u v x)) (bs ++ (bits 3 4 ++ (bits 5 s.toNat))) [t1, t2] (es ++ ek (bs ++ (bits 3 4)) 5)) := fun t1 t2 es => by
    have := s61a (n + 2) (fr 4 s d q o c m e t u v x) t1 t2 es (bs ++ (bits 3 4)) 5 s.toNat 1 (show (fr 4 s d q o c m e t u v x)[1]? = _ by rw [Int.toNat_of_nonneg hs.1]; rfl) (by omega) (by omega) (by omega) (by have := tgLe d; rw [l0]; omega)
    try simp only [List.append_assoc] at this
    exact this
  have l1 : (bs ++ (bits 3 4 ++ (bits 5 s.toNat))).length = bs.length + (8) := by simp only [List.length_append, bits_len, tgLen_eq] <;> omega
  have h2 : ∀ t1 t2 es, call1 T (n + 6) (.fn 202) [pW, .ptr 0 0 0 2] (wH (.box (fr 4 s d q o c m e t u v x)) (bs ++ (bits 3 4 ++ (bits 5 s.toNat))) [t1, t2] es) = some (.tup [], wH (.box (fr 4 s d q o c m e t u v x)) (bs ++ (bits 3 4 ++ (bits 5 s.toNat ++ (tgBits d)))) [t1, t2] (es ++ ek (bs ++ (bits 3 4 ++ (bits 5 s.toNat))) (tgLen d))) := fun t1 t2 es => by
    have := s202 n t1 t2 es (bs ++ (bits 3 4 ++ (bits 5 s.toNat))) 4 s d q o c m e t u v x hd hd0 (by rw [l1]; omega)
    try simp only [List.append_assoc] at this
    exact this
  have l2 : (bs ++ (bits 3 4 ++ (bits 5 s.toNat ++ (tgBits d)))).length = bs.length + (8 + tgLen d) := by simp only [List.length_append, bits_len, tgLen_eq] <;> omega
  have h3 : ∀ t1 t2 es, call1 T (n + 6) (.fn 201) [pW, .int .i64 8, .ptr 0 0 0 3] (wH (.box (fr 4 s d q o c m e t u v x)) (bs ++ (bits 3 4 ++ (bits 5 s.toNat ++ (tgBits d)))) [t1, t2] es) = some (.tup [], wH (.box (fr 4 s d q o c m e t u v x)) (bs ++ (bits 3 4 ++ (bits 5 s.toNat ++ (tgBits d ++ (bits 8 q.toNat))))) [t1, t2] (es ++ ek (bs ++ (bits 3 4 ++ (bits 5 s.toNat ++ (tgBits d)))) 8)) := fun t1 t2 es => by
    have := s61a (n + 2) (fr 4 s d q o c m e t u v x) t1 t2 es (bs ++ (bits 3 4 ++ (bits 5 s.toNat ++ (tgBits d)))) 8 q.toNat 3 (show (fr 4 s d q o c m e t u v x)[3]? = _ by rw [Int.toNat_of_nonneg hq.1]; rfl) (by omega) (by omega) (by omega) (by have := tgLe d; rw [l2]; omega)
    try simp only [List.append_assoc] at this
    exact this
  have l3 : (bs ++ (bits 3 4 ++ (bits 5 s.toNat ++ (tgBits d ++ (bits 8 q.toNat))))).length = bs.length + (16 + tgLen d) := by simp only [List.length_append, bits_len, tgLen_eq] <;> omega
  have h4 : ∀ t1 t2 es, call1 T (n + 6) (.fn 201) [pW, .int .i64 8, .ptr 0 0 0 4] (wH (.box (fr 4 s d q o c m e t u v x)) (bs ++ (bits 3 4 ++ (bits 5 s.toNat ++ (tgBits d ++ (bits 8 q.toNat))))) [t1, t2] es) = some (.tup [], wH (.box (fr 4 s d q o c m e t u v x)) (bs ++ (bits 3 4 ++ (bits 5 s.toNat ++ (tgBits d ++ (bits 8 q.toNat ++ (bits 8 o.toNat)))))) [t1, t2] (es ++ ek (bs ++ (bits 3 4 ++ (bits 5 s.toNat ++ (tgBits d ++ (bits 8 q.toNat))))) 8)) := fun t1 t2 es => by
    have := s61a (n + 2) (fr 4 s d q o c m e t u v x) t1 t2 es (bs ++ (bits 3 4 ++ (bits 5 s.toNat ++ (tgBits d ++ (bits 8 q.toNat))))) 8 o.toNat 4 (show (fr 4 s d q o c m e t u v x)[4]? = _ by rw [Int.toNat_of_nonneg ho.1]; rfl) (by omega) (by omega) (by omega) (by have := tgLe d; rw [l3]; omega)
    try simp only [List.append_assoc] at this
    exact this
  have l4 : (bs ++ (bits 3 4 ++ (bits 5 s.toNat ++ (tgBits d ++ (bits 8 q.toNat ++ (bits 8 o.toNat)))))).length = bs.length + (24 + tgLen d) := by simp only [List.length_append, bits_len, tgLen_eq] <;> omega
  have hb1 : ∀ t1 t2 es, call1 T (n + 6) (.fn 200) [pW, .ptr 0 0 0 0] (wH (.box (fr 4 s d q o c m e t u v x)) (bs ++ (bits 3 4 ++ (bits 5 s.toNat ++ (tgBits d ++ (bits 8 q.toNat ++ (bits 8 o.toNat)))))) [t1, t2] es) = some (.tup [], wX (.box (fr 4 s d q o c m e t u v x)) (bs ++ (bits 3 4 ++ (bits 5 s.toNat ++ (tgBits d ++ (bits 8 q.toNat ++ (bits 8 o.toNat)))))) [t1, t2] es) := fun t1 t2 es => by
    have := s60e n t1 t2 es (bs ++ (bits 3 4 ++ (bits 5 s.toNat ++ (tgBits d ++ (bits 8 q.toNat ++ (bits 8 o.toNat)))))) 4 s d q o c m e t u v x  hx (by have := tgLe d; rw [l4]; omega)
    try simp only [List.append_assoc] at this
    exact this
  simp only [c176, go_sem, Int.reduceToNat, Nat.reduceAdd, Nat.reduceBEq, Nat.reduceLeDiff, Nat.reduceLT, Nat.reduceMul, Nat.reduceSub, Int.reduceEq, Int.reduceLT, Int.reduceLE, Int.reduceNeg, h0, h1, h2, h3, h4, hb1, List.length_cons, List.length_nil, List.filter_replicate, List.all_replicate, List.filter_append, List.all_append, Bool.and_self, List.append_assoc, ite_self, if_true]
end
end C13
end Go.Sh
namespace Go.Sh
set_option linter.unusedSectionVars false
set_option linter.unnecessarySimpa false
set_option linter.unusedVariables false
set_option linter.unusedSimpArgs false
set_option maxRecDepth 100000
set_option maxHeartbeats 4000000
namespace C13
def bdBits (k c m e t u v : Int) (x : ByteArray) : List Bool :=
  bif decide (k = 1) then bits 8 c.toNat ++ (bits 16 m.toNat ++ (bits 7 x.size ++ txB x x.size))
  else bif decide (k = 2) then bits 16 (sgN e)
  else bif decide (k = 3) then bits 27 t.toNat ++ (bits 16 u.toNat ++ (bits 16 v.toNat ++ (bits 7 x.size ++ txB x x.size)))
  else bits 7 x.size ++ txB x x.size
def enBits (k s d q o c m e t u v : Int) (x : ByteArray) : List Bool :=
  bits 3 k.toNat ++ (bits 5 s.toNat ++ (tgBits d ++ (bits 8 q.toNat ++ (bits 8 o.toNat ++ bdBits k c m e t u v x))))
def enV (k s d q o c m e t u v : Int) (x : ByteArray) : SV :=
  bif !chB k s d q o c m e t u v x then .tup [.str ⟨#[]⟩, .int .i64 1]
  else bif decide (127 < x.size) || decide (127 < (pkB (enBits k s d q o c m e t u v x)).size + 2) then .tup [.str ⟨#[]⟩, .int .i64 8]
  else .tup [.str (prot (pkB (enBits k s d q o c m e t u v x))), .int .i64 0]
theorem s175 (n : Nat) (es : List (Nat × Nat)) (b0 : SBlk) : call1 T (n + 1) (.kfn 175) [] ⟨[b0], es, 0⟩ = some (.ptr 1 0 0 0, ⟨[b0, .box [.lst 0 [] true, .int .i64 0, .int .i64 0]], es, 0⟩) := by
  refine kcall_in e175 ?_
  simp only [c175, go_sem, Int.reduceToNat, Nat.reduceAdd, Nat.reduceBEq, Nat.reduceLeDiff, Nat.reduceLT, Nat.reduceMul, Nat.reduceSub, Int.reduceEq, Int.reduceLT, Int.reduceLE, Int.reduceNeg]
theorem chB_k {k s d q o c m e t u v : Int} {x : ByteArray} (h : chB k s d q o c m e t u v x = true) :
    (0 ≤ s ∧ s ≤ 31) ∧ d < 32 ∧ (d < 0 → d = -1) ∧ (0 ≤ q ∧ q ≤ 255) ∧ (0 ≤ o ∧ o ≤ 255) ∧
      ((k = 1 ∧ (0 ≤ c ∧ c ≤ 255) ∧ (0 ≤ m ∧ m ≤ 65535)) ∨ (k = 2 ∧ (-32768 ≤ e ∧ e ≤ 32767) ∧ x = ⟨#[]⟩) ∨ (k = 3 ∧ (0 ≤ t ∧ t ≤ 109951162) ∧ (0 ≤ u ∧ u ≤ 65535) ∧ (0 ≤ v ∧ v ≤ 65535)) ∨ k = 4) := by
  unfold chB tgB at h
  simp only [inB, erB, Bool.and_eq_true, decide_eq_true_eq] at h
  obtain ⟨h1, hs, hq, ho⟩ := h
  by_cases k1 : k = 1
  · rw [decide_eq_true k1] at h1
    simp only [cond_true, Bool.and_eq_true, decide_eq_true_eq, Bool.not_eq_true', decide_eq_false_iff_not] at h1
    exact ⟨hs, by omega, by omega, hq, ho, .inl ⟨k1, h1.1.1.2, h1.1.2⟩⟩
  · rw [decide_eq_false k1] at h1
    by_cases k2 : k = 2
    · rw [decide_eq_true k2] at h1
      simp only [cond_true, cond_false, Bool.and_eq_true, decide_eq_true_eq, Bool.not_eq_true', decide_eq_false_iff_not] at h1
      exact ⟨hs, by omega, by omega, hq, ho, .inr (.inl ⟨k2, h1.1.2, h1.2.2.2.2.2.2⟩)⟩
    · rw [decide_eq_false k2] at h1
      by_cases k3 : k = 3
      · rw [decide_eq_true k3] at h1
        simp only [cond_true, cond_false, Bool.and_eq_true, decide_eq_true_eq, Bool.not_eq_true', decide_eq_false_iff_not] at h1
        exact ⟨hs, by omega, by omega, hq, ho, .inr (.inr (.inl ⟨k3, h1.1.1.1.2, h1.1.1.2, h1.1.2⟩))⟩
      · rw [decide_eq_false k3] at h1
        by_cases k4 : k = 4
        · rw [decide_eq_true k4] at h1
          simp only [cond_true, cond_false, Bool.and_eq_true, Bool.or_eq_true, decide_eq_true_eq, Bool.not_eq_true', decide_eq_false_iff_not] at h1
          exact ⟨hs, by omega, by omega, hq, ho, .inr (.inr (.inr k4))⟩
        · rw [decide_eq_false k4] at h1
          simp at h1
end C13
end Go.Sh
namespace Go.Sh
set_option linter.unusedSectionVars false
set_option linter.unnecessarySimpa false
set_option linter.unusedVariables false
set_option linter.unusedSimpArgs false
set_option maxRecDepth 100000
set_option maxHeartbeats 4000000
namespace C13
section
variable {k s d q o c m e t u v : Int} {x : ByteArray}
theorem s27w (n : Nat) (es : List (Nat × Nat)) (h : chB k s d q o c m e t u v x = true) (hx : x.size ≤ 127) :
    ∃ es', call1 T (n + 7) (.fn 176) [pW, .ptr 0 0 0 0] (wH (.box (fr k s d q o c m e t u v x)) [] [] es) = some (.bool true, wH (.box (fr k s d q o c m e t u v x)) (enBits k s d q o c m e t u v x) [] es') := by
  obtain ⟨hs, hd, hd0, hq, ho, h⟩ := chB_k h
  rcases h with ⟨rfl, hc, hm⟩ | ⟨rfl, he, rfl⟩ | ⟨rfl, ht, hu, hv⟩ | rfl
  · exact ⟨_, s27_1 n es [] s d q o c m e t u v x hs hd hd0 hq ho hc hm hx (by simp)⟩
  · exact ⟨_, s27_2 n es [] s d q o c m e t u v _ hs hd hd0 hq ho he (by simp)⟩
  · exact ⟨_, s27_3 n es [] s d q o c m e t u v x hs hd hd0 hq ho ht hu hv hx (by simp)⟩
  · exact ⟨_, s27_4 n es [] s d q o c m e t u v x hs hd hd0 hq ho hx (by simp)⟩
theorem s27x (n : Nat) (es : List (Nat × Nat)) (h : chB k s d q o c m e t u v x = true) (hx : 127 < x.size) :
    ∃ bs' es', call1 T (n + 7) (.fn 176) [pW, .ptr 0 0 0 0] (wH (.box (fr k s d q o c m e t u v x)) [] [] es) = some (.bool true, wX (.box (fr k s d q o c m e t u v x)) bs' [] es') := by
  obtain ⟨hs, hd, hd0, hq, ho, h⟩ := chB_k h
  rcases h with ⟨rfl, hc, hm⟩ | ⟨rfl, he, rfl⟩ | ⟨rfl, ht, hu, hv⟩ | rfl
  · exact s27e_1 n es [] s d q o c m e t u v x hs hd hd0 hq ho hc hm hx (by simp)
  · exact absurd hx (by decide)
  · exact s27e_3 n es [] s d q o c m e t u v x hs hd hd0 hq ho ht hu hv hx (by simp)
  · exact s27e_4 n es [] s d q o c m e t u v x hs hd hd0 hq ho hx (by simp)
end
theorem s133 (n : Nat) (H : Heap) (k s d q o c m e t u v : Int) (x : ByteArray) (hX : x.size ≤ 10000) : call1 T (n + 8) (.fn 133) [.agg (fr k s d q o c m e t u v x)] H = some (enV k s d q o c m e t u v x, H) := by
  refine call_pure e133 (by rfl) ?_
  have h17 := fun H => s174 (n + 3) H k s d q o c m e t u v x
  unfold enV
  cases hch : chB k s d q o c m e t u v x with
  | false =>
    rw [hch] at h17
    simp only [c133, heap0, go_sem, Int.reduceToNat, Nat.reduceAdd, Nat.reduceBEq, Nat.reduceLeDiff, Nat.reduceLT, Nat.reduceMul, Nat.reduceSub, Int.reduceEq, Int.reduceLT, Int.reduceLE, Int.reduceNeg, h17]
  | true =>
    rw [hch] at h17
    have h26 := fun es b0 => s175 (n + 6) es b0
    rcases Nat.lt_or_ge 127 x.size with hx | hx
    · obtain ⟨bs', es', h27⟩ := s27x n [(1, 3)] hch hx
      have h27 : call1 T (n + 7) (.fn 176) [.agg [.ptr 1 0 0 0, .nilPtr], .ptr 0 0 0 0] ⟨[.box (fr k s d q o c m e t u v x), .box [.slc 2 0 0 0, .int .i64 0, .int .i64 0], .arr 0 1 [] false], [(1, 3)], 0⟩ = _ := h27
      have h28 := s28e (.box (fr k s d q o c m e t u v x)) [] es' bs' (n + 6)
      have hd : decide (127 < x.size) = true := decide_eq_true hx
      simp only [c133, heap0, go_sem, Int.reduceToNat, Nat.reduceAdd, Nat.reduceBEq, Nat.reduceLeDiff, Nat.reduceLT, Nat.reduceMul, Nat.reduceSub, Int.reduceEq, Int.reduceLT, Int.reduceLE, Int.reduceNeg, h17, h26, h27, h28, hd, Nat.reduceMod, Nat.reduceDiv]
    · obtain ⟨es', h27⟩ := s27w n [(1, 3)] hch hx
      have h27 : call1 T (n + 7) (.fn 176) [.agg [.ptr 1 0 0 0, .nilPtr], .ptr 0 0 0 0] ⟨[.box (fr k s d q o c m e t u v x), .box [.slc 2 0 0 0, .int .i64 0, .int .i64 0], .arr 0 1 [] false], [(1, 3)], 0⟩ = _ := h27
      have h28 := s177 (n + 6) (.box (fr k s d q o c m e t u v x)) [] es' (enBits k s d q o c m e t u v x)
      obtain ⟨P, hP⟩ : ∃ P, pkB (enBits k s d q o c m e t u v x) = P := ⟨_, rfl⟩
      rw [hP] at h28 ⊢
      have hd : decide (127 < x.size) = false := decide_eq_false (by omega)
      have hs : P.size ≤ 1000 := by
        rw [← hP, pkB_size]
        have hl : (enBits k s d q o c m e t u v x).length ≤ 2000 := by
          have := tgLe d
          unfold enBits bdBits
          simp only [List.length_append, bits_len, tgLen_eq]
          cases decide (k = 1) <;> cases decide (k = 2) <;> cases decide (k = 3) <;> simp only [cond_true, cond_false, List.length_append, bits_len, txB_len] <;> omega
        unfold nb; omega
      have h25 := fun H => s178 (n + 1) H P hs
      have hw : w64 ((P.size : Int) + 2) = (P.size : Int) + 2 := w64_id (by omega) (by omega)
      cases hp : decide (127 < P.size + 2) with
      | false =>
        have hp2 : decide ((127 : Int) < (P.size : Int) + 2) = false := by simp only [decide_eq_false_iff_not] at hp ⊢; omega
        simp only [c133, heap0, go_sem, Int.reduceToNat, Nat.reduceAdd, Nat.reduceBEq, Nat.reduceLeDiff, Nat.reduceLT, Nat.reduceMul, Nat.reduceSub, Int.reduceEq, Int.reduceLT, Int.reduceLE, Int.reduceNeg, h17, h26, h27, h28, hd, hw, hp2, h25, Nat.reduceMod, Nat.reduceDiv]
      | true =>
        have hp2 : decide ((127 : Int) < (P.size : Int) + 2) = true := by simp only [decide_eq_true_eq] at hp ⊢; omega
        simp only [c133, heap0, go_sem, Int.reduceToNat, Nat.reduceAdd, Nat.reduceBEq, Nat.reduceLeDiff, Nat.reduceLT, Nat.reduceMul, Nat.reduceSub, Int.reduceEq, Int.reduceLT, Int.reduceLE, Int.reduceNeg, h17, h26, h27, h28, hd, hw, hp2, h25, Nat.reduceMod, Nat.reduceDiv]
end C13
end Go.Sh
namespace Go.Sh
set_option linter.unusedSectionVars false
set_option linter.unnecessarySimpa false
set_option linter.unusedVariables false
set_option linter.unusedSimpArgs false
set_option maxRecDepth 100000
set_option maxHeartbeats 4000000
namespace C13
theorem inB_t {x h : Int} : inB x h = true ↔ 0 ≤ x ∧ x ≤ h := by simp [inB]
theorem inB_f {x h : Int} : inB x h = false ↔ ¬ (0 ≤ x ∧ x ≤ h) := by rw [← inB_t, Bool.not_eq_true]
theorem chB_1 {s d q o c m e t u v : Int} {x : ByteArray} : chB 1 s d q o c m e t u v x = decide (((0 ≤ d ∧ d ≤ 31) ∧ d ≠ s) ∧ (0 ≤ c ∧ c ≤ 255) ∧ (0 ≤ m ∧ m ≤ 65535) ∧ e = 0 ∧ t = 0 ∧ u = 0 ∧ v = 0 ∧ (0 ≤ s ∧ s ≤ 31) ∧ (0 ≤ q ∧ q ≤ 255) ∧ (0 ≤ o ∧ o ≤ 255)) := by
  rw [Bool.eq_iff_iff]
  simp only [chB, tgB, inB, erB, decide_true, cond_true, cond_false, Bool.and_eq_true, Bool.or_eq_true, decide_eq_true_eq, Bool.not_eq_true', decide_eq_false_iff_not]
  constructor <;> intro h <;> omega
theorem chB_2 {s d q o c m e t u v : Int} {x : ByteArray} : chB 2 s d q o c m e t u v x = (decide (x = ⟨#[]⟩) && decide (((0 ≤ d ∧ d ≤ 31) ∧ d ≠ s) ∧ (-32768 ≤ e ∧ e ≤ 32767) ∧ c = 0 ∧ m = 0 ∧ t = 0 ∧ u = 0 ∧ v = 0 ∧ (0 ≤ s ∧ s ≤ 31) ∧ (0 ≤ q ∧ q ≤ 255) ∧ (0 ≤ o ∧ o ≤ 255))) := by
  have k1 : decide ((2 : Int) = 1) = false := rfl
  rw [Bool.eq_iff_iff]
  simp only [chB, tgB, inB, erB, k1, decide_true, cond_true, cond_false, Bool.and_eq_true, Bool.or_eq_true, decide_eq_true_eq, Bool.not_eq_true', decide_eq_false_iff_not]
  constructor
  · intro h
    exact ⟨h.1.2.2.2.2.2.2, by omega⟩
  · intro ⟨h1, h⟩
    refine ⟨⟨by omega, by omega, by omega, by omega, by omega, by omega, h1⟩, by omega⟩
theorem chB_3 {s d q o c m e t u v : Int} {x : ByteArray} : chB 3 s d q o c m e t u v x = decide (d = -1 ∧ (0 ≤ t ∧ t ≤ 109951162) ∧ (0 ≤ u ∧ u ≤ 65535) ∧ (0 ≤ v ∧ v ≤ 65535) ∧ c = 0 ∧ m = 0 ∧ e = 0 ∧ (0 ≤ s ∧ s ≤ 31) ∧ (0 ≤ q ∧ q ≤ 255) ∧ (0 ≤ o ∧ o ≤ 255)) := by
  have k1 : decide ((3 : Int) = 1) = false := rfl
  have k2 : decide ((3 : Int) = 2) = false := rfl
  rw [Bool.eq_iff_iff]
  simp only [chB, tgB, inB, erB, k1, k2, decide_true, cond_true, cond_false, Bool.and_eq_true, Bool.or_eq_true, decide_eq_true_eq, Bool.not_eq_true', decide_eq_false_iff_not]
  constructor <;> intro h <;> omega
theorem chB_4 {s d q o c m e t u v : Int} {x : ByteArray} : chB 4 s d q o c m e t u v x = decide ((d = -1 ∨ ((0 ≤ d ∧ d ≤ 31) ∧ d ≠ s)) ∧ c = 0 ∧ m = 0 ∧ e = 0 ∧ t = 0 ∧ u = 0 ∧ v = 0 ∧ (0 ≤ s ∧ s ≤ 31) ∧ (0 ≤ q ∧ q ≤ 255) ∧ (0 ≤ o ∧ o ≤ 255)) := by
  have k1 : decide ((4 : Int) = 1) = false := rfl
  have k2 : decide ((4 : Int) = 2) = false := rfl
  have k3 : decide ((4 : Int) = 3) = false := rfl
  rw [Bool.eq_iff_iff]
  simp only [chB, tgB, inB, erB, k1, k2, k3, decide_true, cond_true, cond_false, Bool.and_eq_true, Bool.or_eq_true, decide_eq_true_eq, Bool.not_eq_true', decide_eq_false_iff_not]
  constructor <;> intro h <;> omega
theorem s18_1 (n : Nat) (H : Heap) (s d q o c m e t u v : Int) (x : ByteArray) : call1 T (n + 2) (.fn 89) [.agg (fr 1 s d q o c m e t u v x)] H = some (.int .i64 (bif chB 1 s d q o c m e t u v x then 0 else 1), H) := by
  refine call_pure e89 (by rfl) ?_
  rw [chB_1]
  simp only [c89, heap0, go_sem, Int.reduceToNat, Nat.reduceAdd, Nat.reduceBEq, Nat.reduceLeDiff, Nat.reduceLT, Nat.reduceMul, Nat.reduceSub, Int.reduceEq, Int.reduceLT, Int.reduceLE, Int.reduceNeg, s142]
  repeat' (with_reducible refine fork_split (fun _ => ?_) (fun _ => ?_) <;> simp only [*, go_sem, Int.reduceToNat, Nat.reduceAdd, Nat.reduceBEq, Nat.reduceLeDiff, Nat.reduceLT, Nat.reduceMul, Nat.reduceSub, Int.reduceEq, Int.reduceLT, Int.reduceLE, Int.reduceNeg, s142])
  all_goals (simp only [inB_t, inB_f, decide_eq_true_eq, decide_eq_false_iff_not] at *; refine congrArg some (congrArg (SV.int .i64) ?_); first | (rw [decide_eq_false (by omega)]; rfl) | (rw [decide_eq_true (by omega)]; rfl))
theorem s18_2 (n : Nat) (H : Heap) (s d q o c m e t u v : Int) (x : ByteArray) : call1 T (n + 2) (.fn 89) [.agg (fr 2 s d q o c m e t u v x)] H = some (.int .i64 (bif chB 2 s d q o c m e t u v x then 0 else 1), H) := by
  refine call_pure e89 (by rfl) ?_
  rw [chB_2]
  cases hx : decide (x = ⟨#[]⟩) <;> simp only [c89, heap0, go_sem, Int.reduceToNat, Nat.reduceAdd, Nat.reduceBEq, Nat.reduceLeDiff, Nat.reduceLT, Nat.reduceMul, Nat.reduceSub, Int.reduceEq, Int.reduceLT, Int.reduceLE, Int.reduceNeg, s142, hx]
  all_goals repeat' (with_reducible refine fork_split (fun _ => ?_) (fun _ => ?_) <;> simp only [*, go_sem, Int.reduceToNat, Nat.reduceAdd, Nat.reduceBEq, Nat.reduceLeDiff, Nat.reduceLT, Nat.reduceMul, Nat.reduceSub, Int.reduceEq, Int.reduceLT, Int.reduceLE, Int.reduceNeg, s142])
  all_goals (simp only [inB_t, inB_f, decide_eq_true_eq, decide_eq_false_iff_not] at *; refine congrArg some (congrArg (SV.int .i64) ?_); first | (rw [decide_eq_false (by omega)]; rfl) | (rw [decide_eq_true (by omega)]; rfl))
theorem s18_3 (n : Nat) (H : Heap) (s d q o c m e t u v : Int) (x : ByteArray) : call1 T (n + 2) (.fn 89) [.agg (fr 3 s d q o c m e t u v x)] H = some (.int .i64 (bif chB 3 s d q o c m e t u v x then 0 else 1), H) := by
  refine call_pure e89 (by rfl) ?_
  rw [chB_3]
  simp only [c89, heap0, go_sem, Int.reduceToNat, Nat.reduceAdd, Nat.reduceBEq, Nat.reduceLeDiff, Nat.reduceLT, Nat.reduceMul, Nat.reduceSub, Int.reduceEq, Int.reduceLT, Int.reduceLE, Int.reduceNeg, s142]
  repeat' (with_reducible refine fork_split (fun _ => ?_) (fun _ => ?_) <;> simp only [*, go_sem, Int.reduceToNat, Nat.reduceAdd, Nat.reduceBEq, Nat.reduceLeDiff, Nat.reduceLT, Nat.reduceMul, Nat.reduceSub, Int.reduceEq, Int.reduceLT, Int.reduceLE, Int.reduceNeg, s142])
  all_goals (simp only [inB_t, inB_f, decide_eq_true_eq, decide_eq_false_iff_not] at *; refine congrArg some (congrArg (SV.int .i64) ?_); first | (rw [decide_eq_false (by omega)]; rfl) | (rw [decide_eq_true (by omega)]; rfl))
theorem s18_4 (n : Nat) (H : Heap) (s d q o c m e t u v : Int) (x : ByteArray) : call1 T (n + 2) (.fn 89) [.agg (fr 4 s d q o c m e t u v x)] H = some (.int .i64 (bif chB 4 s d q o c m e t u v x then 0 else 1), H) := by
  refine call_pure e89 (by rfl) ?_
  rw [chB_4]
  simp only [c89, heap0, go_sem, Int.reduceToNat, Nat.reduceAdd, Nat.reduceBEq, Nat.reduceLeDiff, Nat.reduceLT, Nat.reduceMul, Nat.reduceSub, Int.reduceEq, Int.reduceLT, Int.reduceLE, Int.reduceNeg, s142]
  repeat' (with_reducible refine fork_split (fun _ => ?_) (fun _ => ?_) <;> simp only [*, go_sem, Int.reduceToNat, Nat.reduceAdd, Nat.reduceBEq, Nat.reduceLeDiff, Nat.reduceLT, Nat.reduceMul, Nat.reduceSub, Int.reduceEq, Int.reduceLT, Int.reduceLE, Int.reduceNeg, s142])
  all_goals (simp only [inB_t, inB_f, decide_eq_true_eq, decide_eq_false_iff_not] at *; refine congrArg some (congrArg (SV.int .i64) ?_); first | (rw [decide_eq_false (by omega)]; rfl) | (rw [decide_eq_true (by omega)]; rfl))
theorem s89 (n : Nat) (H : Heap) (k s d q o c m e t u v : Int) (x : ByteArray) : call1 T (n + 2) (.fn 89) [.agg (fr k s d q o c m e t u v x)] H = some (.int .i64 (bif chB k s d q o c m e t u v x then 0 else 1), H) := by
  by_cases h1 : k = 1
  · subst h1; exact s18_1 n H s d q o c m e t u v x
  · by_cases h2 : k = 2
    · subst h2; exact s18_2 n H s d q o c m e t u v x
    · by_cases h3 : k = 3
      · subst h3; exact s18_3 n H s d q o c m e t u v x
      · by_cases h4 : k = 4
        · subst h4; exact s18_4 n H s d q o c m e t u v x
        · have hc : chB k s d q o c m e t u v x = false := by
            unfold chB; rw [decide_eq_false h1, decide_eq_false h2, decide_eq_false h3, decide_eq_false h4]; rfl
          have d1 := decide_eq_false h1
          have d2 := decide_eq_false h2
          have d3 := decide_eq_false h3
          have d4 := decide_eq_false h4
          refine call_pure e89 (by rfl) ?_
          rw [hc]
          simp only [c89, heap0, go_sem, Int.reduceToNat, Nat.reduceAdd, Nat.reduceBEq, Nat.reduceLeDiff, Nat.reduceLT, Nat.reduceMul, Nat.reduceSub, Int.reduceEq, Int.reduceLT, Int.reduceLE, Int.reduceNeg, s142, d1, d2, d3, d4]
end C13
end Go.Sh
namespace Go.Sh
set_option linter.unusedSectionVars false
set_option linter.unnecessarySimpa false
set_option linter.unusedVariables false
set_option linter.unusedSimpArgs false
set_option maxRecDepth 100000
set_option maxHeartbeats 4000000
namespace C13
def b8S (bs : List Bool) : List (List SV) := bs.map fun b => [.int .u8 (bt b : Nat)]
@[go_sem] theorem b8S_len {bs : List Bool} : (b8S bs).length = bs.length := by simp [b8S]
@[go_sem] theorem b8S_get (bs : List Bool) (i : Nat) : (b8S bs)[i]? = (bs[i]?).map (fun b => [.int .u8 (bt b : Nat)]) := by simp [b8S]
theorem b8S_app (bs : List Bool) (b : Bool) : b8S bs ++ [[.int .u8 (bt b : Nat)]] = b8S (bs ++ [b]) := by simp [b8S]
abbrev rB (bs : List Bool) : SBlk := .box [.slc 2 bs.length 0 bs.length, .int .i64 0]
abbrev rA (bs : List Bool) : SBlk := .arr bs.length 1 (b8S bs) false
abbrev rH (b0 : SBlk) (bs : List Bool) (tl : List SBlk) (es : List (Nat × Nat)) : Heap := ⟨b0 :: rB bs :: rA bs :: tl, es, 0⟩
abbrev rk (w : Nat) : List (Nat × Nat) := List.replicate w (1, 3)
def andI (a b : Int) : Int := IntKind.wrap .i64 ((BitVec.ofInt 64 a &&& BitVec.ofInt 64 b).toNat)
@[go_sem high] theorem sb_and64 (a b : Int) : sbin .and (.int .i64 a) (.int .i64 b) = some (.int .i64 (andI a b)) := by
  simp only [sbin, beq_self_eq_true, cond_true]; rfl
theorem andI_one (a : Int) : andI a 1 = a % 2 := by
  unfold andI
  have h3 : (BitVec.ofInt 64 1).toNat = 1 := by decide
  rw [BitVec.toNat_and, h3, Nat.and_one_is_mod, BitVec.toNat_ofInt]
  have hw : IntKind.wrap .i64 (((a % (2 ^ 64 : Nat)).toNat % 2 : Nat) : Int) = (((a % (2 ^ 64 : Nat)).toNat % 2 : Nat) : Int) := w64_id (by omega) (by omega)
  rw [hw]
  omega
def BitsOf (w : Nat) (v' : Int) (v : Nat) : Prop := ∀ i, i < w → IntKind.u8.wrap (andI (v'.fdiv (2 ^ min i 64)) 1) = (bt (v.testBit i) : Nat)
theorem bitsOf_nat (w v : Nat) (hw : w ≤ 63) : BitsOf w (v : Int) v := by
  intro i hi
  rw [Nat.min_eq_left (by omega), fdiv_nat, andI_one, bt_bit]
  rw [wrap8 (by omega) (by omega)]
  rfl
theorem bitsOf_sg (x : Int) : BitsOf 16 x (sgN x) := by
  intro i hi
  have hp : (0 : Int) ≤ 2 ^ i := Int.pow_nonneg (by decide)
  rw [Nat.min_eq_left (by omega), andI_one, bt_bit, Int.fdiv_eq_ediv_of_nonneg _ hp]
  rw [wrap8 (by omega) (by omega)]
  unfold sgN
  have : i = 0 ∨ i = 1 ∨ i = 2 ∨ i = 3 ∨ i = 4 ∨ i = 5 ∨ i = 6 ∨ i = 7 ∨ i = 8 ∨ i = 9 ∨ i = 10 ∨ i = 11 ∨ i = 12 ∨ i = 13 ∨ i = 14 ∨ i = 15 := by omega
  rcases this with rfl | rfl | rfl | rfl | rfl | rfl | rfl | rfl | rfl | rfl | rfl | rfl | rfl | rfl | rfl | rfl <;> omega
section
variable (b0 : SBlk) (tl : List SBlk) (es : List (Nat × Nat)) (bs : List Bool)
theorem s143 (n : Nat) (w : Nat) (hb : bs.length + w ≤ 524288) : call1 T (n + 1) (.fn 143) [.ptr 1 0 0 0, .int .i64 w] (rH b0 bs tl es) = some (.bool true, rH b0 bs tl es) := by
  refine call_in e143 (by rfl) ?_
  have hs : w64 ((bs.length : Int) + w) = bs.length + w := w64_id (by omega) (by omega)
  have hx2 : decide ((524288 : Int) < (bs.length : Int) + w) = false := decide_eq_false (by omega)
  have l3 : decide (3 ≤ tl.length + 1 + 1 + 1) = true := decide_eq_true (by omega)
  simp only [c143, go_sem, Int.reduceToNat, Nat.reduceAdd, Nat.reduceBEq, Nat.reduceLeDiff, Nat.reduceLT, Nat.reduceMul, Nat.reduceSub, Int.reduceEq, Int.reduceLT, Int.reduceLE, Int.reduceNeg, hs, hx2, l3]
theorem s144 (n : Nat) (w v : Nat) (v' : Int) (hw : w ≤ 63) (hv : BitsOf w v' v) (hb : bs.length + w ≤ 600000) : call1 T (n + 1) (.fn 144) [.ptr 1 0 0 0, .int .i64 w, .int .i64 v'] (rH b0 bs tl es) = some (.tup [], rH b0 (bs ++ bits w v) tl (es ++ rk w)) := by
  refine call_in e144 (by rfl) ?_
  have hw1 : w64 ((w : Int) - 1) = (w : Int) - 1 := w64_id (by omega) (by omega)
  have hN : decide (max 2 0 ≤ tl.length + 1 + 1 + 1) = true := decide_eq_true (by omega)
  have l0 : decide (0 < tl.length + 1 + 1 + 1) = true := decide_eq_true (by omega)
  have l1 : decide (1 < tl.length + 1 + 1 + 1) = true := decide_eq_true (by omega)
  have l2 : decide (2 < tl.length + 1 + 1 + 1) = true := decide_eq_true (by omega)
  have l3' : decide (tl.length + 1 + 1 + 1 < 3) = false := decide_eq_false (by omega)
  have l3 : decide (3 ≤ tl.length + 1 + 1 + 1) = true := decide_eq_true (by omega)
  simp only [c144, go_sem, Int.reduceToNat, Nat.reduceAdd, Nat.reduceBEq, Nat.reduceLeDiff, Nat.reduceLT, Nat.reduceMul, Nat.reduceSub, Int.reduceEq, Int.reduceLT, Int.reduceLE, Int.reduceNeg]
  refine loop_rule (fun j => ([(0, .ptr 1 0 0 0), (2, .int .i64 v'), (6, .int .i64 ((w : Int) - 1 - (j : Int)))], ⟨b0 :: rB (bs ++ (bits w v).take j) :: rA (bs ++ (bits w v).take j) :: tl, rk j, 0⟩)) (fun _ => True) w ?_ trivial ?_
  · simp only [go_sem, Int.reduceToNat, Nat.reduceAdd, Nat.reduceBEq, Nat.reduceLeDiff, Nat.reduceLT, Nat.reduceMul, Nat.reduceSub, Int.reduceEq, Int.reduceLT, Int.reduceLE, Int.reduceNeg, hw1, List.take_zero, List.append_nil, Int.sub_zero, hN, Int.natCast_zero, Int.ofNat_zero]
    try rfl
  · intro j hj _
    rcases Nat.lt_or_ge j w with hlt | hge
    · have hx : decide ((0 : Int) ≤ (w : Int) - 1 - j) = true := decide_eq_true (by omega)
      have hs : w64 ((w : Int) - 1 - j - 1) = (w : Int) - 1 - (j + 1 : Nat) := by rw [w64_id (by omega) (by omega)]; omega
      have hB : (bs ++ (bits w v).take j).length = bs.length + j := by rw [List.length_append, List.length_take, bits_len]; omega
      have hB' : bs ++ (bits w v).take (j + 1) = (bs ++ (bits w v).take j) ++ [v.testBit (w - 1 - j)] := by rw [bits_take hlt, List.append_assoc]
      have hi : ((w : Int) - 1 - j).toNat = w - 1 - j := by omega
      have hE := hv (w - 1 - j) (by omega)
      obtain ⟨b, hb'⟩ : ∃ b, v.testBit (w - 1 - j) = b := ⟨_, rfl⟩
      obtain ⟨B, hBd⟩ : ∃ B, bs ++ (bits w v).take j = B := ⟨_, rfl⟩
      rw [hb', hBd] at hB'
      rw [hBd] at hB
      rw [hb'] at hE
      have hl1 : (B ++ [b]).length = B.length + 1 := by simp
      have gb := fun H => apB_grow 1 H 2 B.length B.length [[.int .u8 (bt b : Nat)]] (b8S B) b8S_len
      have hr : decide ((B.length + 1) * 1 ≤ mostLen) = true := decide_eq_true (Nat.le_trans (show (B.length + 1) * 1 ≤ 1000000 by omega) (by decide))
      have ha := b8S_app B b
      simp only [go_sem, Int.reduceToNat, Nat.reduceAdd, Nat.reduceBEq, Nat.reduceLeDiff, Nat.reduceLT, Nat.reduceMul, Nat.reduceSub, Int.reduceEq, Int.reduceLT, Int.reduceLE, Int.reduceNeg, hx, hi, hE, hBd, gb, hr, l0, l1, l2, l3, l3', hN, hs, hB', hl1, ha, List.replicate_succ, List.filter_replicate, List.all_replicate, ite_self, if_true]
      refine ⟨by first | trivial | omega, by simp only [rB, rA, hl1], trivial⟩
    · obtain rfl : j = w := by omega
      have hx : decide ((0 : Int) ≤ (j : Int) - 1 - j) = false := decide_eq_false (by omega)
      have ht : (bits j v).take j = bits j v := List.take_of_length_le (by rw [bits_len]; exact Nat.le_refl _)
      simp only [go_sem, Int.reduceToNat, Nat.reduceAdd, Nat.reduceBEq, Nat.reduceLeDiff, Nat.reduceLT, Nat.reduceMul, Nat.reduceSub, Int.reduceEq, Int.reduceLT, Int.reduceLE, Int.reduceNeg, hx, ht, hN, l0, l1, l2, l3, l3', List.filter_replicate, List.all_replicate, ite_self, if_true]
theorem s91 (n : Nat) (w v : Nat) (h1 : 1 ≤ w) (hw : w ≤ 62) (hv : v < 2 ^ w) (hb : bs.length + w ≤ 524288) : call1 T (n + 2) (.fn 91) [.ptr 1 0 0 0, .int .i64 w, .int .i64 v] (rH b0 bs tl es) = some (.tup [], rH b0 (bs ++ bits w v) tl (es ++ rk w)) := by
  refine call_in e91 (by rfl) ?_
  have h63 := fun es => s143 b0 tl es bs n w hb
  have h64 := fun es => s144 b0 tl es bs n w v v (by omega) (bitsOf_nat w v (by omega)) (by omega)
  have h62 : 2 ^ w ≤ 2 ^ 62 := Nat.pow_le_pow_right (by decide) hw
  have x1 : decide ((w : Int) < 1) = false := decide_eq_false (by omega)
  have x2 : decide ((63 : Int) < (w : Int)) = false := decide_eq_false (by omega)
  have x3 : decide ((v : Int) < 0) = false := decide_eq_false (by omega)
  have x4 : decide ((w : Int) < 63) = true := decide_eq_true (by omega)
  have x5 : w64 (1 * 2 ^ min w 64) = ((2 ^ w : Nat) : Int) := by
    rw [Nat.min_eq_left (by omega), show ((1 : Int) * 2 ^ w) = ((2 ^ w : Nat) : Int) by rw [Int.one_mul, Int.natCast_pow]; rfl]
    exact w64_id (by omega) (by omega)
  have x6 : decide ((((2 ^ w : Nat)) : Int) ≤ (v : Int)) = false := decide_eq_false (by omega)
  have x7 : decide ((0 : Int) ≤ (w : Int)) = true := decide_eq_true (by omega)
  have l0 : decide (0 < tl.length + 1 + 1 + 1) = true := decide_eq_true (by omega)
  have l1 : decide (1 < tl.length + 1 + 1 + 1) = true := decide_eq_true (by omega)
  have l2 : decide (2 < tl.length + 1 + 1 + 1) = true := decide_eq_true (by omega)
  have l3' : decide (tl.length + 1 + 1 + 1 < 3) = false := decide_eq_false (by omega)
  have l3 : decide (3 ≤ tl.length + 1 + 1 + 1) = true := decide_eq_true (by omega)
  simp only [c91, go_sem, Int.reduceToNat, Nat.reduceAdd, Nat.reduceBEq, Nat.reduceLeDiff, Nat.reduceLT, Nat.reduceMul, Nat.reduceSub, Int.reduceEq, Int.reduceLT, Int.reduceLE, Int.reduceNeg, h63, h64, x1, x2, x3, x4, x5, x6, Int.toNat_natCast, l0, l1, l2, l3, l3', List.filter_replicate, List.all_replicate, List.filter_append, List.all_append, Bool.and_self, ite_self, if_true, List.append_assoc]
theorem s92 (n : Nat) (f : Bool) (hb : bs.length + 1 ≤ 524288) : call1 T (n + 2) (.fn 92) [.ptr 1 0 0 0, .bool f] (rH b0 bs tl es) = some (.tup [], rH b0 (bs ++ bits 1 (bt f)) tl (es ++ rk 1)) := by
  refine call_in e92 (by rfl) ?_
  have h63 : ∀ es, call1 T (n + 1) (.fn 143) [.ptr 1 0 0 0, .int .i64 1] (rH b0 bs tl es) = some (.bool true, rH b0 bs tl es) := fun es => s143 b0 tl es bs n 1 hb
  have hl1 : ∀ b : Bool, (bs ++ [b]).length = bs.length + 1 := fun b => by simp
  have hr : decide ((bs.length + 1) * 1 ≤ mostLen) = true := decide_eq_true (Nat.le_trans (show (bs.length + 1) * 1 ≤ 1000000 by omega) (by decide))
  have hb1 : bits 1 1 = [true] := by rfl
  have hb0 : bits 1 0 = [false] := by rfl
  have l0 : decide (0 < tl.length + 1 + 1 + 1) = true := decide_eq_true (by omega)
  have l1 : decide (1 < tl.length + 1 + 1 + 1) = true := decide_eq_true (by omega)
  have l2 : decide (2 < tl.length + 1 + 1 + 1) = true := decide_eq_true (by omega)
  have l3' : decide (tl.length + 1 + 1 + 1 < 3) = false := decide_eq_false (by omega)
  have l3 : decide (3 ≤ tl.length + 1 + 1 + 1) = true := decide_eq_true (by omega)
  cases f with
  | true =>
    have gb := fun H => apB_grow 1 H 2 bs.length bs.length [[.int .u8 1]] (b8S bs) b8S_len
    have ha : b8S bs ++ [[SV.int .u8 1]] = b8S (bs ++ [true]) := b8S_app bs true
    simp only [c92, go_sem, Int.reduceToNat, Nat.reduceAdd, Nat.reduceBEq, Nat.reduceLeDiff, Nat.reduceLT, Nat.reduceMul, Nat.reduceSub, Int.reduceEq, Int.reduceLT, Int.reduceLE, Int.reduceNeg, h63, gb, hr, ha, bt, hb1, hl1, List.replicate_succ, List.replicate_zero, rH, rB, rA, l0, l1, l2, l3, l3', List.filter_replicate, List.all_replicate, List.filter_append, List.all_append, Bool.and_self, ite_self, if_true, List.append_assoc]
  | false =>
    have gb := fun H => apB_grow 1 H 2 bs.length bs.length [[.int .u8 0]] (b8S bs) b8S_len
    have ha : b8S bs ++ [[SV.int .u8 0]] = b8S (bs ++ [false]) := b8S_app bs false
    simp only [c92, go_sem, Int.reduceToNat, Nat.reduceAdd, Nat.reduceBEq, Nat.reduceLeDiff, Nat.reduceLT, Nat.reduceMul, Nat.reduceSub, Int.reduceEq, Int.reduceLT, Int.reduceLE, Int.reduceNeg, h63, gb, hr, ha, bt, hb0, hl1, List.replicate_succ, List.replicate_zero, rH, rB, rA, l0, l1, l2, l3, l3', List.filter_replicate, List.all_replicate, List.filter_append, List.all_append, Bool.and_self, ite_self, if_true, List.append_assoc]
theorem s93 (n : Nat) (x : Int) (h0 : -32768 ≤ x) (h1 : x ≤ 32767) (hb : bs.length + 16 ≤ 524288) : call1 T (n + 2) (.fn 93) [.ptr 1 0 0 0, .int .i64 16, .int .i64 x] (rH b0 bs tl es) = some (.tup [], rH b0 (bs ++ bits 16 (sgN x)) tl (es ++ rk 16)) := by
  refine call_in e93 (by rfl) ?_
  have h63 : ∀ es, call1 T (n + 1) (.fn 143) [.ptr 1 0 0 0, .int .i64 16] (rH b0 bs tl es) = some (.bool true, rH b0 bs tl es) := fun es => s143 b0 tl es bs n 16 hb
  have h64 : ∀ es, call1 T (n + 1) (.fn 144) [.ptr 1 0 0 0, .int .i64 16, .int .i64 x] (rH b0 bs tl es) = some (.tup [], rH b0 (bs ++ bits 16 (sgN x)) tl (es ++ rk 16)) := fun es => s144 b0 tl es bs n 16 (sgN x) x (by omega) (bitsOf_sg x) (by omega)
  have m2 : w64 (16 - 1) = 15 := by decide
  have m3 : w64 (1 * 2 ^ min 15 64) = 32768 := by decide
  have m4 : w64 (-32768) = -32768 := by decide
  have m5 : w64 (32768 - 1) = 32767 := by decide
  have m6 : w64 (0 - 32768) = -32768 := by decide
  have x1 : decide (x < -32768) = false := decide_eq_false (by omega)
  have x2 : decide (32767 < x) = false := decide_eq_false (by omega)
  have l0 : decide (0 < tl.length + 1 + 1 + 1) = true := decide_eq_true (by omega)
  have l1 : decide (1 < tl.length + 1 + 1 + 1) = true := decide_eq_true (by omega)
  have l2 : decide (2 < tl.length + 1 + 1 + 1) = true := decide_eq_true (by omega)
  have l3' : decide (tl.length + 1 + 1 + 1 < 3) = false := decide_eq_false (by omega)
  have l3 : decide (3 ≤ tl.length + 1 + 1 + 1) = true := decide_eq_true (by omega)
  simp only [c93, go_sem, Int.reduceToNat, Nat.reduceAdd, Nat.reduceBEq, Nat.reduceLeDiff, Nat.reduceLT, Nat.reduceMul, Nat.reduceSub, Int.reduceEq, Int.reduceLT, Int.reduceLE, Int.reduceNeg, h63, h64, m2, m3, m4, m5, m6, x1, x2, l0, l1, l2, l3, l3', List.filter_replicate, List.all_replicate, List.filter_append, List.all_append, Bool.and_self, ite_self, if_true, List.append_assoc]
end
theorem s145 (n : Nat) (H : Heap) : call1 T (n + 1) (.fn 145) [.int .i64 127] H = some (.int .i64 7, H) := pure_any e145 (by rfl) (callB_up (T := T) 100 (n + 1) (.fn 145) [.int .i64 127] heap0 (.int .i64 7, heap0) (by kernel_rfl))
end C13
end Go.Sh
namespace Go.Sh
set_option linter.unusedSectionVars false
set_option linter.unnecessarySimpa false
set_option linter.unusedVariables false
set_option linter.unusedSimpArgs false
set_option maxRecDepth 100000
set_option maxHeartbeats 4000000
namespace C13
section
variable (b0 : SBlk) (tl : List SBlk) (es : List (Nat × Nat)) (bs : List Bool)
theorem rk_add (a b : Nat) : rk a ++ rk b = rk (a + b) := List.replicate_append_replicate
theorem s94 (n : Nat) (x : ByteArray) (hx : x.size ≤ 127) (hb : bs.length ≤ 1000) :
    call1 T (n + 2) (.fn 94) [.ptr 1 0 0 0, .int .i64 127, .str x] (rH b0 bs tl es) = some (.tup [], rH b0 (bs ++ bits 7 x.size ++ txB x x.size) tl (es ++ rk (7 + 8 * x.size))) := by
  refine call_in e94 (by rfl) ?_
  have h65 := fun H => s145 n H
  have h63 : ∀ es, call1 T (n + 1) (.fn 143) [.ptr 1 0 0 0, .int .i64 (7 + 8 * (x.size : Int))] (rH b0 bs tl es) = some (.bool true, rH b0 bs tl es) := fun es => by
    have := s143 b0 tl es bs n (7 + 8 * x.size) (by omega)
    rw [show (((7 + 8 * x.size : Nat)) : Int) = 7 + 8 * (x.size : Int) by omega] at this
    exact this
  have x1 : decide ((127 : Int) < (x.size : Int)) = false := decide_eq_false (by omega)
  have w2 : w64 (8 * (x.size : Int)) = 8 * (x.size : Int) := w64_id (by omega) (by omega)
  have w3 : w64 (7 + 8 * (x.size : Int)) = 7 + 8 * (x.size : Int) := w64_id (by omega) (by omega)
  have h64 : ∀ es, call1 T (n + 1) (.fn 144) [.ptr 1 0 0 0, .int .i64 7, .int .i64 x.size] (rH b0 bs tl es) = some (.tup [], rH b0 (bs ++ bits 7 x.size) tl (es ++ rk 7)) := fun es => s144 b0 tl es bs n 7 x.size x.size (by omega) (bitsOf_nat 7 _ (by omega)) (by omega)
  have l0 : decide (0 < tl.length + 1 + 1 + 1) = true := decide_eq_true (by omega)
  have l1 : decide (1 < tl.length + 1 + 1 + 1) = true := decide_eq_true (by omega)
  have l2 : decide (2 < tl.length + 1 + 1 + 1) = true := decide_eq_true (by omega)
  have l3' : decide (tl.length + 1 + 1 + 1 < 3) = false := decide_eq_false (by omega)
  have l3 : decide (3 ≤ tl.length + 1 + 1 + 1) = true := decide_eq_true (by omega)
  have hN : decide (max 2 0 ≤ tl.length + 1 + 1 + 1) = true := decide_eq_true (by omega)
  simp only [c94, go_sem, Int.reduceToNat, Nat.reduceAdd, Nat.reduceBEq, Nat.reduceLeDiff, Nat.reduceLT, Nat.reduceMul, Nat.reduceSub, Int.reduceEq, Int.reduceLT, Int.reduceLE, Int.reduceNeg, h65, h63, x1, w2, w3, h64, l0, l1, l2, l3, l3', List.filter_replicate, List.all_replicate, ite_self, if_true]
  have hP : (bs ++ bits 7 x.size).length = bs.length + 7 := by rw [List.length_append, bits_len]
  obtain ⟨P, hPd⟩ : ∃ P, bs ++ bits 7 x.size = P := ⟨_, rfl⟩
  rw [hPd] at hP ⊢
  rw [← rk_add, ← List.append_assoc]
  have hx2 : x.size ≤ maxLen := Nat.le_trans hx (by decide)
  refine loop_rule (fun i => ([(0, .ptr 1 0 0 0), (2, .str x), (6, .int .i64 i)], ⟨b0 :: rB (P ++ txB x i) :: rA (P ++ txB x i) :: tl, rk (8 * i), 0⟩)) (fun _ => True) x.size ?_ trivial ?_
  · simp only [go_sem, Int.reduceToNat, Nat.reduceAdd, Nat.reduceBEq, Nat.reduceLeDiff, Nat.reduceLT, Nat.reduceMul, Nat.reduceSub, Int.reduceEq, Int.reduceLT, Int.reduceLE, Int.reduceNeg, hN, l0, l1, l2, l3, l3', txB, List.append_nil, Nat.mul_zero, List.replicate_zero]
    try rfl
  · intro i hi _
    rcases Nat.lt_or_ge i x.size with hlt | hge
    · have hs := w64_suc hlt hx2
      have hd : x.data[i]? = some x.data[i] := Array.getElem?_eq_getElem (by exact hlt)
      have hv := UInt8.toNat_lt x.data[i]
      have hu8 : w64 ((x.data[i].toNat : Nat) : Int) = (x.data[i].toNat : Nat) := w64_id (by omega) (by omega)
      have h1 : ∀ es, call1 T (n + 1) (.fn 144) [.ptr 1 0 0 0, .int .i64 8, .int .i64 (x.data[i].toNat : Nat)] (rH b0 (P ++ txB x i) tl es) = some (.tup [], rH b0 (P ++ txB x i ++ bits 8 x.data[i].toNat) tl (es ++ rk 8)) :=
        fun es => s144 b0 tl es (P ++ txB x i) n 8 x.data[i].toNat x.data[i].toNat (by omega) (bitsOf_nat 8 _ (by omega)) (by rw [List.length_append, txB_len]; omega)
      have hB : P ++ txB x i ++ bits 8 x.data[i].toNat = P ++ txB x (i + 1) := by simp only [txB, hd, Option.getD_some, List.append_assoc]
      have hE : rk (8 * i) ++ rk 8 = rk (8 * (i + 1)) := by rw [rk_add]; rfl
      rw [hB] at h1
      have h1 := h1 (rk (8 * i))
      rw [hE] at h1
      simp only [go_sem, Int.reduceToNat, Nat.reduceAdd, Nat.reduceBEq, Nat.reduceLeDiff, Nat.reduceLT, Nat.reduceMul, Nat.reduceSub, Int.reduceEq, Int.reduceLT, Int.reduceLE, Int.reduceNeg, hlt, hd, hu8, h1, hs, hN, l0, l1, l2, l3, l3', List.filter_replicate, List.all_replicate, ite_self, if_true]
      refine ⟨by first | trivial | omega, by first | trivial | rfl, trivial⟩
    · obtain rfl : i = x.size := by omega
      have hd : decide (x.size < x.size) = false := decide_eq_false (by omega)
      simp only [go_sem, Int.reduceToNat, Nat.reduceAdd, Nat.reduceBEq, Nat.reduceLeDiff, Nat.reduceLT, Nat.reduceMul, Nat.reduceSub, Int.reduceEq, Int.reduceLT, Int.reduceLE, Int.reduceNeg, hd, hN, l0, l1, l2, l3, l3', List.filter_replicate, List.all_replicate, List.filter_append, List.all_append, ite_self, if_true, Bool.and_self, List.append_assoc]
end
def orI8 (a b : Int) : Int := IntKind.u8.wrap ((BitVec.ofInt 8 a ||| BitVec.ofInt 8 b).toNat)
@[go_sem high] theorem sb_or8 (a b : Int) : sbin .or (.int .u8 a) (.int .u8 b) = some (.int .u8 (orI8 a b)) := by
  simp only [sbin, beq_self_eq_true, cond_true]; rfl
theorem or_bit (B : List Bool) (b : Bool) : orI8 (byteN B (B.length / 8) : Nat) (IntKind.u8.wrap ((bt b : Nat) * 2 ^ min (7 - B.length % 8) 8)) = (byteN (B ++ [b]) (B.length / 8) : Nat) := by
  have hb := bt_le b
  have h1 := bt_pow b (B.length % 8) (Nat.mod_lt _ (by decide))
  have h2 : 2 ^ (8 - B.length % 8) ≤ 2 ^ 8 := Nat.pow_le_pow_right (by decide) (by omega)
  have h3 : bt b * 2 ^ (7 - B.length % 8) < 256 := by omega
  have h4 := byteN_lt B (B.length / 8)
  have h5 := byteN_lt (B ++ [b]) (B.length / 8)
  have h6 : ((bt b : Nat) : Int) * 2 ^ (7 - B.length % 8) = ((bt b * 2 ^ (7 - B.length % 8) : Nat) : Int) := by rw [Int.natCast_mul, Int.natCast_pow]; rfl
  unfold orI8
  rw [Nat.min_eq_left (by omega), h6, wrap8 (n := ((bt b * 2 ^ (7 - B.length % 8) : Nat) : Int)) (by omega) (by omega), BitVec.toNat_or, ofInt_nat8 _ h4, ofInt_nat8 _ h3, byteN_or]
  exact wrap8 (by omega) (by omega)
def pkZ (bs : List Bool) (i : Nat) : List (List SV) := (List.range (nb bs.length)).map fun j => [.int .u8 (byteN (bs.take i) j : Nat)]
theorem pkZ_zero (bs : List Bool) : pkZ bs 0 = List.replicate (nb bs.length) [.int .u8 0] := by
  apply List.ext_getElem?
  intro j
  simp only [pkZ, List.take_zero, List.getElem?_map, List.getElem?_replicate]
  by_cases h : j < nb bs.length
  · rw [List.getElem?_range h, if_pos h]; rfl
  · rw [List.getElem?_eq_none (by simp; omega), if_neg h]; rfl
theorem pkZ_full (bs : List Bool) : pkZ bs bs.length = pkS bs := by simp [pkZ, pkS]
theorem pkZ_get {bs : List Bool} {i : Nat} (h : i < bs.length) : (pkZ bs i)[i / 8]? = some [.int .u8 (byteN (bs.take i) (i / 8) : Nat)] := by
  simp only [pkZ, List.getElem?_map]
  rw [List.getElem?_range (by unfold nb; omega)]; rfl
theorem pkZ_set {bs : List Bool} {i : Nat} {b : Bool} (h : bs[i]? = some b) : (pkZ bs i).set (i / 8) [.int .u8 (byteN (bs.take i ++ [b]) (i / 8) : Nat)] = pkZ bs (i + 1) := by
  have hlt : i < bs.length := (List.getElem?_eq_some_iff.1 h).1
  have hl : (bs.take i).length = i := by rw [List.length_take]; omega
  have ht : bs.take (i + 1) = bs.take i ++ [b] := by rw [List.take_add_one, h]; rfl
  apply List.ext_getElem?
  intro j
  rw [List.getElem?_set]
  simp only [pkZ, List.getElem?_map, List.length_map, List.length_range]
  by_cases hj : i / 8 = j
  · subst hj
    rw [if_pos rfl, if_pos (by unfold nb; omega), List.getElem?_range (by unfold nb; omega), ht]; rfl
  · rw [if_neg hj]
    by_cases h2 : j < nb bs.length
    · rw [List.getElem?_range h2, ht]
      simp only [Option.map_some]
      rw [byteN_ne (by rw [hl]; exact fun h => hj h.symm)]
    · rw [List.getElem?_eq_none (by simp; omega)]; rfl
end C13
end Go.Sh
namespace Go.Sh
set_option linter.unusedSectionVars false
set_option linter.unnecessarySimpa false
set_option linter.unusedVariables false
set_option linter.unusedSimpArgs false
set_option maxRecDepth 100000
set_option maxHeartbeats 4000000
namespace C13
theorem mkU (H : Heap) (m : Nat) (h : m ≤ 100000) : smake 1 [.int .u8 0] 1 H (.int .i64 m) (.int .i64 m) = some (.slc H.bl.length 0 0 m, hnew H (.arr 0 1 (List.replicate m [.int .u8 0]) true)) := by
  have h1 : decide ((0 : Int) ≤ (m : Int)) = true := decide_eq_true (by omega)
  have h2 : decide ((m : Int) ≤ (m : Int)) = true := decide_eq_true (by omega)
  have h3 : decide ((m : Int) * ((1 : Nat) : Int) ≤ (mostLen : Int)) = true := decide_eq_true (by have : (mostLen : Int) = 1099511627776 := rfl; omega)
  simp only [smake, h1, h2, h3, Bool.and_self, cond_true, Int.toNat_natCast]
theorem s95 (n : Nat) (b0 : SBlk) (es : List (Nat × Nat)) (bs : List Bool) (hb : bs.length ≤ 600000) : call1 T (n + 1) (.fn 95) [.ptr 1 0 0 0] (rH b0 bs [] es) = some (.tup [.str (pkB bs), .int .i64 0], rH b0 bs [] es) := by
  refine call_in e95 (by rfl) ?_
  have w1 : w64 ((bs.length : Int) + 7) = ((bs.length + 7 : Nat) : Int) := by rw [w64_id (by omega) (by omega)]; omega
  have w2 : w64 (((bs.length + 7) / 8 : Nat) : Int) = ((nb bs.length : Nat) : Int) := by rw [w64_id (by omega) (by omega)]; rfl
  have hL : bs.length ≤ maxLen := Nat.le_trans hb (by decide)
  simp only [c95, go_sem, Int.reduceToNat, Nat.reduceAdd, Nat.reduceBEq, Nat.reduceLeDiff, Nat.reduceLT, Nat.reduceMul, Nat.reduceSub, Int.reduceEq, Int.reduceLT, Int.reduceLE, Int.reduceNeg, w1, w2, mkU _ _ (show nb bs.length ≤ 100000 by unfold nb; omega), List.length_cons, List.length_nil, ← pkZ_zero]
  refine loop_rule (fun i => ([(0, .ptr 1 0 0 0), (4, .slc 3 0 0 (nb bs.length)), (5, .int .i64 i)], ⟨[b0, rB bs, rA bs, .arr 0 1 (pkZ bs i) true], [], 0⟩)) (fun _ => True) bs.length ?_ trivial ?_
  · simp only [go_sem, Int.reduceToNat, Nat.reduceAdd, Nat.reduceBEq, Nat.reduceLeDiff, Nat.reduceLT, Nat.reduceMul, Nat.reduceSub, Int.reduceEq, Int.reduceLT, Int.reduceLE, Int.reduceNeg]
    try rfl
  · intro i hi _
    rcases Nat.lt_or_ge i bs.length with hlt | hge
    · obtain ⟨b, hbi⟩ := getS hlt
      have hs := w64_suc hlt hL
      have hw8 : w64 ((i / 8 : Nat) : Int) = ((i / 8 : Nat) : Int) := w64_id (by omega) (by omega)
      have hw7 : w64 (7 - ((i % 8 : Nat) : Int)) = ((7 - i % 8 : Nat) : Int) := by rw [w64_id (by omega) (by omega)]; omega
      have hlt1 : decide (i / 8 < nb bs.length) = true := decide_eq_true (by unfold nb; omega)
      have hg := pkZ_get hlt
      have hl : (bs.take i).length = i := by rw [List.length_take]; omega
      have hE := or_bit (bs.take i) b
      rw [hl] at hE
      have hset := pkZ_set hbi
      simp only [go_sem, Int.reduceToNat, Nat.reduceAdd, Nat.reduceBEq, Nat.reduceLeDiff, Nat.reduceLT, Nat.reduceMul, Nat.reduceSub, Int.reduceEq, Int.reduceLT, Int.reduceLE, Int.reduceNeg, hlt, hbi, hw8, hw7, hlt1, hg, hE, hset, hs, Int.toNat_natCast]
      refine ⟨by first | trivial | omega, by first | trivial | rfl, trivial⟩
    · obtain rfl : i = bs.length := by omega
      have hd : decide (bs.length < bs.length) = false := decide_eq_false (by omega)
      have ht : List.take (nb bs.length) (pkS bs) = pkS bs := List.take_of_length_le (by rw [pkS_len]; exact Nat.le_refl _)
      have hl : decide (nb bs.length ≤ (pkS bs).length) = true := decide_eq_true (by rw [pkS_len]; exact Nat.le_refl _)
      have hl2 : decide (nb bs.length ≤ nb bs.length) = true := decide_eq_true (Nat.le_refl _)
      simp only [go_sem, Int.reduceToNat, Nat.reduceAdd, Nat.reduceBEq, Nat.reduceLeDiff, Nat.reduceLT, Nat.reduceMul, Nat.reduceSub, Int.reduceEq, Int.reduceLT, Int.reduceLE, Int.reduceNeg, hd, pkZ_full, ht, hl, hl2, toB_pkS, pkB]
end C13
end Go.Sh
namespace Go.Sh
set_option linter.unusedSectionVars false
set_option linter.unnecessarySimpa false
set_option linter.unusedVariables false
set_option linter.unusedSimpArgs false
set_option maxRecDepth 100000
set_option maxHeartbeats 4000000
namespace C13
theorem tm_ge {C : W16} (h : 32768 ≤ C.toNat) : tm C = (C <<< 1) ^^^ poly := by
  unfold tm
  rw [show C.msb = true by rw [BitVec.msb_eq_decide]; exact decide_eq_true h]; rfl
theorem tm_lt {C : W16} (h : ¬ 32768 ≤ C.toNat) : tm C = C <<< 1 := by
  apply tm_low
  rw [BitVec.msb_eq_decide]; exact decide_eq_false h
theorem s212 (n : Nat) (H : Heap) (C : W16) : call1 T (n + 1) (.fn 212) [.int .u16 (C.toNat : Nat)] H = some (.int .u16 ((tm C).toNat : Nat), H) := by
  refine call_pure e212 (by rfl) ?_
  have s1 := shlW C 1 (by omega)
  have hp := xorW (C <<< 1) poly
  have hp : xorI ((C <<< 1).toNat : Nat) 4129 = ((C <<< 1 ^^^ poly).toNat : Nat) := hp
  by_cases h : 32768 ≤ C.toNat
  · have hd : decide ((32768 : Int) ≤ (C.toNat : Int)) = true := decide_eq_true (by omega)
    rw [tm_ge h]
    simp only [c212, heap0, go_sem, Int.reduceToNat, Nat.reduceAdd, Nat.reduceBEq, Nat.reduceLeDiff, Nat.reduceLT, Nat.reduceMul, Nat.reduceSub, Int.reduceEq, Int.reduceLT, Int.reduceLE, Int.reduceNeg, hd, s1, hp]
  · have hd : decide ((32768 : Int) ≤ (C.toNat : Int)) = false := decide_eq_false (by omega)
    rw [tm_lt h]
    simp only [c212, heap0, go_sem, Int.reduceToNat, Nat.reduceAdd, Nat.reduceBEq, Nat.reduceLeDiff, Nat.reduceLT, Nat.reduceMul, Nat.reduceSub, Int.reduceEq, Int.reduceLT, Int.reduceLE, Int.reduceNeg, hd, s1, hp]
def tmN (C : W16) : Nat → W16
  | 0 => C
  | j + 1 => tm (tmN C j)
theorem s187 (n : Nat) (H : Heap) (s : ByteArray) (hs : s.size ≤ 1000) : call1 T (n + 2) (.fn 187) [.int .u16 0, .str s] H = some (.int .u16 ((upd 0#16 s s.size).toNat : Nat), H) := by
  refine call_pure e187 (by rfl) ?_
  simp only [c187, heap0, go_sem, Int.reduceToNat, Nat.reduceAdd, Nat.reduceBEq, Nat.reduceLeDiff, Nat.reduceLT, Nat.reduceMul, Nat.reduceSub, Int.reduceEq, Int.reduceLT, Int.reduceLE, Int.reduceNeg]
  have hL : s.size ≤ maxLen := Nat.le_trans hs (by decide)
  refine loop_rule (fun i => ([(0, .int .u16 ((upd 0#16 s i).toNat : Nat)), (1, .str s), (5, .int .i64 i)], ⟨[], [], 0⟩)) (fun _ => True) s.size ?_ trivial ?_
  · simp only [go_sem, Int.reduceToNat, Nat.reduceAdd, Nat.reduceBEq, Nat.reduceLeDiff, Nat.reduceLT, Nat.reduceMul, Nat.reduceSub, Int.reduceEq, Int.reduceLT, Int.reduceLE, Int.reduceNeg] <;> rfl
  · intro i hi _
    rcases Nat.lt_or_ge i s.size with hlt | hge
    · have hs2 := w64_suc hlt hL
      have hd : s.data[i]? = some s.data[i] := Array.getElem?_eq_getElem (by exact hlt)
      have hu : upd 0#16 s (i + 1) = stp (upd 0#16 s i) s.data[i].toNat := by simp only [upd, hd, Option.getD_some]
      have hv := UInt8.toNat_lt s.data[i]
      obtain ⟨C, hC⟩ : ∃ C, upd 0#16 s i = C := ⟨_, rfl⟩
      obtain ⟨b, hb⟩ : ∃ b, s.data[i].toNat = b := ⟨_, rfl⟩
      rw [hC, hb] at hu
      rw [hb] at hv
      have e1 : IntKind.u16.wrap (b : Int) = ((BitVec.ofNat 16 b : W16).toNat : Nat) := by rw [wrapW, ← toW (by omega)]; omega
      have s1 := shlW (BitVec.ofNat 16 b) 8 (by omega)
      simp only [go_sem, Int.reduceToNat, Nat.reduceAdd, Nat.reduceBEq, Nat.reduceLeDiff, Nat.reduceLT, Nat.reduceMul, Nat.reduceSub, Int.reduceEq, Int.reduceLT, Int.reduceLE, Int.reduceNeg, hlt, hd, hC, hb, e1, s1, xorW]
      refine loop_post (fun j => ([(0, .int .u16 ((tmN (C ^^^ (BitVec.ofNat 16 b <<< 8)) j).toNat : Nat)), (1, .str s), (5, .int .i64 i), (6, .int .i64 j)], ⟨[], [], 0⟩)) (fun _ => True) 8 ?_ trivial ?_
      · simp only [go_sem, Int.reduceToNat, Nat.reduceAdd, Nat.reduceBEq, Nat.reduceLeDiff, Nat.reduceLT, Nat.reduceMul, Nat.reduceSub, Int.reduceEq, Int.reduceLT, Int.reduceLE, Int.reduceNeg] <;> rfl
      · intro j hj _
        rcases Nat.lt_or_ge j 8 with hlj | hgj
        · have hxj : decide ((j : Int) < 8) = true := decide_eq_true (by omega)
          have hsj : w64 ((j : Int) + 1) = ((j + 1 : Nat) : Int) := by rw [w64_id (by omega) (by omega)]; omega
          have h98 := fun H => s212 n H (tmN (C ^^^ (BitVec.ofNat 16 b <<< 8)) j)
          simp only [go_sem, Int.reduceToNat, Nat.reduceAdd, Nat.reduceBEq, Nat.reduceLeDiff, Nat.reduceLT, Nat.reduceMul, Nat.reduceSub, Int.reduceEq, Int.reduceLT, Int.reduceLE, Int.reduceNeg, hxj, hsj, h98]
          refine ⟨by first | trivial | omega, by first | trivial | rfl, trivial⟩
        · obtain rfl : j = 8 := by omega
          have ht : tmN (C ^^^ (BitVec.ofNat 16 b <<< 8)) 8 = stp C b := rfl
          have hxj : decide (((8 : Nat) : Int) < 8) = false := by decide
          simp only [go_sem, Int.reduceToNat, Nat.reduceAdd, Nat.reduceBEq, Nat.reduceLeDiff, Nat.reduceLT, Nat.reduceMul, Nat.reduceSub, Int.reduceEq, Int.reduceLT, Int.reduceLE, Int.reduceNeg, hxj, ht, hs2, hu]
          refine ⟨by first | trivial | omega, by first | trivial | rfl, trivial⟩
    · obtain rfl : i = s.size := by omega
      have hd : decide (s.size < s.size) = false := decide_eq_false (by omega)
      simp only [go_sem, Int.reduceToNat, Nat.reduceAdd, Nat.reduceBEq, Nat.reduceLeDiff, Nat.reduceLT, Nat.reduceMul, Nat.reduceSub, Int.reduceEq, Int.reduceLT, Int.reduceLE, Int.reduceNeg, hd]
theorem s146 (n : Nat) (H : Heap) (s : ByteArray) (hs : s.size ≤ 1000) : call1 T (n + 3) (.fn 146) [.str s] H = some (.int .u16 ((crcN s).toNat : Nat), H) := by
  refine call_pure e146 (by rfl) ?_
  simp only [c146, heap0, go_sem, Int.reduceToNat, Nat.reduceAdd, Nat.reduceBEq, Nat.reduceLeDiff, Nat.reduceLT, Nat.reduceMul, Nat.reduceSub, Int.reduceEq, Int.reduceLT, Int.reduceLE, Int.reduceNeg, s187 _ _ _ hs, crcN]
theorem s96 (n : Nat) (H : Heap) (s : ByteArray) (hs : s.size ≤ 1000) : call1 T (n + 4) (.fn 96) [.str s] H = some (.str (prot s), H) := by
  refine call_pure e96 (by rfl) ?_
  obtain ⟨C, hC⟩ : ∃ C, crcN s = C := ⟨_, rfl⟩
  have h : ∀ H, call1 T (n + 3) (.fn 146) [.str s] H = some (.int .u16 (C.toNat : Nat), H) := fun H => hC ▸ s146 n H s hs
  have hz : decide (s.size + #[UInt8.ofNat (C.toNat / 256), UInt8.ofNat (C.toNat % 256)].size ≤ 4611686018427387904) = true := decide_eq_true (show s.size + 2 ≤ 4611686018427387904 by omega)
  simp only [c96, heap0, go_sem, Int.reduceToNat, Nat.reduceAdd, Nat.reduceBEq, Nat.reduceLeDiff, Nat.reduceLT, Nat.reduceMul, Nat.reduceSub, Int.reduceEq, Int.reduceLT, Int.reduceLE, Int.reduceNeg, h, u8_hi, u8_lo, prot, hC, cr2, toB_cons, toB_nil, Option.map_some, hz]
end C13
end Go.Sh
